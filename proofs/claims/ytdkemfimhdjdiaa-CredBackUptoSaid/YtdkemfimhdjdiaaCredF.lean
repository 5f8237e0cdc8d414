/- The reference's order of credentials. -/
import Derived.Test.YtdkemfimhdjdiaaCredD
import Derived.Lib.BytesEntry
import Derived.Laws.Externs
namespace Go.Proofs.Ytdkemfimhdjdiaa
set_option linter.unusedSimpArgs false
set_option linter.unusedVariables false
open Go Go.RowKit
def credCmp (a b : CredT) : Int := cmp2 (credBy a) (credBy b)
end Go.Proofs.Ytdkemfimhdjdiaa

namespace Go.Proofs.Ytdkemfimhdjdiaa
set_option linter.unusedSimpArgs false
set_option linter.unusedVariables false
open Go Go.RowKit
theorem bytesOf_by {P : Program} {w : World} {a : Option Addr} {n c : Nat} {xs : List UInt8} (h : By w a n xs) : (Extern.Bytes.bytesOf (.slice a n c)).run P w = .ok ⟨xs.toArray⟩ w := by
  have hn := h.1
  rcases Nat.eq_zero_or_pos n with h0 | h0
  · have hx : xs = [] := List.eq_nil_of_length_eq_zero (by omega)
    subst hx
    subst h0
    cases a with
    | none => rfl
    | some ad => rfl
  · obtain ⟨b, off, rfl, hc, _⟩ := h.at h0
    have hl := Lib.run_loadBytesX (P := P) w (xs.map fun x => (x.toNat : Int)) ⟨b, off, none⟩ .empty (fun j x hj => by
      rw [List.getElem?_map] at hj
      cases hq : xs[j]? with
      | none => rw [hq] at hj; cases hj
      | some y => rw [hq] at hj; simp at hj; subst hj; rw [addr_add]; exact hc j y hq)
    rw [List.length_map, ← hn] at hl
    change (Extern.Bytes.loadBytes ⟨b, off, none⟩ n .empty).run P w = _
    rw [hl]
    congr 1
    apply ByteArray.ext
    simp [Lib.bytesOf]
    rw [show ((fun n : Int => UInt8.ofNat n.toNat) ∘ fun x : UInt8 => (x.toNat : Int)) = id from by funext x; simp, List.map_id]
theorem cmpExt {P : Program} {w : World} {a a' : Option Addr} {n n' c c' : Nat} {xs ys : List UInt8} (h : By w a n xs) (h' : By w a' n' ys) :
    (Extern.BytealgCompare.compare #[.slice a n c, .slice a' n' c']).run P w = .ok (.int .i64 (cmp2 xs ys)) w := by
  change Sem.run P (do pure (goInt (Extern.BytealgCompare.cmp (← Extern.Bytes.bytesOf (.slice a n c)) (← Extern.Bytes.bytesOf (.slice a' n' c'))))) w = _
  simp only [Sem.run_bind, Sem.run_pure, bytesOf_by h, bytesOf_by h', Result.andThen]
  rw [Lib.cmp_eq, cmpBytes_eq]
  rfl
set_option maxRecDepth 100000 in
set_option maxHeartbeats 1000000 in
theorem bytesCompare_any {W : World} {a a' : Option Addr} {n n' c c' : Nat} {xs ys : List UInt8} (h : By W a n xs) (h' : By W a' n' ys) :
    Calls Try.prog 100 #[.slice a n c, .slice a' n' c'] W fun e w' => e = .returned (.int .i64 (cmp2 xs ys)) ∧ Ext W w' := by
  have H := Lib.hid (cmpExt (P := Try.prog) (c := c) (c' := c') h h')
  clear h h'
  have st := Own.startOld W
  (try simp only [Value.cells, List.cons_append, List.nil_append, List.set, spl, putIt, pick, List.map_cons, List.map_nil, List.getElem?_cons_zero, List.getElem?_cons_succ, Option.getD_some, List.drop_succ_cons, List.drop_zero, List.drop_nil, List.append_nil, unB] at st)
  (try clear hc); have hc := st.facts; (try simp only [factsOf, blkI, blkFacts, rowI, byI, datI, nullI, oldI, penI, rdI, rdAnyI, rdOverI, Nat.zero_add, Nat.reduceAdd, and_true, true_and, and_self] at hc)
  go_enter Try.func100, Try.ntmps100
  go_wp2_with fail
  rw [run_callFunc_extern Try.func118 (by kernel_rfl) (by kernel_rfl) (by kernel_rfl) (e := Extern.BytealgCompare.compare) (by kernel_rfl), H.out]
  simp only [Result.andThen]
  rw [Oper.upon_value]
  go_wp2_with fail
  go_ret
  exact ⟨rfl, st.ext0⟩
set_option maxRecDepth 100000 in
set_option maxHeartbeats 1000000 in
theorem credCompare_any (x y : CredT) (W : World) (hx : CredL 100000 x) (hy : CredL 100000 y) :
    Calls Try.prog 54 #[cV x, cV y] W fun e w' => e = .returned (.int .i64 (credCmp x y)) ∧ Ext W w' := by
  have HX := Lib.hid (fun W => credBytes_any x W hx)
  have HY := Lib.hid (fun W => credBytes_any y W hy)
  have HC : Hid (credCmp x y = cmp2 (credBy x) (credBy y)) := Lib.hid rfl
  clear hx hy
  generalize credBy x = p at *
  generalize credBy y = q at *
  generalize credCmp x y = r at *
  obtain ⟨k, ⟨ho, hd⟩, nw, ⟨bo, bd⟩, ⟨co, cd⟩, we⟩ := x
  obtain ⟨k', ⟨ho', hd'⟩, nw', ⟨bo', bd'⟩, ⟨co', cd'⟩, we'⟩ := y
  have st := Own.startOld W
  unfold cV S at *
  simp only at HX HY
  (try simp only [Value.cells, List.cons_append, List.nil_append, List.set, spl, putIt, pick, List.map_cons, List.map_nil, List.getElem?_cons_zero, List.getElem?_cons_succ, Option.getD_some, List.drop_succ_cons, List.drop_zero, List.drop_nil, List.append_nil, unB] at st)
  (try clear hc); have hc := st.facts; (try simp only [factsOf, blkI, blkFacts, rowI, byI, datI, nullI, oldI, penI, rdI, rdAnyI, rdOverI, Nat.zero_add, Nat.reduceAdd, and_true, true_and, and_self] at hc)
  go_enter Try.func54, Try.ntmps54
  go_wp2_with ((first
        | ((with_reducible refine wl_box ?_ (fun K hK => ?_)); rfl; refine owp_box (o := ⟨some 2, _, _, _, _, _⟩) rfl st ?_; apply Exists.intro; refine ⟨?_, ?_⟩; (focus (go_simp; try rfl)); (clear st; intro b2 w hb st; clear hb))
        | ((with_reducible refine wl_box ?_ (fun K hK => ?_)); rfl; refine owp_box (o := ⟨some 3, _, _, _, _, _⟩) rfl st ?_; apply Exists.intro; refine ⟨?_, ?_⟩; (focus (go_simp; try rfl)); (clear st; intro b3 w hb st; clear hb))); (try simp only [Value.cells, List.cons_append, List.nil_append, List.set, spl, putIt, pick, List.map_cons, List.map_nil, List.getElem?_cons_zero, List.getElem?_cons_succ, Option.getD_some, List.drop_succ_cons, List.drop_zero, List.drop_nil, List.append_nil, unB] at st); (try clear hc); have hc := st.facts; (try simp only [factsOf, blkI, blkFacts, rowI, byI, datI, nullI, oldI, penI, rdI, rdAnyI, rdOverI, Nat.zero_add, Nat.reduceAdd, and_true, true_and, and_self] at hc))
  refine Rg4.wp_region4_eq #[0, 1, 0, 7, 15, 31] [1, 3, 4] [0] (fun W' => Blk W' b3 [.int .i64 k', .string ⟨ho'.toArray⟩, .string ⟨hd'.toArray⟩, .string ⟨nw'.toArray⟩, .string ⟨bo'.toArray⟩, .string ⟨bd'.toArray⟩, .string ⟨co'.toArray⟩, .string ⟨cd'.toArray⟩, .string ⟨we'.toArray⟩]) [0, 2, 1, 3, 4, 5] (by kernel_rfl) (by kernel_rfl) (by kernel_rfl) (by kernel_rfl) (show Rg4.PB _ by repeat (first | with_reducible exact Rg4.pb_body | with_reducible exact Rg4.pb_bodyD rfl | with_reducible refine Rg4.pb_then ?_ | with_reducible refine Rg4.pb_inBlock ?_ | with_reducible refine Rg4.pb_noGoto ?_)) (st.drew.blk (i := 2) get2) ?_
  replace st := st.drew
  change Rg4.wp4 _ _ _ _ _ _ _ _ _ (World.drew _) _ _
  generalize World.drew _ = w at st ⊢
  (try clear hc); have hc := st.facts; (try simp only [factsOf, blkI, blkFacts, rowI, byI, datI, nullI, oldI, penI, rdI, rdAnyI, rdOverI, Nat.zero_add, Nat.reduceAdd, and_true, true_and, and_self] at hc)
  (refine Rg4.w4_read (Rg4.want_none rfl) rfl rfl ?_; apply Exists.intro; refine ⟨fun w' hw' hcl' => ?_, ?_⟩; focus (subst hw'; (focus (first | (go_simp; done) | (go_simp; first | rfl | (rw [if_neg] <;> first | rfl | omega) | (rw [if_pos] <;> first | rfl | omega))))); (try simp only [Act.put, List.setIfInBounds_toArray, List.set]))
  (refine Rg4.w4_cl (Rg4.want_none rfl) rfl ?_; apply Exists.intro; refine ⟨fun w' hcl => ?_, ?_⟩; (focus (have q0 := Blk.cell hcl 0; have q1 := Blk.cell hcl 1; have q2 := Blk.cell hcl 2; have q3 := Blk.cell hcl 3; have q4 := Blk.cell hcl 4; have q5 := Blk.cell hcl 5; have q6 := Blk.cell hcl 6; have q7 := Blk.cell hcl 7; have q8 := Blk.cell hcl 8; (try simp at q0 q1 q2 q3 q4 q5 q6 q7 q8); (focus (first | (go_simp; done) | (go_simp; first | rfl | (rw [if_neg] <;> first | rfl | omega) | (rw [if_pos] <;> first | rfl | omega)))))); (try simp only [Act.put, List.setIfInBounds_toArray, List.set]))
  refine Rg4.w4_bar (Rg4.want_none rfl) rfl (fun w' hw' hcl _ K hK => ?_)
  subst hw'
  go_wp2_with fail
  refine (HX.out _).mono ?_
  rintro en w ⟨pa, pn, pc, rfl, hpc, hby, hx⟩
  replace st := st.ext hx
  clear hx
  (try simp only [Value.cells, List.cons_append, List.nil_append, List.set, spl, putIt, pick, List.map_cons, List.map_nil, List.getElem?_cons_zero, List.getElem?_cons_succ, Option.getD_some, List.drop_succ_cons, List.drop_zero, List.drop_nil, List.append_nil, unB] at st)
  (try clear hc); have hc := st.facts; (try simp only [factsOf, blkI, blkFacts, rowI, byI, datI, nullI, oldI, penI, rdI, rdAnyI, rdOverI, Nat.zero_add, Nat.reduceAdd, and_true, true_and, and_self] at hc)
  refine hK _ _ ⟨st.blk (i := 2) get2, ?_⟩
  clear hK
  (try simp only [Act.put, List.setIfInBounds_toArray, List.set])

  refine Rg4.w4_bar (Rg4.want_none rfl) rfl (fun w' hw' hcl _ K hK => ?_)
  subst hw'
  go_wp2_with fail
  refine (HY.out _).mono ?_
  rintro en w ⟨qa, qn, qc, rfl, hqc, hqy, hx⟩
  have hby2 := hby.ext hx
  replace st := st.ext hx
  clear hx
  (try simp only [Value.cells, List.cons_append, List.nil_append, List.set, spl, putIt, pick, List.map_cons, List.map_nil, List.getElem?_cons_zero, List.getElem?_cons_succ, Option.getD_some, List.drop_succ_cons, List.drop_zero, List.drop_nil, List.append_nil, unB] at st)
  (try clear hc); have hc := st.facts; (try simp only [factsOf, blkI, blkFacts, rowI, byI, datI, nullI, oldI, penI, rdI, rdAnyI, rdOverI, Nat.zero_add, Nat.reduceAdd, and_true, true_and, and_self] at hc)
  refine hK _ _ ⟨st.blk (i := 2) get2, ?_⟩
  clear hK
  (try simp only [Act.put, List.setIfInBounds_toArray, List.set])

  refine Rg4.w4_bar (Rg4.want_none rfl) rfl (fun w' hw' hcl _ K hK => ?_)
  subst hw'
  go_wp2_with fail
  refine (bytesCompare_any hby2 hqy).mono ?_
  rintro en w ⟨rfl, hx⟩
  replace st := st.ext hx
  clear hx
  (try simp only [Value.cells, List.cons_append, List.nil_append, List.set, spl, putIt, pick, List.map_cons, List.map_nil, List.getElem?_cons_zero, List.getElem?_cons_succ, Option.getD_some, List.drop_succ_cons, List.drop_zero, List.drop_nil, List.append_nil, unB] at st)
  (try clear hc); have hc := st.facts; (try simp only [factsOf, blkI, blkFacts, rowI, byI, datI, nullI, oldI, penI, rdI, rdAnyI, rdOverI, Nat.zero_add, Nat.reduceAdd, and_true, true_and, and_self] at hc)
  refine hK _ _ ⟨st.blk (i := 2) get2, ?_⟩
  clear hK
  (try simp only [Act.put, List.setIfInBounds_toArray, List.set])
  (refine Rg4.w4_any (Rg4.want_none rfl) rfl ?_; apply Exists.intro; refine ⟨fun w' => ?_, ?_⟩; (focus (first | (go_simp; done) | (go_simp; first | rfl | (rw [if_neg] <;> first | rfl | omega) | (rw [if_pos] <;> first | rfl | omega)))); (try simp only [Act.put, List.setIfInBounds_toArray, List.set]))
  refine Rg4.w4_nil (fun w' hw' hcl' _ => ?_); subst hw'; clear hcl'
  go_wp2_with fail
  go_ret
  exact ⟨by rw [HC.out]; rfl, st.ext0⟩
end Go.Proofs.Ytdkemfimhdjdiaa
