/- The reference's order of credentials. -/
import Derived.Test.YtekngjkjgmplpaaCredD
import Derived.Lib.BytesEntry
import Derived.Laws.Externs
import Derived.ArgAppend
import Derived.Test.YtekngjkjgmplpaaCredA
import Derived.Deep.Onto
namespace Go.Proofs.Ytekngjkjgmplpaa
set_option linter.unusedSimpArgs false
set_option linter.unusedVariables false
open Go Go.RowKit
def credCmp (a b : CredT) : Int := cmp2 (credBy a) (credBy b)
set_option maxRecDepth 100000 in
set_option maxHeartbeats 1000000 in
theorem refCredCompare_any (x y : CredT) (W : World) (hx : CredL 100000 x) (hy : CredL 100000 y) :
    Calls Try.prog 92 #[cV x, cV y] W fun e w' => e = .returned (.int .i64 (credCmp x y)) ∧ Ext W w' := by
  have HX := Lib.hid (fun W => refCredBy_any x W hx)
  have HY := Lib.hid (fun W => refCredBy_any y W hy)
  have HC : Hid (credCmp x y = cmp2 (credBy x) (credBy y)) := Lib.hid rfl
  clear hx hy
  generalize credBy x = p at *
  generalize credBy y = q at *
  generalize credCmp x y = r at *
  obtain ⟨k, ⟨ho, hd⟩, nw, ⟨bo, bd⟩, ⟨co, cd⟩, we⟩ := x
  obtain ⟨k', ⟨ho', hd'⟩, nw', ⟨bo', bd'⟩, ⟨co', cd'⟩, we'⟩ := y
  have st := Own.startOld W
  unfold cV S at *
  simp only at HX HY
  (try simp only [nsl, Value.cells, unB] at st)
  (try clear hc); have hc := st.facts; (try simp only [nfl, nft, Nat.reduceAdd] at hc)
  go_enter Try.func92, Try.ntmps92
  go_wp2_with ((first
        | ((with_reducible refine wl_box ?_ (fun K hK => ?_)); rfl; refine owp_box (o := ⟨some 2, _, _, _, _, _⟩) rfl st ?_; apply Exists.intro; refine ⟨?_, ?_⟩; (focus (go_simp; try rfl)); (clear st; intro b2 w hb st; clear hb))
        | ((with_reducible refine wl_box ?_ (fun K hK => ?_)); rfl; refine owp_box (o := ⟨some 3, _, _, _, _, _⟩) rfl st ?_; apply Exists.intro; refine ⟨?_, ?_⟩; (focus (go_simp; try rfl)); (clear st; intro b3 w hb st; clear hb))); (try simp only [nsl, Value.cells, unB] at st); (try clear hc); have hc := st.facts; (try simp only [nfl, nft, Nat.reduceAdd] at hc))
  refine (HX.out _).mono ?_
  rintro en w ⟨rfl, hx⟩
  replace st := st.ext hx
  clear hx
  (try clear hc); have hc := st.facts; (try simp only [nfl, nft, Nat.reduceAdd] at hc)
  go_wp2_with fail
  refine (HY.out _).mono ?_
  rintro en w ⟨rfl, hx⟩
  replace st := st.ext hx
  clear hx
  (try clear hc); have hc := st.facts; (try simp only [nfl, nft, Nat.reduceAdd] at hc)
  cases h1 : strLt p q with
  | true =>
    have H1 := Lib.hid h1
    have hb : Op.bytesLess p q = true := h1
    clear h1
    go_wp2_with fail
    go_ret
    exact ⟨by rw [HC.out]; simp [cmp2, H1.out], st.ext0⟩
  | false =>
    have H1 := Lib.hid h1
    have hb : Op.bytesLess p q = false := h1
    clear h1
    cases h2 : strLt q p with
    | true =>
      have H2 := Lib.hid h2
      have hb2 : (!(Op.bytesLess p q || p == q)) = true := by
        rw [hb, (strLt_asymm h2).2]; rfl
      have hb3 : (p == q) = false := (strLt_asymm h2).2
      have hb4 : (!(p == q)) = true := by rw [hb3]; rfl
      clear h2
      go_wp2_with fail
      go_ret
      exact ⟨by rw [HC.out]; simp [cmp2, H1.out, H2.out], st.ext0⟩
    | false =>
      have H2 := Lib.hid h2
      have hpq : p = q := by
        rcases strLt_tri p q with h | h | h
        · rw [H1.out] at h; cases h
        · exact h
        · rw [H2.out] at h; cases h
      subst hpq
      have hb2 : (!(Op.bytesLess p p || p == p)) = false := by simp
      have hb4 : (!(p == p)) = false := by simp
      clear h2
      go_wp2_with fail
      go_ret
      exact ⟨by rw [HC.out]; simp [cmp2, H1.out, H2.out], st.ext0⟩
end Go.Proofs.Ytekngjkjgmplpaa

namespace Go.Proofs.Ytekngjkjgmplpaa
set_option linter.unusedSimpArgs false
set_option linter.unusedVariables false
open Go Go.RowKit
theorem bytesOf_by {P : Program} {w : World} {a : Option Addr} {n c : Nat} {xs : List UInt8} (h : By w a n xs) : (Extern.Bytes.bytesOf (.slice a n c)).run P w = .ok ⟨xs.toArray⟩ w := by
  have hn := h.1
  rcases Nat.eq_zero_or_pos n with h0 | h0
  · have hx : xs = [] := List.eq_nil_of_length_eq_zero (by omega)
    subst hx
    subst h0
    cases a with
    | none => rfl
    | some ad => rfl
  · obtain ⟨b, off, rfl, hc, _⟩ := h.at h0
    have hl := Lib.run_loadBytesX (P := P) w (xs.map fun x => (x.toNat : Int)) ⟨b, off, none⟩ .empty (fun j x hj => by
      rw [List.getElem?_map] at hj
      cases hq : xs[j]? with
      | none => rw [hq] at hj; cases hj
      | some y => rw [hq] at hj; simp at hj; subst hj; rw [addr_add]; exact hc j y hq)
    rw [List.length_map, ← hn] at hl
    change (Extern.Bytes.loadBytes ⟨b, off, none⟩ n .empty).run P w = _
    rw [hl]
    congr 1
    apply ByteArray.ext
    simp [Lib.bytesOf]
    rw [show ((fun n : Int => UInt8.ofNat n.toNat) ∘ fun x : UInt8 => (x.toNat : Int)) = id from by funext x; simp, List.map_id]
theorem cmpExt {P : Program} {w : World} {a a' : Option Addr} {n n' c c' : Nat} {xs ys : List UInt8} (h : By w a n xs) (h' : By w a' n' ys) :
    (Extern.BytealgCompare.compare #[.slice a n c, .slice a' n' c']).run P w = .ok (.int .i64 (cmp2 xs ys)) w := by
  change Sem.run P (do pure (goInt (Extern.BytealgCompare.cmp (← Extern.Bytes.bytesOf (.slice a n c)) (← Extern.Bytes.bytesOf (.slice a' n' c'))))) w = _
  simp only [Sem.run_bind, Sem.run_pure, bytesOf_by h, bytesOf_by h', Result.andThen]
  rw [Lib.cmp_eq, cmpBytes_eq]
  rfl
set_option maxRecDepth 100000 in
set_option maxHeartbeats 1000000 in
theorem bytesCompare_any {W : World} {a a' : Option Addr} {n n' c c' : Nat} {xs ys : List UInt8} (h : By W a n xs) (h' : By W a' n' ys) :
    Calls Try.prog 200 #[.slice a n c, .slice a' n' c'] W fun e w' => e = .returned (.int .i64 (cmp2 xs ys)) ∧ Ext W w' := by
  have H := Lib.hid (cmpExt (P := Try.prog) (c := c) (c' := c') h h')
  clear h h'
  have st := Own.startOld W
  (try simp only [nsl, Value.cells, unB] at st)
  (try clear hc); have hc := st.facts; (try simp only [nfl, nft, Nat.reduceAdd] at hc)
  go_enter Try.func200, Try.ntmps200
  go_wp2_with fail
  rw [run_callFunc_extern Try.func219 (by kernel_rfl) (by kernel_rfl) (by kernel_rfl) (e := Extern.BytealgCompare.compare) (by kernel_rfl), H.out]
  simp only [Result.andThen]
  rw [Oper.upon_value]
  go_wp2_with fail
  go_ret
  exact ⟨rfl, st.ext0⟩
set_option maxRecDepth 100000 in
set_option maxHeartbeats 1000000 in
theorem credCompare_any (x y : CredT) (W : World) (hx : CredL 100000 x) (hy : CredL 100000 y) :
    Calls Try.prog 161 #[cV x, cV y] W fun e w' => e = .returned (.int .i64 (credCmp x y)) ∧ Ext W w' := by
  have HX := Lib.hid (fun W => credBytes_any x W hx)
  have HY := Lib.hid (fun W => credBytes_any y W hy)
  have HC : Hid (credCmp x y = cmp2 (credBy x) (credBy y)) := Lib.hid rfl
  clear hx hy
  generalize credBy x = p at *
  generalize credBy y = q at *
  generalize credCmp x y = r at *
  obtain ⟨k, ⟨ho, hd⟩, nw, ⟨bo, bd⟩, ⟨co, cd⟩, we⟩ := x
  obtain ⟨k', ⟨ho', hd'⟩, nw', ⟨bo', bd'⟩, ⟨co', cd'⟩, we'⟩ := y
  have st := Own.startOld W
  unfold cV S at *
  simp only at HX HY
  (try simp only [nsl, Value.cells, unB] at st)
  (try clear hc); have hc := st.facts; (try simp only [nfl, nft, Nat.reduceAdd] at hc)
  go_enter Try.func161, Try.ntmps161
  go_wp2_with ((first
        | ((with_reducible refine wl_box ?_ (fun K hK => ?_)); rfl; refine owp_box (o := ⟨some 2, _, _, _, _, _⟩) rfl st ?_; apply Exists.intro; refine ⟨?_, ?_⟩; (focus (go_simp; try rfl)); (clear st; intro b2 w hb st; clear hb))
        | ((with_reducible refine wl_box ?_ (fun K hK => ?_)); rfl; refine owp_box (o := ⟨some 3, _, _, _, _, _⟩) rfl st ?_; apply Exists.intro; refine ⟨?_, ?_⟩; (focus (go_simp; try rfl)); (clear st; intro b3 w hb st; clear hb))); (try simp only [nsl, Value.cells, unB] at st); (try clear hc); have hc := st.facts; (try simp only [nfl, nft, Nat.reduceAdd] at hc))
  refine Rg4.wp_region4_eq #[0, 1, 0, 7, 15, 31] [1, 3, 4] [0] (fun W' => Blk W' b3 [.int .i64 k', .string ⟨ho'.toArray⟩, .string ⟨hd'.toArray⟩, .string ⟨nw'.toArray⟩, .string ⟨bo'.toArray⟩, .string ⟨bd'.toArray⟩, .string ⟨co'.toArray⟩, .string ⟨cd'.toArray⟩, .string ⟨we'.toArray⟩]) [0, 2, 1, 3, 4, 5] (by kernel_rfl) (by kernel_rfl) (by kernel_rfl) (by kernel_rfl) (show Rg4.PB _ by repeat (first | with_reducible exact Rg4.pb_body | with_reducible exact Rg4.pb_bodyD rfl | with_reducible refine Rg4.pb_then ?_ | with_reducible refine Rg4.pb_inBlock ?_ | with_reducible refine Rg4.pb_noGoto ?_)) (st.drew.blk (i := 2) get2) ?_
  replace st := st.drew
  change Rg4.wp4 _ _ _ _ _ _ _ _ _ (World.drew _) _ _
  generalize World.drew _ = w at st ⊢
  (try clear hc); have hc := st.facts; (try simp only [nfl, nft, Nat.reduceAdd] at hc)
  (refine Rg4.w4_read (Rg4.want_none rfl) rfl rfl ?_; apply Exists.intro; refine ⟨fun w' hw' hcl' => ?_, ?_⟩; focus (subst hw'; (focus (first | (go_simp; done) | (go_simp; first | rfl | (rw [if_neg] <;> first | rfl | omega) | (rw [if_pos] <;> first | rfl | omega))))); (try simp only [Rg4.nrm]))
  (refine Rg4.w4_cl (Rg4.want_none rfl) rfl ?_; apply Exists.intro; refine ⟨fun w' hcl => ?_, ?_⟩; (focus (have q0 := Blk.cell hcl 0; have q1 := Blk.cell hcl 1; have q2 := Blk.cell hcl 2; have q3 := Blk.cell hcl 3; have q4 := Blk.cell hcl 4; have q5 := Blk.cell hcl 5; have q6 := Blk.cell hcl 6; have q7 := Blk.cell hcl 7; have q8 := Blk.cell hcl 8; (try simp at q0 q1 q2 q3 q4 q5 q6 q7 q8); (focus (first | (go_simp; done) | (go_simp; first | rfl | (rw [if_neg] <;> first | rfl | omega) | (rw [if_pos] <;> first | rfl | omega)))))); (try simp only [Rg4.nrm]))
  refine Rg4.w4_bar (Rg4.want_none rfl) rfl (fun w' hw' hcl _ K hK => ?_)
  subst hw'
  go_wp2_with fail
  refine (HX.out _).mono ?_
  rintro en w ⟨pa, pn, pc, rfl, hpc, hby, hx⟩
  replace st := st.ext hx
  clear hx
  (try simp only [nsl, Value.cells, unB] at st)
  (try clear hc); have hc := st.facts; (try simp only [nfl, nft, Nat.reduceAdd] at hc)
  refine hK _ _ ⟨st.blk (i := 2) get2, ?_⟩
  clear hK
  (try simp only [Rg4.nrm])

  refine Rg4.w4_bar (Rg4.want_none rfl) rfl (fun w' hw' hcl _ K hK => ?_)
  subst hw'
  go_wp2_with fail
  refine (HY.out _).mono ?_
  rintro en w ⟨qa, qn, qc, rfl, hqc, hqy, hx⟩
  have hby2 := hby.ext hx
  replace st := st.ext hx
  clear hx
  (try simp only [nsl, Value.cells, unB] at st)
  (try clear hc); have hc := st.facts; (try simp only [nfl, nft, Nat.reduceAdd] at hc)
  refine hK _ _ ⟨st.blk (i := 2) get2, ?_⟩
  clear hK
  (try simp only [Rg4.nrm])

  refine Rg4.w4_bar (Rg4.want_none rfl) rfl (fun w' hw' hcl _ K hK => ?_)
  subst hw'
  go_wp2_with fail
  refine (bytesCompare_any hby2 hqy).mono ?_
  rintro en w ⟨rfl, hx⟩
  replace st := st.ext hx
  clear hx
  (try simp only [nsl, Value.cells, unB] at st)
  (try clear hc); have hc := st.facts; (try simp only [nfl, nft, Nat.reduceAdd] at hc)
  refine hK _ _ ⟨st.blk (i := 2) get2, ?_⟩
  clear hK
  (try simp only [Rg4.nrm])
  (refine Rg4.w4_any (Rg4.want_none rfl) rfl ?_; apply Exists.intro; refine ⟨fun w' => ?_, ?_⟩; (focus (first | (go_simp; done) | (go_simp; first | rfl | (rw [if_neg] <;> first | rfl | omega) | (rw [if_pos] <;> first | rfl | omega)))); (try simp only [Rg4.nrm]))
  refine Rg4.w4_nil (fun w' hw' hcl' _ => ?_); subst hw'; clear hcl'
  go_wp2_with fail
  go_ret
  exact ⟨by rw [HC.out]; rfl, st.ext0⟩
end Go.Proofs.Ytekngjkjgmplpaa

namespace Go.Proofs.Ytekngjkjgmplpaa
set_option linter.unusedSimpArgs false
set_option linter.unusedVariables false
open Go Go.RowKit
def zC : CredT := ⟨0, ([], []), [], ([], []), ([], []), []⟩
theorem cred_cells (x : CredT) : Flt.cells x = [.int .i64 x.k, .string ⟨x.h.1.toArray⟩, .string ⟨x.h.2.toArray⟩, .string ⟨x.w.toArray⟩, .string ⟨x.b.1.toArray⟩, .string ⟨x.b.2.toArray⟩, .string ⟨x.c.1.toArray⟩, .string ⟨x.c.2.toArray⟩, .string ⟨x.e.toArray⟩] := rfl
theorem credInfo : ∃ i, Try.prog.info? 32 = some i ∧ i.zero = some (cV zC) ∧ i.size = 9 ∧ i.bytes = 136 := info_parts (by kernel_rfl)
theorem credLen {w : World} {n : Nat} {v : Value} {E : TypeId} {xs : List CredT} (h : w.ownsRow 0 E 9 v n (cellsL xs)) : n = xs.length := by
  have := h.1
  rw [cellsL_len, fltCred_k] at this
  omega
theorem cred_get {xs : List CredT} {j : Nat} {x : CredT} (h : xs[j]? = some x) : (cellsL xs)[j * 9]? = some (.int .i64 x.k) ∧ (cellsL xs)[j * 9 + 1]? = some (S x.h.1) ∧ (cellsL xs)[j * 9 + 2]? = some (S x.h.2) ∧ (cellsL xs)[j * 9 + 3]? = some (S x.w) ∧ (cellsL xs)[j * 9 + 4]? = some (S x.b.1) ∧ (cellsL xs)[j * 9 + 5]? = some (S x.b.2) ∧ (cellsL xs)[j * 9 + 6]? = some (S x.c.1) ∧ (cellsL xs)[j * 9 + 7]? = some (S x.c.2) ∧ (cellsL xs)[j * 9 + 8]? = some (S x.e) :=
  ⟨cellsL_get (i := j) (j := 0) h (by decide), cellsL_get (i := j) (j := 1) h (by decide), cellsL_get (i := j) (j := 2) h (by decide), cellsL_get (i := j) (j := 3) h (by decide), cellsL_get (i := j) (j := 4) h (by decide), cellsL_get (i := j) (j := 5) h (by decide), cellsL_get (i := j) (j := 6) h (by decide), cellsL_get (i := j) (j := 7) h (by decide), cellsL_get (i := j) (j := 8) h (by decide)⟩
set_option maxRecDepth 100000 in
set_option maxHeartbeats 1000000 in
theorem indexFuncCred_c {fr al : Nat → Prop} {w0 w : World} {n c : Nat} {a : Option Addr} {xs : List CredT} (st : Own fr al w0 [rowI 32 9 (.slice a n c) n (cellsL xs)] w) (hn : n ≤ 2000000) (F : FuncId) (cap : Array Value) (p : CredT → Bool)
    (hi : ∀ w x, (callFunc F (#[x] ++ cap)).run Try.prog w = .ok (.enter F (#[x] ++ cap)) w)
    (hp : ∀ x ∈ xs, ∀ w, Calls Try.prog F (#[cV x] ++ cap) w fun e w' => e = .returned (.bool (p x)) ∧ Ext w w') :
    Calls Try.prog 185 #[.slice a n c, .func (.func F) #[] cap] w fun e w' => ∃ v, e = .returned (.int .i64 v) ∧ IxIs p xs v ∧ Own fr al w0 [rowI 32 9 (.slice a n c) n (cellsL xs)] w' := by
  have HP := Lib.hid hp
  have HN : Hid (n = xs.length) := Lib.hid (credLen (st.row (i := 0) get0))
  clear hp
  (try simp only [nsl, Value.cells, unB] at st)
  (try clear hc); have hc := st.facts; (try simp only [nfl, nft, Nat.reduceAdd] at hc)
  go_enter Try.func185, Try.ntmps185
  go_wp2_with fail
  go_loopg [8] n (fun k i wr => ∃ (j : Nat), j ≤ n ∧ k = n - j ∧ i = .int .i64 (j : Int) ∧ Hid (∀ x ∈ xs.take j, p x = false) ∧ Own fr al w0 [rowI 32 9 (.slice a n c) n (cellsL xs)] wr)
  case atStart => exact ⟨0, by omega, by omega, rfl, Lib.hid (by simp), st⟩
  case round =>
    obtain ⟨j, hj, rfl, rfl, HT, st'⟩ := hrel
    clear st hc
    have st := st'
    clear st'
    (try simp only [nsl, Value.cells, unB] at st)
    (try clear hc); have hc := st.facts; (try simp only [nfl, nft, Nat.reduceAdd] at hc)
    by_cases hjn : j < n
    · obtain ⟨g, cap', hv, hcap, hrow⟩ := st.rowAt (i := 0) get0 (by omega)
      injection hv with hv1 hv2 hv3
      subst hv1 hv3
      have hjl : j < xs.length := by have := HN.out; omega
      have r0 := hrow (j * 9) (.int .i64 xs[j].k) (cred_get (List.getElem?_eq_getElem hjl)).1
      have r1 := hrow (j * 9 + 1) (S xs[j].h.1) (cred_get (List.getElem?_eq_getElem hjl)).2.1
      have r2 := hrow (j * 9 + 2) (S xs[j].h.2) (cred_get (List.getElem?_eq_getElem hjl)).2.2.1
      have r3 := hrow (j * 9 + 3) (S xs[j].w) (cred_get (List.getElem?_eq_getElem hjl)).2.2.2.1
      have r4 := hrow (j * 9 + 4) (S xs[j].b.1) (cred_get (List.getElem?_eq_getElem hjl)).2.2.2.2.1
      have r5 := hrow (j * 9 + 5) (S xs[j].b.2) (cred_get (List.getElem?_eq_getElem hjl)).2.2.2.2.2.1
      have r6 := hrow (j * 9 + 6) (S xs[j].c.1) (cred_get (List.getElem?_eq_getElem hjl)).2.2.2.2.2.2.1
      have r7 := hrow (j * 9 + 7) (S xs[j].c.2) (cred_get (List.getElem?_eq_getElem hjl)).2.2.2.2.2.2.2.1
      have r8 := hrow (j * 9 + 8) (S xs[j].e) (cred_get (List.getElem?_eq_getElem hjl)).2.2.2.2.2.2.2.2
      have hts : xs.take (j + 1) = xs.take j ++ [xs[j]] := (List.take_append_getElem hjl).symm
      have hx := HP.out xs[j] (List.getElem_mem hjl)
      have hge := List.getElem?_eq_getElem hjl
      clear hrow
      generalize xs[j] = x at *
      obtain ⟨kk, ⟨ho, hd⟩, nw, ⟨bo, bd⟩, ⟨co, cd⟩, we⟩ := x
      have HX := Lib.hid (And.intro hts (And.intro hjl hge))
      clear hts hge hjl
      simp only at r0 r1 r2 r3 r4 r5 r6 r7 r8
      unfold S at r1 r2 r3 r4 r5 r6 r7 r8
      unfold cV S at hx
      have HQ := Lib.hid hx
      clear hx
      go_wp2_with fail
      refine (HQ.out _).mono ?_
      rintro en w ⟨rfl, hx⟩
      replace st := st.ext hx
      clear hx r0 r1 r2 r3 r4 r5 r6 r7 r8
      by_cases hpx : p (⟨kk, (ho, hd), nw, (bo, bd), (co, cd), we⟩ : CredT) = true
      · rw [hpx]
        have HF : Hid (IxIs p xs (j : Int)) := Lib.hid (.inr ⟨j, (⟨kk, (ho, hd), nw, (bo, bd), (co, cd), we⟩ : CredT), rfl, HX.out.2.1, HX.out.2.2, hpx, HT.out⟩)
        clear hpx
        go_wp2_with fail
        go_ret
        exact ⟨_, rfl, HF.out, st⟩
      · have hpx' : p (⟨kk, (ho, hd), nw, (bo, bd), (co, cd), we⟩ : CredT) = false := by simpa using hpx
        rw [hpx']
        have HF : Hid (∀ y ∈ xs.take (j + 1), p y = false) := Lib.hid (fun y hy => by
          rw [HX.out.1] at hy
          rcases List.mem_append.1 hy with q | q
          · exact HT.out y q
          · rw [List.mem_singleton.1 q]; exact hpx')
        clear hpx hpx'
        go_wp2_with fail
        go_roundg (n - (j + 1))
        case measure => omega
        case rel => exact ⟨j + 1, by omega, rfl, by go_num, HF, st⟩
    · obtain rfl : j = n := by omega
      have HF : Hid (IxIs p xs (-1)) := Lib.hid (.inl ⟨rfl, by have := HT.out; rwa [List.take_of_length_le (by have := HN.out; omega)] at this⟩)
      go_wp2_with fail
      go_ret
      exact ⟨_, rfl, HF.out, st⟩
set_option maxRecDepth 100000 in
set_option maxHeartbeats 2000000 in
theorem deleteFuncCred_c {fr al : Nat → Prop} {w0 w : World} {n c : Nat} {a : Option Addr} {xs : List CredT} (st : Own fr al w0 [rowI 32 9 (.slice a n c) n (cellsL xs)] w) (hn : n ≤ 2000000) (F : FuncId) (cap : Array Value) (p : CredT → Bool)
    (hi : ∀ w x, (callFunc F (#[x] ++ cap)).run Try.prog w = .ok (.enter F (#[x] ++ cap)) w)
    (hp : ∀ x ∈ xs, ∀ w, Calls Try.prog F (#[cV x] ++ cap) w fun e w' => e = .returned (.bool (p x)) ∧ Ext w w') :
    Calls Try.prog 133 #[.slice a n c, .func (.func F) #[] cap] w fun e w' => ∃ m, e = .returned (.slice a m c) ∧ Own fr al w0 [rowI 32 9 (.slice a m c) m (cellsL (xs.filter fun x => !p x))] w' := by
  have HP := Lib.hid hp
  have HN : Hid (n = xs.length) := Lib.hid (credLen (st.row (i := 0) get0))
  clear hp
  (try simp only [nsl, Value.cells, unB] at st)
  (try clear hc); have hc := st.facts; (try simp only [nfl, nft, Nat.reduceAdd] at hc)
  go_enter Try.func133, Try.ntmps133
  go_wp2_with fail
  refine (indexFuncCred_c st hn F cap p hi HP.out).mono ?_
  clear st
  rintro en w ⟨v, rfl, hix, st⟩
  rcases hix with ⟨rfl, hall⟩ | ⟨i0, y, rfl, hil, hiy, hpy, hpre⟩
  · have HF : Hid (xs.filter (fun x => !p x) = xs) := Lib.hid (List.filter_eq_self.2 fun x hx => by simp [hall x hx])
    clear hall
    go_wp2_with fail
    go_ret
    exact ⟨n, rfl, by rw [HF.out]; exact st⟩
  · obtain ⟨g, cap', hv, hcap, hrow⟩ := st.rowAt (i := 0) get0 (by have := HN.out; omega)
    injection hv with hv1 hv2 hv3
    subst hv1 hv3
    clear hrow
    have hi0 : i0 < n := by have := HN.out; omega
    have HS : Hid (xs.take i0 = (xs.take (i0 + 1)).filter (fun x => !p x)) := Lib.hid (by
      have e1 : xs[i0] = y := by rw [List.getElem?_eq_getElem hil] at hiy; injection hiy
      rw [← List.take_append_getElem hil, List.filter_append, e1]
      simp only [List.filter_cons, hpy]
      simp
      exact (List.filter_eq_self.2 fun x hx => by simp [hpre x hx]).symm)
    have hcap2 : c ≤ 9223372036854775807 := by have := hcap.2; simpa [maxLen] using this
    have hcap1 := hcap.1
    clear hil hiy hpy hpre hcap
    have hb1 : ((i0 : Int) == -1) = false := by simp
    go_wp2_with fail
    go_loopg [5, 6] (n - (i0 + 1)) (fun k vi vj wr => ∃ (i j : Nat) (zs : List CredT), j ≤ n ∧ k = n - j ∧ i < j ∧ vi = .int .i64 (i : Int) ∧ vj = .int .i64 (j : Int) ∧ Hid (zs.length = n ∧ zs.take i = (xs.take j).filter (fun x => !p x) ∧ zs.drop j = xs.drop j) ∧ Own fr al w0 [rowI 32 9 (.slice (some ⟨g, 0, none⟩) n c) n (cellsL zs)] wr)
    case atStart => exact ⟨i0, i0 + 1, xs, by omega, by omega, by omega, rfl, by go_num, Lib.hid ⟨HN.out.symm, HS.out, rfl⟩, st⟩
    case round =>
      obtain ⟨i, j, zs, hj, rfl, hij, rfl, rfl, HZ, st'⟩ := hrel
      clear st
      have st := st'
      clear st'
      (try simp only [nsl, Value.cells, unB] at st)
      (try clear hc); have hc := st.facts; (try simp only [nfl, nft, Nat.reduceAdd] at hc)
      by_cases hjn : j < n
      · obtain ⟨g', cap', hv, hcap, hrow⟩ := st.rowAt (i := 0) get0 (by omega)
        injection hv with hv1 hv2 hv3
        injection hv1 with hv1
        injection hv1 with hv1 _ _
        subst hv1 hv3
        have hjz : j < zs.length := by have := HZ.out.1; omega
        have hjx : j < xs.length := by have := HN.out; omega
        have hzx : zs[j] = xs[j] := by
          have e1 := congrArg (fun l => l[0]?) HZ.out.2.2
          simp only [List.getElem?_drop, Nat.add_zero, List.getElem?_eq_getElem hjz, List.getElem?_eq_getElem hjx] at e1
          injection e1
        have r0 := hrow (j * 9) (.int .i64 xs[j].k) (by rw [← hzx]; exact (cred_get (List.getElem?_eq_getElem hjz)).1)
        have r1 := hrow (j * 9 + 1) (S xs[j].h.1) (by rw [← hzx]; exact (cred_get (List.getElem?_eq_getElem hjz)).2.1)
        have r2 := hrow (j * 9 + 2) (S xs[j].h.2) (by rw [← hzx]; exact (cred_get (List.getElem?_eq_getElem hjz)).2.2.1)
        have r3 := hrow (j * 9 + 3) (S xs[j].w) (by rw [← hzx]; exact (cred_get (List.getElem?_eq_getElem hjz)).2.2.2.1)
        have r4 := hrow (j * 9 + 4) (S xs[j].b.1) (by rw [← hzx]; exact (cred_get (List.getElem?_eq_getElem hjz)).2.2.2.2.1)
        have r5 := hrow (j * 9 + 5) (S xs[j].b.2) (by rw [← hzx]; exact (cred_get (List.getElem?_eq_getElem hjz)).2.2.2.2.2.1)
        have r6 := hrow (j * 9 + 6) (S xs[j].c.1) (by rw [← hzx]; exact (cred_get (List.getElem?_eq_getElem hjz)).2.2.2.2.2.2.1)
        have r7 := hrow (j * 9 + 7) (S xs[j].c.2) (by rw [← hzx]; exact (cred_get (List.getElem?_eq_getElem hjz)).2.2.2.2.2.2.2.1)
        have r8 := hrow (j * 9 + 8) (S xs[j].e) (by rw [← hzx]; exact (cred_get (List.getElem?_eq_getElem hjz)).2.2.2.2.2.2.2.2)
        have hts : xs.take (j + 1) = xs.take j ++ [xs[j]] := (List.take_append_getElem hjx).symm
        have hx := HP.out xs[j] (List.getElem_mem hjx)
        clear hrow hzx
        generalize xs[j] = x at *
        obtain ⟨kk, ⟨ho, hd⟩, nw, ⟨bo, bd⟩, ⟨co, cd⟩, we⟩ := x
        have HX := Lib.hid hts
        clear hts hjz hjx
        simp only at r0 r1 r2 r3 r4 r5 r6 r7 r8
        unfold S at r1 r2 r3 r4 r5 r6 r7 r8
        unfold cV S at hx
        have HQ := Lib.hid hx
        clear hx
        go_wp2_with ((first
              | ((with_reducible refine wl_alloc ?_ (fun K hK => ?_)); rfl; refine owp_alloc (o := ⟨some 7, _, _, _, _, _⟩) rfl st ?_; apply Exists.intro; apply Exists.intro; refine ⟨?_, ?_⟩; (focus (first | (go_simp; done) | (go_simp; rfl))); (clear st; intro b7 w hb st; clear hb))
              | ((with_reducible refine wl_store ?_ (fun K hK => ?_)); rfl; refine owp_store rfl st ?_; apply Exists.intro; apply Exists.intro; refine ⟨?_, ?_, ?_⟩; (focus (go_simp; try rfl)); (focus (go_simp; try rfl)); (with_reducible refine ⟨1, _, _, _, _, get1, rfl, rfl, ?_, ?_, ?_, ?_⟩); (kernel_rfl); (simp [Value.cells]); (rfl); (clear st; intro w st))); (try simp only [nsl, Value.cells, unB] at st); (try clear hc); have hc := st.facts; (try simp only [nfl, nft, Nat.reduceAdd] at hc))
        clear r0 r1 r2 r3 r4 r5 r6 r7 r8
        refine (HQ.out _).mono ?_
        rintro en w ⟨rfl, hx⟩
        replace st := st.ext hx
        clear hx
        (try clear hc); have hc := st.facts; (try simp only [nfl, nft, Nat.reduceAdd] at hc)
        by_cases hpx : p (⟨kk, (ho, hd), nw, (bo, bd), (co, cd), we⟩ : CredT) = true
        · rw [hpx]
          have HF : Hid ((xs.take (j + 1)).filter (fun x => !p x) = (xs.take j).filter (fun x => !p x) ∧ zs.drop (j + 1) = xs.drop (j + 1)) := Lib.hid ⟨by rw [HX.out, List.filter_append]; simp [hpx], by
            have := congrArg (List.drop 1) HZ.out.2.2; simpa [List.drop_drop] using this⟩
          clear hpx
          go_wp2_with fail
          have st' := st.keep [0] (by decide) (by simp)
          go_roundg (n - (j + 1))
          case measure => omega
          case rel => exact ⟨i, j + 1, zs, by omega, rfl, by omega, rfl, by go_num, Lib.hid ⟨HZ.out.1, by rw [HF.out.1]; exact HZ.out.2.1, HF.out.2⟩, by simpa [pick] using st'⟩
        · have hpx' : p (⟨kk, (ho, hd), nw, (bo, bd), (co, cd), we⟩ : CredT) = false := by simpa using hpx
          rw [hpx']
          have hiz : i < zs.length := by have := HZ.out.1; omega
          have hset := cellsL_set zs i (⟨kk, (ho, hd), nw, (bo, bd), (co, cd), we⟩ : CredT) hiz
          rw [fltCred_k, cred_cells] at hset
          have HF : Hid ((zs.set i (⟨kk, (ho, hd), nw, (bo, bd), (co, cd), we⟩ : CredT)).length = n ∧ (zs.set i (⟨kk, (ho, hd), nw, (bo, bd), (co, cd), we⟩ : CredT)).take (i + 1) = (xs.take (j + 1)).filter (fun x => !p x) ∧ (zs.set i (⟨kk, (ho, hd), nw, (bo, bd), (co, cd), we⟩ : CredT)).drop (j + 1) = xs.drop (j + 1)) := Lib.hid ⟨by simp [HZ.out.1], by
              rw [HX.out, List.filter_append, ← HZ.out.2.1]
              have : (zs.set i (⟨kk, (ho, hd), nw, (bo, bd), (co, cd), we⟩ : CredT))[i]'(by simpa using hiz) = (⟨kk, (ho, hd), nw, (bo, bd), (co, cd), we⟩ : CredT) := by simp
              rw [← List.take_append_getElem (l := zs.set i (⟨kk, (ho, hd), nw, (bo, bd), (co, cd), we⟩ : CredT)) (by simpa using hiz), this]
              rw [List.take_set, List.set_eq_of_length_le (by rw [List.length_take]; omega)]; simp [hpx'], by
              rw [List.drop_set_of_lt (by omega)]
              have := congrArg (List.drop 1) HZ.out.2.2; simpa [List.drop_drop] using this⟩
          have HSET := Lib.hid hset
          clear hpx hpx' hset hiz
          go_wp2_with ((with_reducible refine wl_store ?_ (fun K hK => ?_)); (rfl); (refine owp_storeRow' rfl st ?_; apply Exists.intro; apply Exists.intro; refine ⟨?_, ?_, ?_⟩; (focus (go_simp; try rfl)); (focus (go_simp; try rfl)); refine ⟨0, _, _, _, _, _, _, _, _, get0, rfl, rfl, ?_, ?_, ?_, ?_⟩; (kernel_rfl); (simp [Value.cells]; omega); (rfl); (clear st; intro w st)))
          simp only [List.set_cons_zero] at st
          have st' := st.keep [0] (by decide) (by simp)
          go_roundg (n - (j + 1))
          case measure => omega
          case rel => exact ⟨i + 1, j + 1, zs.set i (⟨kk, (ho, hd), nw, (bo, bd), (co, cd), we⟩ : CredT), by omega, rfl, by omega, by go_num, by go_num, HF, by rw [← HSET.out]; simpa [pick, Value.cells] using st'⟩
      · obtain rfl : j = n := by omega
        obtain ⟨inf, hinf, hz0, hz1, hz2⟩ := credInfo
        have HF : Hid (zs.take i = xs.filter (fun x => !p x)) := Lib.hid (by rw [HZ.out.2.1, List.take_of_length_le (by have := HN.out; omega)])
        go_wp2_with ((with_reducible refine wl_clear ?_ (fun K hK => ?_)); (rfl); (refine owp_clearRow' rfl st Try.underlying41 ?_; apply Exists.intro; apply Exists.intro; apply Exists.intro; refine ⟨?_, ?_⟩; (focus (go_simp; exact ⟨rfl, rfl, rfl⟩)); refine ⟨0, _, _, _, _, i, _, inf, cV zC, get0, hinf, hz0, by decide, rfl, rfl, by omega, by simp, rfl, ?_⟩; (clear st; intro w ys hy1 hy2 st)))
        simp only [List.set_cons_zero] at st
        have st2 := st.rowCut (i := 0) (k := 9) (n := j) (c := c) (g := g) (E := 32) (xs := ys) get0 i (by omega)
        have hct := cellsL_take zs i
        rw [fltCred_k] at hct
        rw [hy1, hct, HF.out, List.set_cons_zero] at st2
        go_ret
        exact ⟨i, rfl, st2⟩
end Go.Proofs.Ytekngjkjgmplpaa

namespace Go.Proofs.Ytekngjkjgmplpaa
set_option linter.unusedSimpArgs false
set_option linter.unusedVariables false
open Go Go.RowKit
set_option maxRecDepth 100000 in
set_option maxHeartbeats 2000000 in
theorem compactCred_c {fr al : Nat → Prop} {w0 w : World} {n c : Nat} {a : Option Addr} {xs : List CredT} (st : Own fr al w0 [rowI 32 9 (.slice a n c) n (cellsL xs)] w) (hn : n ≤ 2000000) :
    Calls Try.prog 189 #[.slice a n c] w fun e w' => ∃ m, e = .returned (.slice a m c) ∧ Own fr al w0 [rowI 32 9 (.slice a m c) m (cellsL (Lib.compact xs))] w' := by
  have HN : Hid (n = xs.length) := Lib.hid (credLen (st.row (i := 0) get0))
  (try simp only [nsl, Value.cells, unB] at st)
  (try clear hc); have hc := st.facts; (try simp only [nfl, nft, Nat.reduceAdd] at hc)
  by_cases hn2 : n < 2
  · have HC : Hid (Lib.compact xs = xs) := Lib.hid (by
      rw [← cup_all, ← HN.out]
      match n, hn2, HN.out with
      | 0, _, h => rw [List.eq_nil_of_length_eq_zero h.symm]; rfl
      | 1, _, h => rw [cup_one (by omega), List.take_of_length_le (by omega)])
    go_enter Try.func189, Try.ntmps189
    go_wp2_with fail
    go_ret
    exact ⟨n, rfl, by rw [HC.out]; exact st⟩
  obtain ⟨g, cap', hv, hcap, hrow⟩ := st.rowAt (i := 0) get0 (by omega)
  injection hv with hv1 hv2 hv3
  subst hv1 hv3
  clear hrow
  have hcap2 : c ≤ 9223372036854775807 := by have := hcap.2; simpa [maxLen] using this
  have hcap1 := hcap.1
  clear hcap
  go_enter Try.func189, Try.ntmps189
  go_wp2_with fail
  go_loopg [3] (n - 1) (fun k vi wr => ∃ (j : Nat), 1 ≤ j ∧ j ≤ n ∧ k = n - j ∧ vi = .int .i64 (j : Int) ∧ Hid (cup xs j = xs.take j) ∧ Own fr al w0 [rowI 32 9 (.slice (some ⟨g, 0, none⟩) n c) n (cellsL xs)] wr)
  case atStart => exact ⟨1, by omega, by omega, by omega, rfl, Lib.hid (cup_one (by have := HN.out; omega)), st⟩
  case round =>
    obtain ⟨j, hj1, hj, rfl, rfl, HT, st'⟩ := hrel
    clear st hc
    have st := st'
    clear st'
    (try simp only [nsl, Value.cells, unB] at st)
    (try clear hc); have hc := st.facts; (try simp only [nfl, nft, Nat.reduceAdd] at hc)
    by_cases hjn : j < n
    · obtain ⟨q, hq⟩ : ∃ q, j = q + 1 := ⟨j - 1, by omega⟩
      have hw : IntKind.i64.wrap ((j : Int) - 1) = (q : Int) := by rw [IntWalk.i64_in _ ⟨by omega, by omega⟩]; omega
      have hjl : j < xs.length := by have := HN.out; omega
      have hql : q < xs.length := by omega
      obtain ⟨x, hx⟩ : ∃ x, xs[j]? = some x := ⟨_, List.getElem?_eq_getElem hjl⟩
      obtain ⟨y, hy⟩ : ∃ y, xs[q]? = some y := ⟨_, List.getElem?_eq_getElem hql⟩
      have HR := Lib.hid (And.intro (cred_get hx) (cred_get hy))
      have HST := Lib.hid (cup_step hq hx hy)
      have HTK : Hid (xs.take (j + 1) = xs.take j ++ [x]) := Lib.hid (by rw [List.take_add_one, hx]; rfl)
      clear hx hy hjl
      obtain ⟨kk, ⟨ho, hd⟩, nw, ⟨bo, bd⟩, ⟨co, cd⟩, we⟩ := x
      obtain ⟨kk', ⟨ho', hd'⟩, nw', ⟨bo', bd'⟩, ⟨co', cd'⟩, we'⟩ := y
      simp only at HR
      unfold S at HR
      have hql2 : q < n := by omega
      have HQ := Lib.hid hq
      clear hq hql
      go_wp2_with fail
      refine Rg4.wp_region4_eq #[0, 0, 3, 7, 0, 0, 32, 112, 240, 511] [] [3, 8] (fun _ => True) [0, 1, 2, 3, 4, 5, 6, 7, 8, 9] (by kernel_rfl) (by kernel_rfl) (by kernel_rfl) (by kernel_rfl) (show Rg4.PB _ by repeat (first | with_reducible exact Rg4.pb_body | with_reducible exact Rg4.pb_bodyD rfl | with_reducible refine Rg4.pb_then ?_ | with_reducible refine Rg4.pb_inBlock ?_ | with_reducible refine Rg4.pb_noGoto ?_)) (trivial) ?_
      replace st := st.drew
      change Rg4.wp4 _ _ _ _ _ _ _ _ _ (World.drew _) _ _
      generalize World.drew _ = w at st ⊢
      (try clear hc); have hc := st.facts; (try simp only [nfl, nft, Nat.reduceAdd] at hc)
      iterate 3 (refine Rg4.w4_any (Rg4.want_none rfl) rfl ?_; apply Exists.intro; refine ⟨fun w' => ?_, ?_⟩; (focus (first | (go_simp; done) | (go_simp; first | rfl | (rw [if_neg] <;> first | rfl | omega) | (rw [if_pos] <;> first | rfl | omega)))); (try simp only [Rg4.nrm]))
      (refine Rg4.w4_read (Rg4.want_none rfl) rfl rfl ?_; apply Exists.intro; refine ⟨fun w' hw' hcl' => ?_, ?_⟩; focus (subst hw'; have r0 := st.rowC (i := 0) get0 _ _ HR.out.1.1; have r1 := st.rowC (i := 0) get0 _ _ HR.out.1.2.1; have r2 := st.rowC (i := 0) get0 _ _ HR.out.1.2.2.1; have r3 := st.rowC (i := 0) get0 _ _ HR.out.1.2.2.2.1; have r4 := st.rowC (i := 0) get0 _ _ HR.out.1.2.2.2.2.1; have r5 := st.rowC (i := 0) get0 _ _ HR.out.1.2.2.2.2.2.1; have r6 := st.rowC (i := 0) get0 _ _ HR.out.1.2.2.2.2.2.2.1; have r7 := st.rowC (i := 0) get0 _ _ HR.out.1.2.2.2.2.2.2.2.1; have r8 := st.rowC (i := 0) get0 _ _ HR.out.1.2.2.2.2.2.2.2.2; have s0 := st.rowC (i := 0) get0 _ _ HR.out.2.1; have s1 := st.rowC (i := 0) get0 _ _ HR.out.2.2.1; have s2 := st.rowC (i := 0) get0 _ _ HR.out.2.2.2.1; have s3 := st.rowC (i := 0) get0 _ _ HR.out.2.2.2.2.1; have s4 := st.rowC (i := 0) get0 _ _ HR.out.2.2.2.2.2.1; have s5 := st.rowC (i := 0) get0 _ _ HR.out.2.2.2.2.2.2.1; have s6 := st.rowC (i := 0) get0 _ _ HR.out.2.2.2.2.2.2.2.1; have s7 := st.rowC (i := 0) get0 _ _ HR.out.2.2.2.2.2.2.2.2.1; have s8 := st.rowC (i := 0) get0 _ _ HR.out.2.2.2.2.2.2.2.2.2; (focus (first | (go_simp; done) | (go_simp; first | rfl | (rw [if_neg] <;> first | rfl | omega) | (rw [if_pos] <;> first | rfl | omega))))); (try simp only [Rg4.nrm]))
      iterate 4 (refine Rg4.w4_any (Rg4.want_none rfl) rfl ?_; apply Exists.intro; refine ⟨fun w' => ?_, ?_⟩; (focus (first | (go_simp; done) | (go_simp; first | rfl | (rw [if_neg] <;> first | rfl | omega) | (rw [if_pos] <;> first | rfl | omega)))); (try simp only [Rg4.nrm]))
      (refine Rg4.w4_read (Rg4.want_none rfl) rfl rfl ?_; apply Exists.intro; refine ⟨fun w' hw' hcl' => ?_, ?_⟩; focus (subst hw'; have r0 := st.rowC (i := 0) get0 _ _ HR.out.1.1; have r1 := st.rowC (i := 0) get0 _ _ HR.out.1.2.1; have r2 := st.rowC (i := 0) get0 _ _ HR.out.1.2.2.1; have r3 := st.rowC (i := 0) get0 _ _ HR.out.1.2.2.2.1; have r4 := st.rowC (i := 0) get0 _ _ HR.out.1.2.2.2.2.1; have r5 := st.rowC (i := 0) get0 _ _ HR.out.1.2.2.2.2.2.1; have r6 := st.rowC (i := 0) get0 _ _ HR.out.1.2.2.2.2.2.2.1; have r7 := st.rowC (i := 0) get0 _ _ HR.out.1.2.2.2.2.2.2.2.1; have r8 := st.rowC (i := 0) get0 _ _ HR.out.1.2.2.2.2.2.2.2.2; have s0 := st.rowC (i := 0) get0 _ _ HR.out.2.1; have s1 := st.rowC (i := 0) get0 _ _ HR.out.2.2.1; have s2 := st.rowC (i := 0) get0 _ _ HR.out.2.2.2.1; have s3 := st.rowC (i := 0) get0 _ _ HR.out.2.2.2.2.1; have s4 := st.rowC (i := 0) get0 _ _ HR.out.2.2.2.2.2.1; have s5 := st.rowC (i := 0) get0 _ _ HR.out.2.2.2.2.2.2.1; have s6 := st.rowC (i := 0) get0 _ _ HR.out.2.2.2.2.2.2.2.1; have s7 := st.rowC (i := 0) get0 _ _ HR.out.2.2.2.2.2.2.2.2.1; have s8 := st.rowC (i := 0) get0 _ _ HR.out.2.2.2.2.2.2.2.2.2; (focus (first | (go_simp; done) | (go_simp; first | rfl | (rw [if_neg] <;> first | rfl | omega) | (rw [if_pos] <;> first | rfl | omega))))); (try simp only [Rg4.nrm]))
      (refine Rg4.w4_any (Rg4.want_none rfl) rfl ?_; apply Exists.intro; refine ⟨fun w' => ?_, ?_⟩; (focus (first | (go_simp; done) | (go_simp; first | rfl | (rw [if_neg] <;> first | rfl | omega) | (rw [if_pos] <;> first | rfl | omega)))); (try simp only [Rg4.nrm]))
      refine Rg4.w4_nil (fun w' hw' hcl' _ => ?_); subst hw'; clear hcl'
      cases hxy : credEq (⟨kk, (ho, hd), nw, (bo, bd), (co, cd), we⟩ : CredT) (⟨kk', (ho', hd'), nw', (bo', bd'), (co', cd'), we'⟩ : CredT) with
      | false =>
        have HF : Hid (cup xs (j + 1) = xs.take (j + 1)) := Lib.hid (by rw [credEq_eq, decide_eq_false_iff_not] at hxy; rw [HST.out, if_neg hxy, HT.out, HTK.out])
        clear hxy
        go_wp2_with fail
        go_roundg (n - (j + 1))
        case measure => omega
        case rel => exact ⟨j + 1, by omega, by omega, by omega, by go_num, HF, st⟩
      | true =>
        have HF : Hid (cup xs (j + 1) = xs.take j) := Lib.hid (by rw [credEq_eq, decide_eq_true_eq] at hxy; rw [HST.out, if_pos hxy, HT.out, List.append_nil])
        clear hxy hw
        go_wp2_with fail
        go_loopg [3, 5] (n - j - 1) (fun k vi vr wr => ∃ (i r : Nat) (zs : List CredT), 1 ≤ r ∧ j + r ≤ n ∧ k = n - j - r ∧ i < j + r ∧ vi = .int .i64 (i : Int) ∧ vr = .int .i64 (r : Int) ∧ Hid (zs.length = n ∧ zs.take i = cup xs (j + r) ∧ ∀ q, j + r ≤ q + 1 → zs[q]? = xs[q]?) ∧ Own fr al w0 [rowI 32 9 (.slice (some ⟨g, 0, none⟩) n c) n (cellsL zs)] wr)
        case atStart => exact ⟨j, 1, xs, by omega, by omega, by omega, by omega, rfl, rfl, Lib.hid ⟨HN.out.symm, HF.out.symm, fun _ _ => rfl⟩, st⟩
        case round =>
          obtain ⟨i, r, zs, hr1, hrj, rfl, hir, rfl, rfl, HZ, st'⟩ := hrel
          clear st hc HR HST HTK HF
          have st := st'
          clear st'
          (try simp only [nsl, Value.cells, unB] at st)
          (try clear hc); have hc := st.facts; (try simp only [nfl, nft, Nat.reduceAdd] at hc)
          by_cases hrn : r < n - j
          · obtain ⟨s, hs⟩ : ∃ s, r = s + 1 := ⟨r - 1, by omega⟩
            have hw : IntKind.i64.wrap ((r : Int) - 1) = (s : Int) := by rw [IntWalk.i64_in _ ⟨by omega, by omega⟩]; omega
            have hjl : j + r < xs.length := by have := HN.out; omega
            have hql : j + s < xs.length := by omega
            obtain ⟨x, hx⟩ : ∃ x, xs[j + r]? = some x := ⟨_, List.getElem?_eq_getElem hjl⟩
            obtain ⟨y, hy⟩ : ∃ y, xs[j + s]? = some y := ⟨_, List.getElem?_eq_getElem hql⟩
            have hzx := (HZ.out.2.2 (j + r) (by omega)).trans hx
            have hzy := (HZ.out.2.2 (j + s) (by omega)).trans hy
            have HR := Lib.hid (And.intro (cred_get hzx) (cred_get hzy))
            have HST := Lib.hid (cup_step (by omega : j + r = j + s + 1) hx hy)
            clear hx hy hzx hzy hjl
            obtain ⟨kk, ⟨ho, hd⟩, nw, ⟨bo, bd⟩, ⟨co, cd⟩, we⟩ := x
            obtain ⟨kk', ⟨ho', hd'⟩, nw', ⟨bo', bd'⟩, ⟨co', cd'⟩, we'⟩ := y
            simp only [Nat.add_mul] at HR
            unfold S at HR
            have hql2 : s < n - j := by omega
            have HS := Lib.hid hs
            clear hs hql
            go_wp2_with fail
            refine Rg4.wp_region4_eq #[0, 0, 3, 7, 0, 0, 32, 112, 240, 511] [] [3, 8] (fun _ => True) [0, 1, 2, 3, 4, 5, 6, 7, 8, 9] (by kernel_rfl) (by kernel_rfl) (by kernel_rfl) (by kernel_rfl) (show Rg4.PB _ by repeat (first | with_reducible exact Rg4.pb_body | with_reducible exact Rg4.pb_bodyD rfl | with_reducible refine Rg4.pb_then ?_ | with_reducible refine Rg4.pb_inBlock ?_ | with_reducible refine Rg4.pb_noGoto ?_)) (trivial) ?_
            replace st := st.drew
            change Rg4.wp4 _ _ _ _ _ _ _ _ _ (World.drew _) _ _
            generalize World.drew _ = w at st ⊢
            (try clear hc); have hc := st.facts; (try simp only [nfl, nft, Nat.reduceAdd] at hc)
            iterate 3 (refine Rg4.w4_any (Rg4.want_none rfl) rfl ?_; apply Exists.intro; refine ⟨fun w' => ?_, ?_⟩; (focus (first | (go_simp; done) | (go_simp; first | rfl | (rw [if_neg] <;> first | rfl | omega) | (rw [if_pos] <;> first | rfl | omega)))); (try simp only [Rg4.nrm]))
            (refine Rg4.w4_read (Rg4.want_none rfl) rfl rfl ?_; apply Exists.intro; refine ⟨fun w' hw' hcl' => ?_, ?_⟩; focus (subst hw'; have r0 := st.rowC (i := 0) get0 _ _ HR.out.1.1; have r1 := st.rowC (i := 0) get0 _ _ HR.out.1.2.1; have r2 := st.rowC (i := 0) get0 _ _ HR.out.1.2.2.1; have r3 := st.rowC (i := 0) get0 _ _ HR.out.1.2.2.2.1; have r4 := st.rowC (i := 0) get0 _ _ HR.out.1.2.2.2.2.1; have r5 := st.rowC (i := 0) get0 _ _ HR.out.1.2.2.2.2.2.1; have r6 := st.rowC (i := 0) get0 _ _ HR.out.1.2.2.2.2.2.2.1; have r7 := st.rowC (i := 0) get0 _ _ HR.out.1.2.2.2.2.2.2.2.1; have r8 := st.rowC (i := 0) get0 _ _ HR.out.1.2.2.2.2.2.2.2.2; have s0 := st.rowC (i := 0) get0 _ _ HR.out.2.1; have s1 := st.rowC (i := 0) get0 _ _ HR.out.2.2.1; have s2 := st.rowC (i := 0) get0 _ _ HR.out.2.2.2.1; have s3 := st.rowC (i := 0) get0 _ _ HR.out.2.2.2.2.1; have s4 := st.rowC (i := 0) get0 _ _ HR.out.2.2.2.2.2.1; have s5 := st.rowC (i := 0) get0 _ _ HR.out.2.2.2.2.2.2.1; have s6 := st.rowC (i := 0) get0 _ _ HR.out.2.2.2.2.2.2.2.1; have s7 := st.rowC (i := 0) get0 _ _ HR.out.2.2.2.2.2.2.2.2.1; have s8 := st.rowC (i := 0) get0 _ _ HR.out.2.2.2.2.2.2.2.2.2; (focus (first | (go_simp; done) | (go_simp; first | rfl | (rw [if_neg] <;> first | rfl | omega) | (rw [if_pos] <;> first | rfl | omega))))); (try simp only [Rg4.nrm]))
            iterate 4 (refine Rg4.w4_any (Rg4.want_none rfl) rfl ?_; apply Exists.intro; refine ⟨fun w' => ?_, ?_⟩; (focus (first | (go_simp; done) | (go_simp; first | rfl | (rw [if_neg] <;> first | rfl | omega) | (rw [if_pos] <;> first | rfl | omega)))); (try simp only [Rg4.nrm]))
            (refine Rg4.w4_read (Rg4.want_none rfl) rfl rfl ?_; apply Exists.intro; refine ⟨fun w' hw' hcl' => ?_, ?_⟩; focus (subst hw'; have r0 := st.rowC (i := 0) get0 _ _ HR.out.1.1; have r1 := st.rowC (i := 0) get0 _ _ HR.out.1.2.1; have r2 := st.rowC (i := 0) get0 _ _ HR.out.1.2.2.1; have r3 := st.rowC (i := 0) get0 _ _ HR.out.1.2.2.2.1; have r4 := st.rowC (i := 0) get0 _ _ HR.out.1.2.2.2.2.1; have r5 := st.rowC (i := 0) get0 _ _ HR.out.1.2.2.2.2.2.1; have r6 := st.rowC (i := 0) get0 _ _ HR.out.1.2.2.2.2.2.2.1; have r7 := st.rowC (i := 0) get0 _ _ HR.out.1.2.2.2.2.2.2.2.1; have r8 := st.rowC (i := 0) get0 _ _ HR.out.1.2.2.2.2.2.2.2.2; have s0 := st.rowC (i := 0) get0 _ _ HR.out.2.1; have s1 := st.rowC (i := 0) get0 _ _ HR.out.2.2.1; have s2 := st.rowC (i := 0) get0 _ _ HR.out.2.2.2.1; have s3 := st.rowC (i := 0) get0 _ _ HR.out.2.2.2.2.1; have s4 := st.rowC (i := 0) get0 _ _ HR.out.2.2.2.2.2.1; have s5 := st.rowC (i := 0) get0 _ _ HR.out.2.2.2.2.2.2.1; have s6 := st.rowC (i := 0) get0 _ _ HR.out.2.2.2.2.2.2.2.1; have s7 := st.rowC (i := 0) get0 _ _ HR.out.2.2.2.2.2.2.2.2.1; have s8 := st.rowC (i := 0) get0 _ _ HR.out.2.2.2.2.2.2.2.2.2; (focus (first | (go_simp; done) | (go_simp; first | rfl | (rw [if_neg] <;> first | rfl | omega) | (rw [if_pos] <;> first | rfl | omega))))); (try simp only [Rg4.nrm]))
            (refine Rg4.w4_any (Rg4.want_none rfl) rfl ?_; apply Exists.intro; refine ⟨fun w' => ?_, ?_⟩; (focus (first | (go_simp; done) | (go_simp; first | rfl | (rw [if_neg] <;> first | rfl | omega) | (rw [if_pos] <;> first | rfl | omega)))); (try simp only [Rg4.nrm]))
            refine Rg4.w4_nil (fun w' hw' hcl' _ => ?_); subst hw'; clear hcl'
            cases hxy : credEq (⟨kk, (ho, hd), nw, (bo, bd), (co, cd), we⟩ : CredT) (⟨kk', (ho', hd'), nw', (bo', bd'), (co', cd'), we'⟩ : CredT) with
            | true =>
              have hb : (!true) = false := rfl
              have HF : Hid (cup xs (j + (r + 1)) = cup xs (j + r)) := Lib.hid (by rw [credEq_eq, decide_eq_true_eq] at hxy; rw [← Nat.add_assoc, HST.out, if_pos hxy, List.append_nil])
              clear hxy
              simp only [hb]
              go_wp2_with fail
              go_roundg (n - j - (r + 1))
              case measure => omega
              case rel => exact ⟨i, r + 1, zs, by omega, by omega, rfl, by omega, rfl, by go_num, Lib.hid ⟨HZ.out.1, by rw [HF.out]; exact HZ.out.2.1, fun q hq => HZ.out.2.2 q (by omega)⟩, st⟩
            | false =>
              have hb : (!false) = true := rfl
              have HF : Hid (cup xs (j + (r + 1)) = cup xs (j + r) ++ [(⟨kk, (ho, hd), nw, (bo, bd), (co, cd), we⟩ : CredT)]) := Lib.hid (by rw [credEq_eq, decide_eq_false_iff_not] at hxy; rw [← Nat.add_assoc, HST.out, if_neg hxy])
              clear hxy
              simp only [hb]
              have r0 := st.rowC (i := 0) get0 _ _ HR.out.1.1
              have r1 := st.rowC (i := 0) get0 _ _ HR.out.1.2.1
              have r2 := st.rowC (i := 0) get0 _ _ HR.out.1.2.2.1
              have r3 := st.rowC (i := 0) get0 _ _ HR.out.1.2.2.2.1
              have r4 := st.rowC (i := 0) get0 _ _ HR.out.1.2.2.2.2.1
              have r5 := st.rowC (i := 0) get0 _ _ HR.out.1.2.2.2.2.2.1
              have r6 := st.rowC (i := 0) get0 _ _ HR.out.1.2.2.2.2.2.2.1
              have r7 := st.rowC (i := 0) get0 _ _ HR.out.1.2.2.2.2.2.2.2.1
              have r8 := st.rowC (i := 0) get0 _ _ HR.out.1.2.2.2.2.2.2.2.2
              have hiz : i < zs.length := by have := HZ.out.1; omega
              have hset := cellsL_set zs i (⟨kk, (ho, hd), nw, (bo, bd), (co, cd), we⟩ : CredT) hiz
              rw [fltCred_k, cred_cells] at hset
              have HZ2 : Hid ((zs.set i (⟨kk, (ho, hd), nw, (bo, bd), (co, cd), we⟩ : CredT)).length = n ∧ (zs.set i (⟨kk, (ho, hd), nw, (bo, bd), (co, cd), we⟩ : CredT)).take (i + 1) = cup xs (j + (r + 1)) ∧ ∀ q, j + (r + 1) ≤ q + 1 → (zs.set i (⟨kk, (ho, hd), nw, (bo, bd), (co, cd), we⟩ : CredT))[q]? = xs[q]?) := Lib.hid ⟨by simp [HZ.out.1], by
                  rw [HF.out, ← HZ.out.2.1]
                  have : (zs.set i (⟨kk, (ho, hd), nw, (bo, bd), (co, cd), we⟩ : CredT))[i]'(by simpa using hiz) = (⟨kk, (ho, hd), nw, (bo, bd), (co, cd), we⟩ : CredT) := by simp
                  rw [← List.take_append_getElem (l := zs.set i (⟨kk, (ho, hd), nw, (bo, bd), (co, cd), we⟩ : CredT)) (by simpa using hiz), this]
                  rw [List.take_set, List.set_eq_of_length_le (by rw [List.length_take]; omega)], fun q hq => by
                  rw [List.getElem?_set_ne (by omega)]; exact HZ.out.2.2 q (by omega)⟩
              have HSET := Lib.hid hset
              clear hset hiz
              go_wp2_with ((with_reducible refine wl_store ?_ (fun K hK => ?_)); (rfl); (refine owp_storeRow' rfl st ?_; apply Exists.intro; apply Exists.intro; refine ⟨?_, ?_, ?_⟩; (focus (go_simp; try rfl)); (focus (go_simp; try rfl)); refine ⟨0, _, _, _, _, _, _, _, _, get0, rfl, rfl, ?_, ?_, ?_, ?_⟩; (kernel_rfl); (simp [Value.cells]; omega); (rfl); (clear st; intro w st)))
              simp only [List.set_cons_zero] at st
              go_roundg (n - j - (r + 1))
              case measure => omega
              case rel => exact ⟨i + 1, r + 1, zs.set i (⟨kk, (ho, hd), nw, (bo, bd), (co, cd), we⟩ : CredT), by omega, by omega, rfl, by omega, by go_num, by go_num, HZ2, by rw [← HSET.out]; simpa [Value.cells] using st⟩
          · obtain ⟨inf, hinf, hz0, hz1, hz2⟩ := credInfo
            have HF : Hid (zs.take i = Lib.compact xs) := Lib.hid (by rw [HZ.out.2.1, ← cup_all, ← HN.out]; congr 1; omega)
            have hin : i ≤ n := by omega
            go_wp2_with ((with_reducible refine wl_clear ?_ (fun K hK => ?_)); (rfl); (refine owp_clearRow' rfl st Try.underlying41 ?_; apply Exists.intro; apply Exists.intro; apply Exists.intro; refine ⟨?_, ?_⟩; (focus (go_simp; exact ⟨rfl, rfl, rfl⟩)); refine ⟨0, _, _, _, _, i, _, inf, cV zC, get0, hinf, hz0, by decide, rfl, rfl, by omega, by simp, rfl, ?_⟩; (clear st; intro w ys hy1 hy2 st)))
            simp only [List.set_cons_zero] at st
            have st2 := st.rowCut (i := 0) (k := 9) (n := n) (c := c) (g := g) (E := 32) (xs := ys) get0 i (by omega)
            have hct := cellsL_take zs i
            rw [fltCred_k] at hct
            rw [hy1, hct, HF.out, List.set_cons_zero] at st2
            go_ret
            exact ⟨i, rfl, st2⟩
    · obtain rfl : j = n := by omega
      have HF : Hid (Lib.compact xs = xs) := Lib.hid (by rw [← cup_all, ← HN.out, HT.out, List.take_of_length_le (by have := HN.out; omega)])
      go_wp2_with fail
      go_ret
      exact ⟨j, rfl, by rw [HF.out]; exact st⟩
end Go.Proofs.Ytekngjkjgmplpaa

namespace Go.Proofs.Ytekngjkjgmplpaa
set_option linter.unusedSimpArgs false
set_option linter.unusedVariables false
open Go Go.RowKit
theorem Fl.cred {w : World} {a : Option Addr} {n : Nat} {xs : List CredT} (h : Fl w a n xs) (h0 : 0 < n) : ∃ b off, a = some ⟨b, off, none⟩ ∧ ∀ j x, xs[j]? = some x → w.cell? ⟨b, off + j * 9, none⟩ = some (.int .i64 x.k) ∧ w.cell? ⟨b, off + j * 9 + 1, none⟩ = some (S x.h.1) ∧ w.cell? ⟨b, off + j * 9 + 2, none⟩ = some (S x.h.2) ∧ w.cell? ⟨b, off + j * 9 + 3, none⟩ = some (S x.w) ∧ w.cell? ⟨b, off + j * 9 + 4, none⟩ = some (S x.b.1) ∧ w.cell? ⟨b, off + j * 9 + 5, none⟩ = some (S x.b.2) ∧ w.cell? ⟨b, off + j * 9 + 6, none⟩ = some (S x.c.1) ∧ w.cell? ⟨b, off + j * 9 + 7, none⟩ = some (S x.c.2) ∧ w.cell? ⟨b, off + j * 9 + 8, none⟩ = some (S x.e) := by
  obtain ⟨b, off, rfl, hc⟩ := h.2 h0
  exact ⟨b, off, rfl, fun j x hj => ⟨hc j x hj 0 _ rfl, hc j x hj 1 _ rfl, hc j x hj 2 _ rfl, hc j x hj 3 _ rfl, hc j x hj 4 _ rfl, hc j x hj 5 _ rfl, hc j x hj 6 _ rfl, hc j x hj 7 _ rfl, hc j x hj 8 _ rfl⟩⟩
set_option maxRecDepth 100000 in
set_option maxHeartbeats 1000000 in
theorem refCredHas_any (a : Option Addr) (n c : Nat) (l : List CredT) (y : CredT) (W : World) (h : Fl W a n l) (hn : n ≤ 2000000) :
    Calls Try.prog 104 #[.slice a n c, cV y] W fun e w' => e = .returned (.bool (decide (y ∈ l))) ∧ Ext W w' := by
  have H := Lib.hid h
  have HNL := Lib.hid h.1
  clear h
  obtain ⟨kk, ⟨ho, hd⟩, nw, ⟨bo, bd⟩, ⟨co, cd⟩, we⟩ := y
  have st := Own.startOld W
  unfold cV S
  (try simp only [nsl, Value.cells, unB] at st)
  (try clear hc); have hc := st.facts; (try simp only [nfl, nft, Nat.reduceAdd] at hc)
  go_enter Try.func104, Try.ntmps104
  go_wp2_with ((((with_reducible refine wl_box ?_ (fun K hK => ?_)); rfl; refine owp_box (o := ⟨some 3, _, _, _, _, _⟩) rfl st ?_; apply Exists.intro; refine ⟨?_, ?_⟩; (focus (go_simp; try rfl)); (clear st; intro b3 w hb st; clear hb))); (try simp only [nsl, Value.cells, unB] at st); (try clear hc); have hc := st.facts; (try simp only [nfl, nft, Nat.reduceAdd] at hc))
  go_loopg [9] n (fun k i wr => ∃ (j : Nat), j ≤ n ∧ k = n - j ∧ i = .int .i64 (j : Int) ∧ Hid ((⟨kk, (ho, hd), nw, (bo, bd), (co, cd), we⟩ : CredT) ∉ l.take j) ∧ Own (fun _ => False) (fun _ => True) W [oldI W, blkI b3 [.int .i64 kk, S ho, S hd, S nw, S bo, S bd, S co, S cd, S we]] wr)
  case atStart => exact ⟨0, by omega, by omega, rfl, Lib.hid (by simp), st⟩
  case round =>
    obtain ⟨j, hj, rfl, rfl, HT, st'⟩ := hrel
    clear st hc
    have st := st'
    clear st'
    unfold S at st
    (try simp only [nsl, Value.cells, unB] at st)
    (try clear hc); have hc := st.facts; (try simp only [nfl, nft, Nat.reduceAdd] at hc)
    by_cases hjn : j < n
    · obtain ⟨b, off, ha, hcell⟩ := H.out.cred (by omega)
      have hjl : j < l.length := by have := HNL.out; omega
      have r0 := st.oldCell (i := 0) get0 (hcell j l[j] (List.getElem?_eq_getElem hjl)).1
      have r1 := st.oldCell (i := 0) get0 (hcell j l[j] (List.getElem?_eq_getElem hjl)).2.1
      have r2 := st.oldCell (i := 0) get0 (hcell j l[j] (List.getElem?_eq_getElem hjl)).2.2.1
      have r3 := st.oldCell (i := 0) get0 (hcell j l[j] (List.getElem?_eq_getElem hjl)).2.2.2.1
      have r4 := st.oldCell (i := 0) get0 (hcell j l[j] (List.getElem?_eq_getElem hjl)).2.2.2.2.1
      have r5 := st.oldCell (i := 0) get0 (hcell j l[j] (List.getElem?_eq_getElem hjl)).2.2.2.2.2.1
      have r6 := st.oldCell (i := 0) get0 (hcell j l[j] (List.getElem?_eq_getElem hjl)).2.2.2.2.2.2.1
      have r7 := st.oldCell (i := 0) get0 (hcell j l[j] (List.getElem?_eq_getElem hjl)).2.2.2.2.2.2.2.1
      have r8 := st.oldCell (i := 0) get0 (hcell j l[j] (List.getElem?_eq_getElem hjl)).2.2.2.2.2.2.2.2
      have hts : l.take (j + 1) = l.take j ++ [l[j]] := (List.take_append_getElem hjl).symm
      have hmem := List.getElem_mem hjl
      clear hcell
      generalize l[j] = x at *
      obtain ⟨kk', ⟨ho', hd'⟩, nw', ⟨bo', bd'⟩, ⟨co', cd'⟩, we'⟩ := x
      have HX := Lib.hid (And.intro hts hmem)
      clear hts hmem
      subst ha
      simp only at r0 r1 r2 r3 r4 r5 r6 r7 r8
      unfold S at r1 r2 r3 r4 r5 r6 r7 r8
      cases hr : credEq (⟨kk', (ho', hd'), nw', (bo', bd'), (co', cd'), we'⟩ : CredT) (⟨kk, (ho, hd), nw, (bo, bd), (co, cd), we⟩ : CredT) with
      | true =>
        have HF : Hid (decide ((⟨kk, (ho, hd), nw, (bo, bd), (co, cd), we⟩ : CredT) ∈ l) = true) := Lib.hid (by rw [credEq_eq, decide_eq_true_eq] at hr; have := HX.out.2; rw [hr] at this; simpa using this)
        go_wp2_with ((first
              | ((with_reducible refine wl_alloc ?_ (fun K hK => ?_)); rfl; refine owp_alloc (o := ⟨some 6, _, _, _, _, _⟩) rfl st ?_; apply Exists.intro; apply Exists.intro; refine ⟨?_, ?_⟩; (focus (first | (go_simp; done) | (go_simp; rfl))); (clear st; intro b6 w hb st; clear hb))
              | ((with_reducible refine wl_store ?_ (fun K hK => ?_)); rfl; refine owp_store rfl st ?_; apply Exists.intro; apply Exists.intro; refine ⟨?_, ?_, ?_⟩; (focus (go_simp; try rfl)); (focus (go_simp; try rfl)); (with_reducible refine ⟨2, _, _, _, _, get2, rfl, rfl, ?_, ?_, ?_, ?_⟩); (kernel_rfl); (simp [Value.cells]); (rfl); (clear st; intro w st))); (try simp only [nsl, Value.cells, unB] at st); (try clear hc); have hc := st.facts; (try simp only [nfl, nft, Nat.reduceAdd] at hc))
        go_ret
        exact ⟨by rw [HF.out]; rfl, st.ext0⟩
      | false =>
        have HF : Hid ((⟨kk, (ho, hd), nw, (bo, bd), (co, cd), we⟩ : CredT) ∉ l.take (j + 1)) := Lib.hid (by
          rw [credEq_eq, decide_eq_false_iff_not] at hr
          rw [HX.out.1]
          intro q
          rcases List.mem_append.1 q with q | q
          · exact HT.out q
          · exact hr (List.mem_singleton.1 q).symm)
        go_wp2_with ((first
              | ((with_reducible refine wl_alloc ?_ (fun K hK => ?_)); rfl; refine owp_alloc (o := ⟨some 6, _, _, _, _, _⟩) rfl st ?_; apply Exists.intro; apply Exists.intro; refine ⟨?_, ?_⟩; (focus (first | (go_simp; done) | (go_simp; rfl))); (clear st; intro b6 w hb st; clear hb))
              | ((with_reducible refine wl_store ?_ (fun K hK => ?_)); rfl; refine owp_store rfl st ?_; apply Exists.intro; apply Exists.intro; refine ⟨?_, ?_, ?_⟩; (focus (go_simp; try rfl)); (focus (go_simp; try rfl)); (with_reducible refine ⟨2, _, _, _, _, get2, rfl, rfl, ?_, ?_, ?_, ?_⟩); (kernel_rfl); (simp [Value.cells]); (rfl); (clear st; intro w st))); (try simp only [nsl, Value.cells, unB] at st); (try clear hc); have hc := st.facts; (try simp only [nfl, nft, Nat.reduceAdd] at hc))
        have st' := st.keep [0, 1] (by decide) (by simp)
        go_roundg (n - (j + 1))
        case measure => omega
        case rel => exact ⟨j + 1, by omega, by omega, by first | rfl | trivial | go_num, HF, by simpa [pick, S] using st'⟩
    · obtain rfl : j = n := by omega
      have HF : Hid (decide ((⟨kk, (ho, hd), nw, (bo, bd), (co, cd), we⟩ : CredT) ∈ l) = false) := Lib.hid (by rw [decide_eq_false_iff_not]; have := HT.out; rwa [List.take_of_length_le (by have := HNL.out; omega)] at this)
      go_wp2_with fail
      go_ret
      exact ⟨by rw [HF.out]; rfl, st.ext0⟩
set_option maxRecDepth 100000 in
set_option maxHeartbeats 1000000 in
theorem refCredSame_any (a : Option Addr) (n c : Nat) (l : List CredT) (a' : Option Addr) (n' c' : Nat) (l' : List CredT) (W : World) (h : Fl W a n l) (h' : Fl W a' n' l') (hn : n ≤ 9000000000000000000) (hn' : n' ≤ 9000000000000000000) :
    Calls Try.prog 27 #[.slice a n c, .slice a' n' c'] W fun e w' => e = .returned (.bool (decide (l = l'))) ∧ Ext W w' := by
  have H := Lib.hid h
  have H' := Lib.hid h'
  have HNL := Lib.hid (And.intro h.1 h'.1)
  clear h h'
  have st := Own.startOld W
  (try simp only [nsl, Value.cells, unB] at st)
  (try clear hc); have hc := st.facts; (try simp only [nfl, nft, Nat.reduceAdd] at hc)
  by_cases hnn : n = n'
  · subst hnn
    go_enter Try.func27, Try.ntmps27
    go_wp2_with fail
    go_loopw [13] (fun i wr => ∃ (j : Nat), j ≤ n ∧ i = .int .i64 (j : Int) ∧ Hid (l.take j = l'.take j) ∧ Own (fun _ => False) (fun _ => True) W [oldI W] wr) (fun i _ => n - (intOf i).toNat)
    case atStart => exact ⟨0, by omega, rfl, Lib.hid (by simp), st⟩
    case round =>
      obtain ⟨j, hj, rfl, HT, st'⟩ := hrel
      clear st hc
      have st := st'
      clear st'
      (try simp only [nsl, Value.cells, unB] at st)
      (try clear hc); have hc := st.facts; (try simp only [nfl, nft, Nat.reduceAdd] at hc)
      by_cases hjn : j < n
      · obtain ⟨b, off, ha, hcell⟩ := H.out.cred (by omega)
        obtain ⟨b', off', ha', hcell'⟩ := H'.out.cred (by omega)
        have hjl : j < l.length := by have := HNL.out; omega
        have hjl' : j < l'.length := by have := HNL.out; omega
        have HC := Lib.hid (And.intro (hcell j l[j] (List.getElem?_eq_getElem hjl)) (hcell' j l'[j] (List.getElem?_eq_getElem hjl')))
        have hts : l.take (j + 1) = l.take j ++ [l[j]] := (List.take_append_getElem hjl).symm
        have hts' : l'.take (j + 1) = l'.take j ++ [l'[j]] := (List.take_append_getElem hjl').symm
        have hne : l[j] ≠ l'[j] → l ≠ l' := fun h1 h2 => h1 (by subst h2; rfl)
        clear hcell hcell'
        generalize l[j] = x at *
        generalize l'[j] = y at *
        obtain ⟨kk, ⟨ho, hd⟩, nw, ⟨bo, bd⟩, ⟨co, cd⟩, we⟩ := x
        obtain ⟨kk', ⟨ho', hd'⟩, nw', ⟨bo', bd'⟩, ⟨co', cd'⟩, we'⟩ := y
        have HX := Lib.hid (And.intro hts (And.intro hts' hne))
        clear hts hts' hne
        subst ha
        subst ha'
        simp only at HC
        unfold S at HC
        go_wp2_with fail
        refine Rg4.wp_region4_eq #[0, 0, 3, 7, 0, 0, 48, 112, 255] [] [3, 7] (fun _ => True) [0, 1, 2, 3, 4, 5, 6, 7, 8] (by kernel_rfl) (by kernel_rfl) (by kernel_rfl) (by kernel_rfl) (show Rg4.PB _ by repeat (first | with_reducible exact Rg4.pb_body | with_reducible exact Rg4.pb_bodyD rfl | with_reducible refine Rg4.pb_then ?_ | with_reducible refine Rg4.pb_inBlock ?_ | with_reducible refine Rg4.pb_noGoto ?_)) (trivial) ?_
        replace st := st.drew
        change Rg4.wp4 _ _ _ _ _ _ _ _ _ (World.drew _) _ _
        generalize World.drew _ = w at st ⊢
        (try clear hc); have hc := st.facts; (try simp only [nfl, nft, Nat.reduceAdd] at hc)
        iterate 3 (refine Rg4.w4_any (Rg4.want_none rfl) rfl ?_; apply Exists.intro; refine ⟨fun w' => ?_, ?_⟩; (focus (first | (go_simp; done) | (go_simp; first | rfl | (rw [if_neg] <;> first | rfl | omega) | (rw [if_pos] <;> first | rfl | omega)))); (try simp only [Rg4.nrm]))
        (refine Rg4.w4_read (Rg4.want_none rfl) rfl rfl ?_; apply Exists.intro; refine ⟨fun w' hw' hcl' => ?_, ?_⟩; focus (subst hw'; have r0 := st.oldCell (i := 0) get0 HC.out.1.1; have r1 := st.oldCell (i := 0) get0 HC.out.1.2.1; have r2 := st.oldCell (i := 0) get0 HC.out.1.2.2.1; have r3 := st.oldCell (i := 0) get0 HC.out.1.2.2.2.1; have r4 := st.oldCell (i := 0) get0 HC.out.1.2.2.2.2.1; have r5 := st.oldCell (i := 0) get0 HC.out.1.2.2.2.2.2.1; have r6 := st.oldCell (i := 0) get0 HC.out.1.2.2.2.2.2.2.1; have r7 := st.oldCell (i := 0) get0 HC.out.1.2.2.2.2.2.2.2.1; have r8 := st.oldCell (i := 0) get0 HC.out.1.2.2.2.2.2.2.2.2; have s0 := st.oldCell (i := 0) get0 HC.out.2.1; have s1 := st.oldCell (i := 0) get0 HC.out.2.2.1; have s2 := st.oldCell (i := 0) get0 HC.out.2.2.2.1; have s3 := st.oldCell (i := 0) get0 HC.out.2.2.2.2.1; have s4 := st.oldCell (i := 0) get0 HC.out.2.2.2.2.2.1; have s5 := st.oldCell (i := 0) get0 HC.out.2.2.2.2.2.2.1; have s6 := st.oldCell (i := 0) get0 HC.out.2.2.2.2.2.2.2.1; have s7 := st.oldCell (i := 0) get0 HC.out.2.2.2.2.2.2.2.2.1; have s8 := st.oldCell (i := 0) get0 HC.out.2.2.2.2.2.2.2.2.2; (focus (first | (go_simp; done) | (go_simp; first | rfl | (rw [if_neg] <;> first | rfl | omega) | (rw [if_pos] <;> first | rfl | omega))))); (try simp only [Rg4.nrm]))
        iterate 3 (refine Rg4.w4_any (Rg4.want_none rfl) rfl ?_; apply Exists.intro; refine ⟨fun w' => ?_, ?_⟩; (focus (first | (go_simp; done) | (go_simp; first | rfl | (rw [if_neg] <;> first | rfl | omega) | (rw [if_pos] <;> first | rfl | omega)))); (try simp only [Rg4.nrm]))
        (refine Rg4.w4_read (Rg4.want_none rfl) rfl rfl ?_; apply Exists.intro; refine ⟨fun w' hw' hcl' => ?_, ?_⟩; focus (subst hw'; have r0 := st.oldCell (i := 0) get0 HC.out.1.1; have r1 := st.oldCell (i := 0) get0 HC.out.1.2.1; have r2 := st.oldCell (i := 0) get0 HC.out.1.2.2.1; have r3 := st.oldCell (i := 0) get0 HC.out.1.2.2.2.1; have r4 := st.oldCell (i := 0) get0 HC.out.1.2.2.2.2.1; have r5 := st.oldCell (i := 0) get0 HC.out.1.2.2.2.2.2.1; have r6 := st.oldCell (i := 0) get0 HC.out.1.2.2.2.2.2.2.1; have r7 := st.oldCell (i := 0) get0 HC.out.1.2.2.2.2.2.2.2.1; have r8 := st.oldCell (i := 0) get0 HC.out.1.2.2.2.2.2.2.2.2; have s0 := st.oldCell (i := 0) get0 HC.out.2.1; have s1 := st.oldCell (i := 0) get0 HC.out.2.2.1; have s2 := st.oldCell (i := 0) get0 HC.out.2.2.2.1; have s3 := st.oldCell (i := 0) get0 HC.out.2.2.2.2.1; have s4 := st.oldCell (i := 0) get0 HC.out.2.2.2.2.2.1; have s5 := st.oldCell (i := 0) get0 HC.out.2.2.2.2.2.2.1; have s6 := st.oldCell (i := 0) get0 HC.out.2.2.2.2.2.2.2.1; have s7 := st.oldCell (i := 0) get0 HC.out.2.2.2.2.2.2.2.2.1; have s8 := st.oldCell (i := 0) get0 HC.out.2.2.2.2.2.2.2.2.2; (focus (first | (go_simp; done) | (go_simp; first | rfl | (rw [if_neg] <;> first | rfl | omega) | (rw [if_pos] <;> first | rfl | omega))))); (try simp only [Rg4.nrm]))
        (refine Rg4.w4_any (Rg4.want_none rfl) rfl ?_; apply Exists.intro; refine ⟨fun w' => ?_, ?_⟩; (focus (first | (go_simp; done) | (go_simp; first | rfl | (rw [if_neg] <;> first | rfl | omega) | (rw [if_pos] <;> first | rfl | omega)))); (try simp only [Rg4.nrm]))
        refine Rg4.w4_nil (fun w' hw' hcl' _ => ?_); subst hw'; clear hcl'
        cases hxy : credEq (⟨kk, (ho, hd), nw, (bo, bd), (co, cd), we⟩ : CredT) (⟨kk', (ho', hd'), nw', (bo', bd'), (co', cd'), we'⟩ : CredT) with
        | true =>
          have hb : (!true) = false := rfl
          have HF : Hid (l.take (j + 1) = l'.take (j + 1)) := Lib.hid (by rw [credEq_eq, decide_eq_true_eq] at hxy; rw [HX.out.1, HX.out.2.1, HT.out, hxy])
          clear hxy
          simp only [hb]
          go_wp2_with fail
          exact ⟨⟨j + 1, by omega, by go_num, HF, st⟩, by simp [intOf]; omega⟩
        | false =>
          have hb : (!false) = true := rfl
          have HF : Hid (l ≠ l') := Lib.hid (HX.out.2.2 (by rw [credEq_eq, decide_eq_false_iff_not] at hxy; exact hxy))
          clear hxy
          simp only [hb]
          go_wp2_with fail
          go_ret
          exact ⟨by rw [decide_eq_false HF.out]; rfl, st.ext0⟩
      · obtain rfl : j = n := by omega
        have HF : Hid (l = l') := Lib.hid (by have := HT.out; rw [List.take_of_length_le (by have := HNL.out; omega), List.take_of_length_le (by have := HNL.out; omega)] at this; exact this)
        go_wp2_with fail
        go_ret
        exact ⟨by rw [decide_eq_true HF.out]; rfl, st.ext0⟩
  · have HF : Hid (l ≠ l') := Lib.hid (fun h => hnn (by rw [HNL.out.1, HNL.out.2, h]))
    go_enter Try.func27, Try.ntmps27
    go_wp2_with fail
    go_ret
    exact ⟨by rw [decide_eq_false HF.out]; rfl, st.ext0⟩
set_option maxRecDepth 100000 in
set_option maxHeartbeats 1000000 in
theorem credIndex_any (a : Option Addr) (n c : Nat) (l : List CredT) (y : CredT) (W : World) (h : Fl W a n l) (hn : n ≤ 2000000) :
    Calls Try.prog 206 #[.slice a n c, cV y] W fun e w' => ∃ v : Int, e = .returned (.int .i64 v) ∧ (0 ≤ v ↔ y ∈ l) ∧ Ext W w' := by
  have H := Lib.hid h
  have HNL := Lib.hid h.1
  clear h
  obtain ⟨kk, ⟨ho, hd⟩, nw, ⟨bo, bd⟩, ⟨co, cd⟩, we⟩ := y
  have st := Own.startOld W
  unfold cV S
  (try simp only [nsl, Value.cells, unB] at st)
  (try clear hc); have hc := st.facts; (try simp only [nfl, nft, Nat.reduceAdd] at hc)
  go_enter Try.func206, Try.ntmps206
  go_wp2_with ((((with_reducible refine wl_box ?_ (fun K hK => ?_)); rfl; refine owp_box (o := ⟨some 3, _, _, _, _, _⟩) rfl st ?_; apply Exists.intro; refine ⟨?_, ?_⟩; (focus (go_simp; try rfl)); (clear st; intro b3 w hb st; clear hb))); (try simp only [nsl, Value.cells, unB] at st); (try clear hc); have hc := st.facts; (try simp only [nfl, nft, Nat.reduceAdd] at hc))
  go_loopg [8] n (fun k i wr => ∃ (j : Nat), j ≤ n ∧ k = n - j ∧ i = .int .i64 (j : Int) ∧ Hid ((⟨kk, (ho, hd), nw, (bo, bd), (co, cd), we⟩ : CredT) ∉ l.take j) ∧ Own (fun _ => False) (fun _ => True) W [oldI W, blkI b3 [.int .i64 kk, S ho, S hd, S nw, S bo, S bd, S co, S cd, S we]] wr)
  case atStart => exact ⟨0, by omega, by omega, rfl, Lib.hid (by simp), st⟩
  case round =>
    obtain ⟨j, hj, rfl, rfl, HT, st'⟩ := hrel
    clear st hc
    have st := st'
    clear st'
    unfold S at st
    (try simp only [nsl, Value.cells, unB] at st)
    (try clear hc); have hc := st.facts; (try simp only [nfl, nft, Nat.reduceAdd] at hc)
    by_cases hjn : j < n
    · obtain ⟨b, off, ha, hcell⟩ := H.out.cred (by omega)
      have hjl : j < l.length := by have := HNL.out; omega
      have HC := Lib.hid (hcell j l[j] (List.getElem?_eq_getElem hjl))
      have hts : l.take (j + 1) = l.take j ++ [l[j]] := (List.take_append_getElem hjl).symm
      have hmem := List.getElem_mem hjl
      clear hcell
      generalize l[j] = x at *
      obtain ⟨kk', ⟨ho', hd'⟩, nw', ⟨bo', bd'⟩, ⟨co', cd'⟩, we'⟩ := x
      have HX := Lib.hid (And.intro hts hmem)
      clear hts hmem
      subst ha
      simp only at HC
      unfold S at HC
      go_wp2_with fail
      refine Rg4.wp_region4_eq #[0, 0, 0, 6, 14, 31] [] [0, 4] (fun _ => True) [0, 1, 2, 3, 4, 5] (by kernel_rfl) (by kernel_rfl) (by kernel_rfl) (by kernel_rfl) (show Rg4.PB _ by repeat (first | with_reducible exact Rg4.pb_body | with_reducible exact Rg4.pb_bodyD rfl | with_reducible refine Rg4.pb_then ?_ | with_reducible refine Rg4.pb_inBlock ?_ | with_reducible refine Rg4.pb_noGoto ?_)) (trivial) ?_
      replace st := st.drew
      change Rg4.wp4 _ _ _ _ _ _ _ _ _ (World.drew _) _ _
      generalize World.drew _ = w at st ⊢
      (try clear hc); have hc := st.facts; (try simp only [nfl, nft, Nat.reduceAdd] at hc)
      (refine Rg4.w4_read (Rg4.want_none rfl) rfl rfl ?_; apply Exists.intro; refine ⟨fun w' hw' hcl' => ?_, ?_⟩; focus (subst hw'; have r0 := st.oldCell (i := 0) get0 HC.out.1; have r1 := st.oldCell (i := 0) get0 HC.out.2.1; have r2 := st.oldCell (i := 0) get0 HC.out.2.2.1; have r3 := st.oldCell (i := 0) get0 HC.out.2.2.2.1; have r4 := st.oldCell (i := 0) get0 HC.out.2.2.2.2.1; have r5 := st.oldCell (i := 0) get0 HC.out.2.2.2.2.2.1; have r6 := st.oldCell (i := 0) get0 HC.out.2.2.2.2.2.2.1; have r7 := st.oldCell (i := 0) get0 HC.out.2.2.2.2.2.2.2.1; have r8 := st.oldCell (i := 0) get0 HC.out.2.2.2.2.2.2.2.2; (focus (first | (go_simp; done) | (go_simp; first | rfl | (rw [if_neg] <;> first | rfl | omega) | (rw [if_pos] <;> first | rfl | omega))))); (try simp only [Rg4.nrm]))
      iterate 3 (refine Rg4.w4_any (Rg4.want_none rfl) rfl ?_; apply Exists.intro; refine ⟨fun w' => ?_, ?_⟩; (focus (first | (go_simp; done) | (go_simp; first | rfl | (rw [if_neg] <;> first | rfl | omega) | (rw [if_pos] <;> first | rfl | omega)))); (try simp only [Rg4.nrm]))
      (refine Rg4.w4_read (Rg4.want_none rfl) rfl rfl ?_; apply Exists.intro; refine ⟨fun w' hw' hcl' => ?_, ?_⟩; focus (subst hw'; have r0 := st.oldCell (i := 0) get0 HC.out.1; have r1 := st.oldCell (i := 0) get0 HC.out.2.1; have r2 := st.oldCell (i := 0) get0 HC.out.2.2.1; have r3 := st.oldCell (i := 0) get0 HC.out.2.2.2.1; have r4 := st.oldCell (i := 0) get0 HC.out.2.2.2.2.1; have r5 := st.oldCell (i := 0) get0 HC.out.2.2.2.2.2.1; have r6 := st.oldCell (i := 0) get0 HC.out.2.2.2.2.2.2.1; have r7 := st.oldCell (i := 0) get0 HC.out.2.2.2.2.2.2.2.1; have r8 := st.oldCell (i := 0) get0 HC.out.2.2.2.2.2.2.2.2; (focus (first | (go_simp; done) | (go_simp; first | rfl | (rw [if_neg] <;> first | rfl | omega) | (rw [if_pos] <;> first | rfl | omega))))); (try simp only [Rg4.nrm]))
      (refine Rg4.w4_any (Rg4.want_none rfl) rfl ?_; apply Exists.intro; refine ⟨fun w' => ?_, ?_⟩; (focus (first | (go_simp; done) | (go_simp; first | rfl | (rw [if_neg] <;> first | rfl | omega) | (rw [if_pos] <;> first | rfl | omega)))); (try simp only [Rg4.nrm]))
      refine Rg4.w4_nil (fun w' hw' hcl' _ => ?_); subst hw'; clear hcl'
      cases hr : credEq (⟨kk, (ho, hd), nw, (bo, bd), (co, cd), we⟩ : CredT) (⟨kk', (ho', hd'), nw', (bo', bd'), (co', cd'), we'⟩ : CredT) with
      | true =>
        have HF : Hid ((⟨kk, (ho, hd), nw, (bo, bd), (co, cd), we⟩ : CredT) ∈ l) := Lib.hid (by rw [credEq_eq, decide_eq_true_eq] at hr; rw [hr]; exact HX.out.2)
        clear hr
        go_wp2_with fail
        go_ret
        exact ⟨_, rfl, ⟨fun _ => HF.out, fun _ => by omega⟩, st.ext0⟩
      | false =>
        have HF : Hid ((⟨kk, (ho, hd), nw, (bo, bd), (co, cd), we⟩ : CredT) ∉ l.take (j + 1)) := Lib.hid (by
          rw [credEq_eq, decide_eq_false_iff_not] at hr
          rw [HX.out.1]
          intro q
          rcases List.mem_append.1 q with q | q
          · exact HT.out q
          · exact hr (List.mem_singleton.1 q))
        clear hr
        go_wp2_with fail
        go_roundg (n - (j + 1))
        case measure => omega
        case rel => exact ⟨j + 1, by omega, by omega, by first | rfl | trivial | go_num, HF, by simpa [S] using st⟩
    · obtain rfl : j = n := by omega
      have HF : Hid ((⟨kk, (ho, hd), nw, (bo, bd), (co, cd), we⟩ : CredT) ∉ l) := Lib.hid (by have := HT.out; rwa [List.take_of_length_le (by have := HNL.out; omega)] at this)
      go_wp2_with fail
      go_ret
      exact ⟨_, rfl, ⟨fun q => by omega, fun q => absurd q HF.out⟩, st.ext0⟩
set_option maxRecDepth 100000 in
set_option maxHeartbeats 1000000 in
theorem credContains_any (a : Option Addr) (n c : Nat) (l : List CredT) (y : CredT) (W : World) (h : Fl W a n l) (hn : n ≤ 2000000) :
    Calls Try.prog 171 #[.slice a n c, cV y] W fun e w' => e = .returned (.bool (decide (y ∈ l))) ∧ Ext W w' := by
  have H := Lib.hid h
  clear h
  have HI := Lib.hid (credIndex_any a n c l y)
  obtain ⟨kk, ⟨ho, hd⟩, nw, ⟨bo, bd⟩, ⟨co, cd⟩, we⟩ := y
  have st := Own.startOld W
  unfold cV S at *
  (try simp only [nsl, Value.cells, unB] at st)
  (try clear hc); have hc := st.facts; (try simp only [nfl, nft, Nat.reduceAdd] at hc)
  go_enter Try.func171, Try.ntmps171
  go_wp2_with ((((with_reducible refine wl_box ?_ (fun K hK => ?_)); rfl; refine owp_box (o := ⟨some 3, _, _, _, _, _⟩) rfl st ?_; apply Exists.intro; refine ⟨?_, ?_⟩; (focus (go_simp; try rfl)); (clear st; intro b3 w hb st; clear hb))); (try simp only [nsl, Value.cells, unB] at st); (try clear hc); have hc := st.facts; (try simp only [nfl, nft, Nat.reduceAdd] at hc))
  refine (HI.out _ (st.oldFl (i := 0) get0 H.out) hn).mono ?_
  rintro en w' ⟨v, rfl, hv, hx⟩
  replace st := st.ext hx
  clear hx
  by_cases h0 : 0 ≤ v
  · have HF : Hid ((⟨kk, (ho, hd), nw, (bo, bd), (co, cd), we⟩ : CredT) ∈ l) := Lib.hid (hv.1 h0)
    clear hv
    go_wp2_with fail
    go_ret
    exact ⟨by rw [decide_eq_true HF.out]; simp [h0], st.ext0⟩
  · have HF : Hid ((⟨kk, (ho, hd), nw, (bo, bd), (co, cd), we⟩ : CredT) ∉ l) := Lib.hid (fun q => h0 (hv.2 q))
    clear hv
    go_wp2_with fail
    go_ret
    exact ⟨by rw [decide_eq_false HF.out]; simp; omega, st.ext0⟩
end Go.Proofs.Ytekngjkjgmplpaa

namespace Go.Proofs.Ytekngjkjgmplpaa
set_option linter.unusedSimpArgs false
set_option linter.unusedVariables false
open Go Go.RowKit
def zS : StepT := ⟨zC, ⟨([], []), []⟩⟩
theorem stepInfo : ∃ i, Try.prog.info? 66 = some i ∧ i.zero = some (stV zS) ∧ i.size = 12 ∧ i.bytes = 184 := info_parts (by kernel_rfl)
@[go_sem] theorem eqNilStep (a : Option Addr) (n c : Nat) (w : World) : (binOp .eql 60 (.slice a n c) (.slice none 0 0)).run Try.prog w = .ok (.bool a.isNone) w := by
  have h := run_equal_slice_nil w _ _ a n c Try.underlying60
  simp only [binOp]
  simp [h]
section
variable {fr al : Nat → Prop} {w0 w : World} {L : List It} {P : Program} {o : Oper} {a : Act} {K : Act → World → Prop} {Q : Exit → Act → World → Prop}
/-- append(s[:j], s[p:]...) within a row of one's own. -/
theorem owp_appendIn {s x : Operand} {t : TypeId} (ho : o.op = .call { callee := .builtin .append, args := #[s, x], argTypes := #[t, t] }) (st : Own fr al w0 L w) (i : Nat) {E : TypeId} {inf : TypeInfo} {k n c g j p cx : Nat} {xs : List Value}
    (hi : L[i]? = some (rowI E k (.slice (some ⟨g, 0, none⟩) n c) n xs)) (ht : P.underlying t = some (.slice E)) (hinf : P.info? E = some inf) (hsize : inf.size = k) (hjp : j ≤ p) (hpn : p ≤ n) (hall : ∀ u ∈ xs, u.oneCell' = true)
    (hs : a.eval s = .slice (some ⟨g, 0, none⟩) j c) (hx : a.eval x = .slice (some ⟨g, p * k, none⟩) (n - p) cx)
    (h : ∀ w', Own fr al w0 (L.set i (rowI E k (.slice (some ⟨g, 0, none⟩) n c) n (spl xs (j * k) (xs.drop (p * k))))) w' → K (a.put o.dst (.slice (some ⟨g, 0, none⟩) (j + (n - p)) c)) w') : o.wp P a w K Q := by
  have hrow := st.row hi
  have hlx : xs.length = n * k := hrow.1
  have hnc : n ≤ c := by
    rcases hrow.2 with ⟨h5, _⟩ | ⟨g', cap, cur, hv, hb, hg, hc, hm, hs, ht⟩
    · cases h5
    · cases hv; exact hc
  have hpk : p * k ≤ n * k := Nat.mul_le_mul_right _ hpn
  have hdl : (xs.drop (p * k)).length = (n - p) * k := by rw [List.length_drop, hlx, Nat.sub_mul]
  have hjk : j * k + (n - p) * k ≤ n * k := by rw [← Nat.add_mul]; exact Nat.mul_le_mul_right _ (by omega)
  have hrun := run_append_room_cells (P := P) w t o.type E inf ht hinf g 0 j c ⟨g, p * k, none⟩ (n - p) cx (xs.drop (p * k)) (by rw [hdl, hsize]) (fun q u hq => by
      rw [List.getElem?_drop] at hq
      have hql := (List.getElem?_eq_some_iff.1 hq).1
      rw [addr_add, (row_cell hrow (p * k + q) (by omega)).1]; exact hq) (fun u hu => hall u (List.mem_of_mem_drop hu)) (by omega) (fun q hq => by
      rw [hdl] at hq
      rw [hsize, Nat.zero_add]
      have := row_cell hrow (j * k + q) (by omega)
      rw [this.1, List.getElem?_eq_getElem this.2.2]; rfl) (fun q hq => by
      rw [hdl] at hq
      rw [hsize, Nat.zero_add]
      exact (row_cell hrow (j * k + q) (by omega)).2.1)
  rw [hsize, Nat.zero_add] at hrun
  refine owp_run (v := .slice (some ⟨g, 0, none⟩) (j + (n - p)) c) (w' := w.setCells g (j * k) (xs.drop (p * k))) (by simp [execOp, ho, resolve, invoke, builtin, hs, hx, hrun, Result.andThen]) (h _ ?_)
  exact st.rowSet _ hi (j * k) (by rw [hdl]; exact hjk)
end
theorem spl_cut (X D : List Value) (j m : Nat) (hX : (m + 1) * 12 ≤ X.length) (hD : D.length = (m - j) * 12) (hj : j ≤ m) : (spl X (j * 12) D).take (m * 12) = X.take (j * 12) ++ D := by
  have hjm : j * 12 + (m - j) * 12 = m * 12 := by rw [← Nat.add_mul]; congr 1; omega
  apply List.ext_getElem?
  intro q
  by_cases hq : q < m * 12
  · rw [List.getElem?_take_of_lt hq, spl_in]
    by_cases hqj : q < j * 12
    · rw [if_neg (by omega), List.getElem?_append_left (by simp; omega), List.getElem?_take_of_lt hqj]
    · rw [if_pos ⟨by omega, by omega, by omega⟩, List.getElem?_append_right (by simp; omega)]
      congr 1
      simp; omega
  · rw [List.getElem?_eq_none (by simp; omega), List.getElem?_eq_none (by simp; omega)]
theorem step_drop (l : List StepT) (k : Nat) (hk : k ≤ l.length) : (cellsL l).drop (k * 12) = cellsL (l.drop k) := by
  conv => lhs; rw [← List.take_append_drop k l, cellsL_append]
  refine List.drop_left' ?_
  rw [cellsL_len, List.length_take, Nat.min_eq_left hk]; rfl
theorem step_del (l : List StepT) (j m : Nat) (hl : m + 1 = l.length) (hj : j < m) : (spl (cellsL l) (j * 12) ((cellsL l).drop ((j + 1) * 12))).take (m * 12) = cellsL (l.take j ++ l.drop (j + 1)) := by
  rw [step_drop l (j + 1) (by omega), spl_cut _ _ j m (by rw [cellsL_len, ← hl]; exact Nat.le_refl _) (by rw [cellsL_len, List.length_drop, ← hl, show Flt.k StepT = 12 from rfl]; congr 1; omega) (by omega), cellsL_append]
  congr 1
  have := cellsL_take l j
  rw [show Flt.k StepT = 12 from rfl] at this
  exact this
set_option maxRecDepth 100000 in
set_option maxHeartbeats 1000000 in
theorem stepClone_any (a : Option Addr) (n c : Nat) (l : List StepT) (W : World) (h : Fl W a n l) (hn : n ≤ 1000000) :
    Calls Try.prog 108 #[.slice a n c] W fun e w' => ∃ va vc, e = .returned (.slice va n vc) ∧ FreshI W w' (rowI 66 12 (.slice va n vc) n (cellsL l)) := by
  have H := Lib.hid h
  clear h
  have st := Own.startOld W
  (try simp only [nsl, Value.cells, unB] at st)
  (try clear hc); have hc := st.facts; (try simp only [nfl, nft, Nat.reduceAdd] at hc)
  cases a with
  | none =>
    have h0 : n = 0 := by
      rcases Nat.eq_zero_or_pos n with q | q
      · exact q
      · obtain ⟨b, off, e, _⟩ := H.out.2 q; cases e
    subst h0
    have hl : l = [] := List.eq_nil_of_length_eq_zero H.out.1.symm
    subst hl
    go_enter Try.func108, Try.ntmps108
    go_wp2_with fail
    go_ret
    exact ⟨none, 0, rfl, FreshI.post (FreshI.pre (FreshI.nilRow W _ _) (Ext.refl _)) st.ext0⟩
  | some ad =>
    go_enter Try.func108, Try.ntmps108
    go_wp2_with (first
        | ((with_reducible refine wl_append ?_ (fun K hK => ?_)); (rfl); (obtain ⟨inf, hinf, hz0, hz1, hz2⟩ := stepInfo); (refine owp_append rfl st 1 get1 Try.underlying60 hinf hz0 hz1 hz2 rfl (by decide) rfl rfl ((st.oldFl (i := 0) get0 H.out).flat) (by first | exact cellsL_all _ | simp [Value.oneCell']) (by simp only [maxLen]; omega) (by omega) ?_); (clear hinf hz0 hz1 hz2 inf); (clear st; intro v' w st); (obtain ⟨va', vc', rfl⟩ := own_slice (st.row (i := 1) get1)); (try simp only [nsl, Value.cells, unB] at st); (try simp only [Nat.zero_add] at st); (try clear hc); have hc := st.facts; (try simp only [nfl, nft, Nat.reduceAdd] at hc))
        | ((with_reducible refine wl_buildSlice ?_ (fun K hK => ?_)); (rfl); (refine owp_buildRow (o := ⟨some 5, _, _, _, _, _⟩) rfl st 66 12 ?_; refine ⟨0, #[], ?_, by simp, by simp [maxLen], ?_⟩; (focus (go_simp; (first | done | rfl))); (clear st; intro b5 w hb st; clear hb)); (try simp only [nsl, Value.cells, unB] at st); (try clear hc); have hc := st.facts; (try simp only [nfl, nft, Nat.reduceAdd] at hc)))
    go_ret
    have hf := st.toFresh (i := 1) get1
    exact ⟨_, _, rfl, hf⟩
section
variable {fr al : Nat → Prop} {w0 w : World}
set_option maxRecDepth 100000 in
set_option maxHeartbeats 4000000 in
theorem stepDelete_c {g m c j : Nat} {l : List StepT} (st : Own fr al w0 [rowI 66 12 (.slice (some ⟨g, 0, none⟩) (m + 1) c) (m + 1) (cellsL l)] w) (hj : j < m) (hn : m ≤ 1000000) :
    Calls Try.prog 107 #[.slice (some ⟨g, 0, none⟩) (m + 1) c, .int .i64 (j : Int), .int .i64 ((j : Int) + 1)] w fun e w' => e = .returned (.slice (some ⟨g, 0, none⟩) m c) ∧ Own fr al w0 [rowI 66 12 (.slice (some ⟨g, 0, none⟩) m c) m (cellsL (l.take j ++ l.drop (j + 1)))] w' := by
  obtain ⟨hcap, hfl⟩ := rowFl' (α := StepT) st (i := 0) get0
  have hlen : m + 1 = l.length := hfl.1
  clear hfl
  have hnc := hcap.1
  have hne : ((j : Int) == (j : Int) + 1) = false := by simp; omega
  have hcj : ¬ c = j + 1 := by omega
  have hcm : ¬ c = m := by omega
  have e1 : j + (m + 1 - (j + 1)) = m := by omega
  have hTK := step_del l j m hlen hj
  have HTK := Lib.hid hTK
  clear hTK hlen
  (try simp only [nsl, Value.cells, unB] at st)
  (try clear hc); have hc := st.facts; (try simp only [nfl, nft, Nat.reduceAdd] at hc)
  go_enter Try.func107, Try.ntmps107
  go_wp2_with fail
  refine Rg4.wp_region4_eq #[0, 0, 3, 0, 0, 24, 63, 127] [6] [] (fun _ => True) [0, 1, 2, 3, 4, 5, 6, 7] (by kernel_rfl) (by kernel_rfl) (by kernel_rfl) (by kernel_rfl) (show Rg4.PB _ by repeat (first | with_reducible exact Rg4.pb_body | with_reducible exact Rg4.pb_bodyD rfl | with_reducible refine Rg4.pb_then ?_ | with_reducible refine Rg4.pb_inBlock ?_ | with_reducible refine Rg4.pb_noGoto ?_)) (trivial) ?_
  replace st := st.drew
  change Rg4.wp4 _ _ _ _ _ _ _ _ _ (World.drew _) _ _
  generalize World.drew _ = w at st ⊢
  (try clear hc); have hc := st.facts; (try simp only [nfl, nft, Nat.reduceAdd] at hc)
  iterate 6 (refine Rg4.w4_any (Rg4.want_none rfl) rfl ?_; apply Exists.intro; refine ⟨fun w' => ?_, ?_⟩; (focus (first | (go_simp; done) | (go_simp; first | rfl | (rw [if_neg] <;> first | rfl | omega) | (rw [if_pos] <;> first | rfl | omega)))); (try simp only [Rg4.nrm]))
  refine Rg4.w4_bar (Rg4.want_none rfl) rfl (fun w' hw' hcl _ K hK => ?_)
  subst hw'
  obtain ⟨inf, hinf, hz0, hz1, hz2⟩ := stepInfo
  refine owp_appendIn rfl st 0 get0 (j := j) (p := j + 1) (cx := c - (j + 1)) Try.underlying60 hinf hz1 (by omega) (by omega) (cellsL_all _) ?_ ?_ ?_
  · go_simp
  · go_simp
  clear st
  intro w st
  simp only [List.set] at st
  rw [e1]
  refine hK _ _ ⟨trivial, ?_⟩
  clear hK
  (try simp only [Rg4.nrm])
  (refine Rg4.w4_any (Rg4.want_none rfl) rfl ?_; apply Exists.intro; refine ⟨fun w' => ?_, ?_⟩; (focus (first | (go_simp; done) | (go_simp; first | rfl | (rw [if_neg] <;> first | rfl | omega) | (rw [if_pos] <;> first | rfl | omega)))); (try simp only [Rg4.nrm]))
  refine Rg4.w4_nil (fun w' hw' hcl' _ => ?_); subst hw'; clear hcl'
  go_wp2_with ((with_reducible refine wl_clear ?_ (fun K hK => ?_)); (rfl); (refine owp_clearRow' rfl st Try.underlying60 ?_; apply Exists.intro; apply Exists.intro; apply Exists.intro; refine ⟨?_, ?_⟩; (focus (go_simp; exact ⟨rfl, rfl, rfl⟩)); refine ⟨0, _, _, _, _, m, _, inf, stV zS, get0, hinf, hz0, by decide, rfl, rfl, by omega, by simp, by omega, ?_⟩; (clear st; intro w ys hy1 hy2 st)))
  go_ret
  simp only [List.set] at st
  have st2 := st.rowCut (i := 0) get0 m (by omega)
  rw [hy1, HTK.out] at st2
  exact ⟨rfl, st2⟩
end
end Go.Proofs.Ytekngjkjgmplpaa

namespace Go.Proofs.Ytekngjkjgmplpaa
set_option linter.unusedSimpArgs false
set_option linter.unusedVariables false
open Go Go.RowKit
def dupAt (l : List StepT) (i : Nat) : Bool := match (l.map StepT.f)[i]? with | some f => decide (f ∈ (l.map StepT.f).take i) | none => false
def lessAt (l : List StepT) (i : Nat) : Bool := standsB (l.take i ++ l.drop (i + 1))
def tightB (l : List StepT) : Bool := (List.range l.length).all (fun i => !dupAt l i) && standsB l && (List.range (l.length - 1)).all (fun i => !lessAt l i)
theorem tightB_true (l : List StepT) (h1 : ∀ i, i < l.length → dupAt l i = false) (h2 : standsB l = true) (h3 : ∀ i, i < l.length - 1 → lessAt l i = false) : tightB l = true := by
  unfold tightB
  rw [h2]
  simp only [Bool.and_true, Bool.and_eq_true, List.all_eq_true, List.mem_range]
  exact ⟨fun i hi => by rw [h1 i hi]; rfl, fun i hi => by rw [h3 i hi]; rfl⟩
theorem tightB_dup (l : List StepT) (i : Nat) (hi : i < l.length) (h : dupAt l i = true) : tightB l = false := by
  unfold tightB
  have : (List.range l.length).all (fun i => !dupAt l i) = false := by
    rw [List.all_eq_false]; exact ⟨i, by simpa using hi, by rw [h]; decide⟩
  rw [this]; rfl
theorem tightB_stands (l : List StepT) (h : standsB l = false) : tightB l = false := by unfold tightB; rw [h]; simp
theorem tightB_less (l : List StepT) (i : Nat) (hi : i < l.length - 1) (h : lessAt l i = true) : tightB l = false := by
  unfold tightB
  have : (List.range (l.length - 1)).all (fun i => !lessAt l i) = false := by
    rw [List.all_eq_false]; exact ⟨i, by simpa using hi, by rw [h]; decide⟩
  rw [this]; simp
set_option maxRecDepth 100000 in
set_option maxHeartbeats 8000000 in
theorem chkTight_any (a : Option Addr) (n c : Nat) (l : List StepT) (W : World) (h : Fl W a n l) (hn : n ≤ 1000000) (hl : ∀ x ∈ l, CLenS x.c) :
    Calls Try.prog 41 #[.slice a n c] W fun e w' => e = .returned (.bool (tightB l)) ∧ Ext W w' := by
  have H := Lib.hid h
  have HNL := Lib.hid h.1
  have HL := Lib.hid hl
  have HT1 := Lib.hid (tightB_true l)
  have HT2 := Lib.hid (tightB_dup l)
  have HT3 := Lib.hid (tightB_stands l)
  have HT4 := Lib.hid (tightB_less l)
  have HSD := Lib.hid (fun W h => chkStands_any a n c l W h hn hl)
  obtain ⟨r, hr⟩ : ∃ r, tightB l = r := ⟨_, rfl⟩
  rw [hr] at HT1 HT2 HT3 HT4 ⊢
  obtain ⟨sb, hsb⟩ : ∃ b, standsB l = b := ⟨_, rfl⟩
  rw [hsb] at HT1 HT3 HSD
  clear h hl hr hsb
  have st := Own.startOld W
  (try simp only [nsl, Value.cells, unB] at st)
  (try clear hc); have hc := st.facts; (try simp only [nfl, nft, Nat.reduceAdd] at hc)
  go_enter Try.func41, Try.ntmps41
  go_wp2_with fail
  refine (chkFacts_any a n c l _ (st.oldFl (i := 0) get0 H.out) hn).mono ?_
  rintro en w ⟨fa, fc, rfl, hfr⟩
  replace st := st.fresh hfr
  clear hfr
  have hfc := (rowFl' (α := FactT) st (i := 1) get1).1
  (try simp only [nsl, Value.cells, unB] at st)
  (try clear hc); have hc := st.facts; (try simp only [nfl, nft, Nat.reduceAdd] at hc)
  go_wp2_with fail
  go_loopg [11] n (fun kk i wr => ∃ (j : Nat), j ≤ n ∧ kk = n - j ∧ i = .int .i64 (j : Int) ∧ Hid (∀ i, i < j → dupAt l i = false) ∧ Own (fun _ => False) (fun _ => True) W [oldI W, rowI 62 3 (.slice fa n fc) n (cellsL (l.map StepT.f))] wr)
  case atStart => exact ⟨0, by omega, by omega, rfl, Lib.hid (fun i hi => by omega), st⟩
  case round =>
    obtain ⟨j, hj, rfl, rfl, HT, st'⟩ := hrel
    clear st hc
    have st := st'
    clear st'
    (try simp only [nsl, Value.cells, unB] at st)
    (try clear hc); have hc := st.facts; (try simp only [nfl, nft, Nat.reduceAdd] at hc)
    by_cases hjn : j < n
    · obtain ⟨b, off, ha, hcell⟩ := (rowFl' (α := FactT) st (i := 1) get1).2.fact (by omega)
      have hjl : j < l.length := by have := HNL.out; omega
      have hjm : j < (l.map StepT.f).length := by simpa using hjl
      obtain ⟨r0, r1, r2⟩ := hcell j (l.map StepT.f)[j] (List.getElem?_eq_getElem hjm)
      have HDA : Hid (dupAt l j = decide ((l.map StepT.f)[j] ∈ (l.map StepT.f).take j)) := Lib.hid (by unfold dupAt; rw [List.getElem?_eq_getElem hjm])
      clear hcell
      generalize (l.map StepT.f)[j] = y at *
      subst ha
      have HFO := Lib.hid (fun W h => factContainsF (some ⟨b, off, none⟩) j fc ((l.map StepT.f).take j) y W h (by omega))
      rw [← HDA.out] at HFO
      obtain ⟨p, hp⟩ : ∃ p, dupAt l j = p := ⟨_, rfl⟩
      rw [hp] at HFO
      have HP := Lib.hid hp
      unfold fV at HFO
      unfold S at r0 r1 r2 HFO
      clear hp
      go_wp2_with ((first
            | ((with_reducible refine wl_alloc ?_ (fun K hK => ?_)); rfl; refine owp_alloc (o := ⟨some 5, _, _, _, _, _⟩) rfl st ?_; apply Exists.intro; apply Exists.intro; refine ⟨?_, ?_⟩; (focus (first | (go_simp; done) | (go_simp; rfl))); (clear st; intro b5 w hb st; clear hb))
            | ((with_reducible refine wl_store ?_ (fun K hK => ?_)); rfl; refine owp_store rfl st ?_; apply Exists.intro; apply Exists.intro; refine ⟨?_, ?_, ?_⟩; (focus (go_simp; try rfl)); (focus (go_simp; try rfl)); (with_reducible refine ⟨2, _, _, _, _, get2, rfl, rfl, ?_, ?_, ?_, ?_⟩); (kernel_rfl); (simp [Value.cells]); (rfl); (clear st; intro w st))); (try simp only [nsl, Value.cells, unB] at st); (try clear hc); have hc := st.facts; (try simp only [nfl, nft, Nat.reduceAdd] at hc))
      clear r0 r1 r2
      refine Rg4.wp_region4_eq #[0, 0, 3, 0, 15] [4] [3] (fun _ => True) [0, 1, 2, 3, 4] (by kernel_rfl) (by kernel_rfl) (by kernel_rfl) (by kernel_rfl) (show Rg4.PB _ by repeat (first | with_reducible exact Rg4.pb_body | with_reducible exact Rg4.pb_bodyD rfl | with_reducible refine Rg4.pb_then ?_ | with_reducible refine Rg4.pb_inBlock ?_ | with_reducible refine Rg4.pb_noGoto ?_)) (trivial) ?_
      replace st := st.drew
      change Rg4.wp4 _ _ _ _ _ _ _ _ _ (World.drew _) _ _
      generalize World.drew _ = w at st ⊢
      (try clear hc); have hc := st.facts; (try simp only [nfl, nft, Nat.reduceAdd] at hc)
      iterate 3 (refine Rg4.w4_any (Rg4.want_none rfl) rfl ?_; apply Exists.intro; refine ⟨fun w' => ?_, ?_⟩; (focus (first | (go_simp; done) | (go_simp; first | rfl | (rw [if_neg] <;> first | rfl | omega) | (rw [if_pos] <;> first | rfl | omega)))); (try simp only [Rg4.nrm]))
      (refine Rg4.w4_read (Rg4.want_none rfl) rfl rfl ?_; apply Exists.intro; refine ⟨fun w' hw' hcl' => ?_, ?_⟩; focus (subst hw'; (focus (first | (go_simp; done) | (go_simp; first | rfl | (rw [if_neg] <;> first | rfl | omega) | (rw [if_pos] <;> first | rfl | omega))))); (try simp only [Rg4.nrm]))
      refine Rg4.w4_bar (Rg4.want_none rfl) rfl (fun w' hw' hcl _ K hK => ?_)
      subst hw'
      go_wp2_with fail
      refine (HFO.out _ ((rowFl' (α := FactT) st (i := 1) get1).2.pre j hj)).mono ?_
      rintro en w ⟨rfl, hx⟩
      replace st := st.ext hx
      clear hx
      (try clear hc); have hc := st.facts; (try simp only [nfl, nft, Nat.reduceAdd] at hc)
      refine hK _ _ ⟨trivial, ?_⟩
      clear hK
      (try simp only [Rg4.nrm])
      refine Rg4.w4_nil (fun w' hw' hcl' _ => ?_); subst hw'; clear hcl'
      cases p with
      | false =>
        go_wp2_with fail
        have st' := st.keep [0, 1] (by decide) (by simp)
        go_roundg (n - (j + 1))
        case measure => omega
        case rel => exact ⟨j + 1, by omega, by omega, by go_num, Lib.hid (fun i hi => by rcases Nat.lt_succ_iff_lt_or_eq.1 hi with q | q; exact HT.out i q; rw [q]; exact HP.out), by simpa [pick] using st'⟩
      | true =>
        have HF : Hid (r = false) := Lib.hid (HT2.out j hjl HP.out)
        go_wp2_with fail
        go_ret
        exact ⟨by rw [HF.out]; rfl, st.ext0⟩
    · obtain rfl : j = n := by omega
      go_wp2_with fail
      refine (HSD.out _ (st.oldFl (i := 0) get0 H.out)).mono ?_
      rintro en w ⟨rfl, hx⟩
      replace st := st.ext hx
      clear hx
      (try clear hc); have hc := st.facts; (try simp only [nfl, nft, Nat.reduceAdd] at hc)
      cases sb with
      | false =>
        have HF : Hid (r = false) := Lib.hid (HT3.out rfl)
        go_wp2_with fail
        go_ret
        exact ⟨by rw [HF.out]; rfl, st.ext0⟩
      | true =>
        replace st := st.keep [0] (by decide) (by simp)
        simp only [pick, List.map_cons, List.map_nil, List.getElem?_cons_zero, Option.getD_some] at st
        rcases Nat.eq_zero_or_pos j with hz | hz
        · subst hz
          have HF : Hid (r = true) := Lib.hid (HT1.out (fun i hi => HT.out i (by have := HNL.out; omega)) rfl (fun i hi => by have := HNL.out; omega))
          go_wp2_with fail
          go_loopg [29] 0 (fun kk i wr => i = .int .i64 0 ∧ Own (fun _ => False) (fun _ => True) W [oldI W] wr)
          case atStart => exact ⟨rfl, st⟩
          case round =>
            clear st
            obtain ⟨rfl, st⟩ := hrel
            go_wp2_with fail
            go_ret
            exact ⟨by rw [HF.out]; rfl, st.ext0⟩
        obtain ⟨m, rfl⟩ : ∃ m, j = m + 1 := ⟨j - 1, by omega⟩
        go_wp2_with fail
        go_loopg [29] m (fun kk i wr => ∃ q : Nat, q ≤ m ∧ kk = m - q ∧ i = .int .i64 (q : Int) ∧ Hid (∀ i, i < q → lessAt l i = false) ∧ Own (fun _ => False) (fun _ => True) W [oldI W] wr)
        case atStart => exact ⟨0, by omega, by omega, rfl, Lib.hid (fun i hi => by omega), st⟩
        case round =>
          obtain ⟨q, hq, rfl, rfl, HQ, st'⟩ := hrel
          clear st hc
          have st := st'
          clear st'
          by_cases hqm : q < m
          · have HLS := Lib.hid (fun a c W h => chkStands_any a m c (l.take q ++ l.drop (q + 1)) W h (by omega) (fun x hx => HL.out x (by rcases List.mem_append.1 hx with hx | hx; exact List.mem_of_mem_take hx; exact List.mem_of_mem_drop hx)))
            obtain ⟨p, hp⟩ : ∃ p, lessAt l q = p := ⟨_, rfl⟩
            have hp2 : standsB (l.take q ++ l.drop (q + 1)) = p := hp
            rw [hp2] at HLS
            have HP := Lib.hid hp
            clear hp hp2
            go_wp2_with fail
            refine (stepClone_any a (m + 1) c l _ (st.oldFl (i := 0) get0 H.out) hn).mono ?_
            rintro en w ⟨va, vc, rfl, hfr⟩
            replace st := st.fresh hfr
            clear hfr
            simp only [List.cons_append, List.nil_append] at st
            obtain ⟨g, cap, hv, _⟩ := st.rowAt (i := 1) get1 (by omega)
            injection hv with hv1 hv2 hv3
            subst hv1 hv3
            clear hv2
            go_wp2_with fail
            obtain ⟨fr', al', st', back⟩ := st.sub [1] (by decide) (by simp)
            (try simp only [nsl, Value.cells, unB] at st')
            refine (stepDelete_c st' hqm (by omega)).mono ?_
            clear st'
            rintro en w ⟨rfl, st'⟩
            replace st := back _ _ (by simp) st'
            clear back st'
            (try simp only [nsl, Value.cells, unB] at st)
            (try clear hc); have hc := st.facts; (try simp only [nfl, nft, Nat.reduceAdd] at hc)
            go_wp2_with fail
            refine (HLS.out _ _ _ (rowFl' (α := StepT) st (i := 1) get1).2).mono ?_
            rintro en w ⟨rfl, hx⟩
            replace st := st.ext hx
            clear hx
            (try clear hc); have hc := st.facts; (try simp only [nfl, nft, Nat.reduceAdd] at hc)
            cases p with
            | false =>
              go_wp2_with fail
              have st' := st.keep [0] (by decide) (by simp)
              go_roundg (m - (q + 1))
              case measure => omega
              case rel => exact ⟨q + 1, by omega, by omega, by go_num, Lib.hid (fun i hi => by rcases Nat.lt_succ_iff_lt_or_eq.1 hi with z | z; exact HQ.out i z; rw [z]; exact HP.out), by simpa [pick] using st'⟩
            | true =>
              have HF : Hid (r = false) := Lib.hid (HT4.out q (by have := HNL.out; omega) HP.out)
              go_wp2_with fail
              go_ret
              exact ⟨by rw [HF.out]; rfl, st.ext0⟩
          · obtain rfl : q = m := by omega
            have HF : Hid (r = true) := Lib.hid (HT1.out (fun i hi => HT.out i (by have := HNL.out; omega)) trivial (fun i hi => HQ.out i (by have := HNL.out; omega)))
            go_wp2_with fail
            go_ret
            exact ⟨by rw [HF.out]; rfl, st.ext0⟩
end Go.Proofs.Ytekngjkjgmplpaa

namespace Go.Proofs.Ytekngjkjgmplpaa
set_option linter.unusedSimpArgs false
set_option linter.unusedVariables false
open Go Go.RowKit
theorem dupAt_true (l : List StepT) (i j : Nat) (hi : i < l.length) (hj : j < i) (h : l[i].f = l[j].f) : dupAt l i = true := by
  unfold dupAt
  rw [List.getElem?_map, List.getElem?_eq_getElem hi]
  simp only [Option.map_some, decide_eq_true_eq]
  rw [h]
  refine List.mem_of_getElem? (i := j) ?_
  rw [List.getElem?_take_of_lt hj, List.getElem?_map, List.getElem?_eq_getElem (by omega)]; rfl
theorem dupAt_false (l : List StepT) (i : Nat) (hi : i < l.length) (h : ∀ j, (hj : j < i) → l[i].f ≠ (l[j]'(by omega)).f) : dupAt l i = false := by
  unfold dupAt
  rw [List.getElem?_map, List.getElem?_eq_getElem hi]
  simp only [Option.map_some, decide_eq_false_iff_not]
  intro hm
  obtain ⟨j, hj⟩ := List.getElem?_of_mem hm
  have hji : j < i := by
    have := (List.getElem?_eq_some_iff.1 hj).1
    simp at this; omega
  rw [List.getElem?_take_of_lt hji, List.getElem?_map, List.getElem?_eq_getElem (by omega)] at hj
  simp only [Option.map_some, Option.some.injEq] at hj
  exact h j hji hj.symm
theorem Fl.from {α : Type} [Flt α] {w : World} {b off n : Nat} {xs : List α} (h : Fl w (some ⟨b, off, none⟩) n xs) (p : Nat) (hp : p ≤ n) : Fl w (some ⟨b, off + p * Flt.k α, none⟩) (n - p) (xs.drop p) := by
  have := h.part p (n - p) (by omega)
  rwa [List.take_of_length_le (by have := h.1; simp; omega)] at this
set_option maxRecDepth 100000 in
set_option maxHeartbeats 8000000 in
theorem refTight_any (a : Option Addr) (n c : Nat) (l : List StepT) (W : World) (h : Fl W a n l) (hnc : n ≤ c) (hn : n ≤ 1000000) (hl : ∀ x ∈ l, CLenS x.c) :
    Calls Try.prog 42 #[.slice a n c] W fun e w' => e = .returned (.bool (tightB l)) ∧ Ext W w' := by
  have H := Lib.hid h
  have HNL := Lib.hid h.1
  have HL := Lib.hid hl
  have HT1 := Lib.hid (tightB_true l)
  have HT2 := Lib.hid (tightB_dup l)
  have HT3 := Lib.hid (tightB_stands l)
  have HT4 := Lib.hid (tightB_less l)
  have HSD := Lib.hid (fun W h => refStands_any a n c l W h hnc hn hl)
  obtain ⟨r, hr⟩ : ∃ r, tightB l = r := ⟨_, rfl⟩
  rw [hr] at HT1 HT2 HT3 HT4 ⊢
  obtain ⟨sb, hsb⟩ : ∃ b, standsB l = b := ⟨_, rfl⟩
  rw [hsb] at HT1 HT3 HSD
  have HDT := Lib.hid (dupAt_true l)
  have HDF := Lib.hid (dupAt_false l)
  clear h hl hr hsb
  have st := Own.startOld W
  (try simp only [nsl, Value.cells, unB] at st)
  (try clear hc); have hc := st.facts; (try simp only [nfl, nft, Nat.reduceAdd] at hc)
  go_enter Try.func42, Try.ntmps42
  go_wp2_with fail
  go_loopg [9] n (fun kk i wr => ∃ (j : Nat), j ≤ n ∧ kk = n - j ∧ i = .int .i64 (j : Int) ∧ Hid (∀ i, i < j → dupAt l i = false) ∧ Own (fun _ => False) (fun _ => True) W [oldI W] wr)
  case atStart => exact ⟨0, by omega, by omega, rfl, Lib.hid (fun i hi => by omega), st⟩
  case round =>
    obtain ⟨i, hi, rfl, rfl, HT, st'⟩ := hrel
    clear st hc
    have st := st'
    clear st'
    by_cases hin : i < n
    · obtain ⟨b, off, rfl, hcell⟩ := H.out.step (by omega)
      have hil : i < l.length := by have := HNL.out; omega
      have HC := Lib.hid hcell
      clear hcell
      go_wp2_with fail
      go_loopg [4] i (fun kk q wr => ∃ (j : Nat), j ≤ i ∧ kk = i - j ∧ q = .int .i64 (j : Int) ∧ Hid (∀ k, (hk : k < j) → (hk2 : k < l.length) → l[i].f ≠ l[k].f) ∧ Own (fun _ => False) (fun _ => True) W [oldI W] wr)
      case atStart => exact ⟨0, by omega, by omega, rfl, Lib.hid (fun k hk => by omega), st⟩
      case round =>
        obtain ⟨j, hj, rfl, rfl, HJ, st'⟩ := hrel
        clear st
        have st := st'
        clear st'
        by_cases hji : j < i
        · have hjl : j < l.length := by omega
          have HCI := Lib.hid ((HC.out i l[i] (List.getElem?_eq_getElem hil)).2.2.2.2.2.2.2.2.2)
          have HCJ := Lib.hid ((HC.out j l[j] (List.getElem?_eq_getElem hjl)).2.2.2.2.2.2.2.2.2)
          have HDU := Lib.hid (fun h => HT2.out i hil (HDT.out i j hil hji h))
          have HJN : Hid (l[i].f ≠ l[j].f → ∀ k, (hk : k < j + 1) → (hk2 : k < l.length) → l[i].f ≠ l[k].f) := Lib.hid (fun h k hk hk2 => by
            rcases Nat.lt_succ_iff_lt_or_eq.1 hk with q | q
            · exact HJ.out k q hk2
            · subst q; exact h)
          obtain ⟨fi, hfi⟩ : ∃ f, l[i].f = f := ⟨_, rfl⟩
          obtain ⟨fj, hfj⟩ : ∃ f, l[j].f = f := ⟨_, rfl⟩
          rw [hfi] at HCI HDU HJN
          rw [hfj] at HCJ HDU HJN
          obtain ⟨⟨io, id⟩, iw⟩ := fi
          obtain ⟨⟨jo, jd⟩, jw⟩ := fj
          have HFI := Lib.hid hfi
          clear hfi hfj
          simp only at HCI HCJ
          unfold S at HCI HCJ
          go_wp2_with fail
          refine Rg4.wp_region4_eq #[0, 0, 3, 7, 15, 0, 0, 96, 224, 480, 1023] [] [4, 9] (fun _ => True) [0, 1, 2, 3, 4, 5, 6, 7, 8, 9, 10] (by kernel_rfl) (by kernel_rfl) (by kernel_rfl) (by kernel_rfl) (show Rg4.PB _ by repeat (first | with_reducible exact Rg4.pb_body | with_reducible exact Rg4.pb_bodyD rfl | with_reducible refine Rg4.pb_then ?_ | with_reducible refine Rg4.pb_inBlock ?_ | with_reducible refine Rg4.pb_noGoto ?_)) (trivial) ?_
          replace st := st.drew
          change Rg4.wp4 _ _ _ _ _ _ _ _ _ (World.drew _) _ _
          generalize World.drew _ = w at st ⊢
          (try clear hc); have hc := st.facts; (try simp only [nfl, nft, Nat.reduceAdd] at hc)
          iterate 4 (refine Rg4.w4_any (Rg4.want_none rfl) rfl ?_; apply Exists.intro; refine ⟨fun w' => ?_, ?_⟩; (focus (first | (go_simp; done) | (go_simp; first | rfl | (rw [if_neg] <;> first | rfl | omega) | (rw [if_pos] <;> first | rfl | omega)))); (try simp only [Rg4.nrm]))
          (refine Rg4.w4_read (Rg4.want_none rfl) rfl rfl ?_; apply Exists.intro; refine ⟨fun w' hw' hcl' => ?_, ?_⟩; focus (subst hw'; have q0 := st.oldCell (i := 0) get0 HCI.out.1; have q1 := st.oldCell (i := 0) get0 HCI.out.2.1; have q2 := st.oldCell (i := 0) get0 HCI.out.2.2; have p0 := st.oldCell (i := 0) get0 HCJ.out.1; have p1 := st.oldCell (i := 0) get0 HCJ.out.2.1; have p2 := st.oldCell (i := 0) get0 HCJ.out.2.2; (focus (first | (go_simp; done) | (go_simp; first | rfl | (rw [if_neg] <;> first | rfl | omega) | (rw [if_pos] <;> first | rfl | omega))))); (try simp only [Rg4.nrm]))
          iterate 4 (refine Rg4.w4_any (Rg4.want_none rfl) rfl ?_; apply Exists.intro; refine ⟨fun w' => ?_, ?_⟩; (focus (first | (go_simp; done) | (go_simp; first | rfl | (rw [if_neg] <;> first | rfl | omega) | (rw [if_pos] <;> first | rfl | omega)))); (try simp only [Rg4.nrm]))
          (refine Rg4.w4_read (Rg4.want_none rfl) rfl rfl ?_; apply Exists.intro; refine ⟨fun w' hw' hcl' => ?_, ?_⟩; focus (subst hw'; have q0 := st.oldCell (i := 0) get0 HCI.out.1; have q1 := st.oldCell (i := 0) get0 HCI.out.2.1; have q2 := st.oldCell (i := 0) get0 HCI.out.2.2; have p0 := st.oldCell (i := 0) get0 HCJ.out.1; have p1 := st.oldCell (i := 0) get0 HCJ.out.2.1; have p2 := st.oldCell (i := 0) get0 HCJ.out.2.2; (focus (first | (go_simp; done) | (go_simp; first | rfl | (rw [if_neg] <;> first | rfl | omega) | (rw [if_pos] <;> first | rfl | omega))))); (try simp only [Rg4.nrm]))
          (refine Rg4.w4_any (Rg4.want_none rfl) rfl ?_; apply Exists.intro; refine ⟨fun w' => ?_, ?_⟩; (focus (first | (go_simp; done) | (go_simp; first | rfl | (rw [if_neg] <;> first | rfl | omega) | (rw [if_pos] <;> first | rfl | omega)))); (try simp only [Rg4.nrm]))
          refine Rg4.w4_nil (fun w' hw' hcl' _ => ?_); subst hw'; clear hcl'
          cases hxy : factEq (⟨(io, id), iw⟩ : FactT) (⟨(jo, jd), jw⟩ : FactT) with
          | true =>
            have HF : Hid (r = false) := Lib.hid (HDU.out (by rw [factEq_eq, decide_eq_true_eq] at hxy; exact hxy))
            clear hxy
            go_wp2_with fail
            go_ret
            exact ⟨by rw [HF.out]; rfl, st.ext0⟩
          | false =>
            have HF := Lib.hid (HJN.out (by rw [factEq_eq, decide_eq_false_iff_not] at hxy; exact hxy))
            clear hxy
            go_wp2_with fail
            go_roundg (i - (j + 1))
            case measure => omega
            case rel => exact ⟨j + 1, by omega, by omega, by go_num, Lib.hid (fun k hk hk2 => by rw [HFI.out]; exact HF.out k hk hk2), st⟩
        · obtain rfl : j = i := by omega
          have HD0 : Hid (dupAt l j = false) := Lib.hid (HDF.out j hil (fun k hk => HJ.out k hk (by omega)))
          go_wp2_with fail
          go_roundg (n - (j + 1))
          case measure => omega
          case rel => exact ⟨j + 1, by omega, by omega, by go_num, Lib.hid (fun k hk => by rcases Nat.lt_succ_iff_lt_or_eq.1 hk with q | q; exact HT.out k q; rw [q]; exact HD0.out), st⟩
    · obtain rfl : i = n := by omega
      go_wp2_with fail
      refine (HSD.out _ (st.oldFl (i := 0) get0 H.out)).mono ?_
      rintro en w ⟨rfl, hx⟩
      replace st := st.ext hx
      clear hx
      (try clear hc); have hc := st.facts; (try simp only [nfl, nft, Nat.reduceAdd] at hc)
      cases sb with
      | false =>
        have HF : Hid (r = false) := Lib.hid (HT3.out rfl)
        go_wp2_with fail
        go_ret
        exact ⟨by rw [HF.out]; rfl, st.ext0⟩
      | true =>
        go_wp2_with fail
        go_loopg [5] (i - 1) (fun kk v wr => ∃ q : Nat, (q ≤ i - 1) ∧ kk = i - 1 - q ∧ v = .int .i64 (q : Int) ∧ Hid (∀ k, k < q → lessAt l k = false) ∧ Own (fun _ => False) (fun _ => True) W [oldI W] wr)
        case atStart => exact ⟨0, by omega, by omega, rfl, Lib.hid (fun k hk => by omega), st⟩
        case round =>
          obtain ⟨q, hq, rfl, rfl, HQ, st'⟩ := hrel
          clear st hc
          have st := st'
          clear st'
          by_cases hqn : q + 1 < i
          · obtain ⟨b, off, ha, -⟩ := H.out.2 (by omega)
            subst ha
            have hcq : ¬ c = q + 1 := by omega
            have hwq : IntKind.i64.wrap ((q : Int) + 1) = (q : Int) + 1 := IntWalk.i64_in _ ⟨by omega, by omega⟩
            have HLS := Lib.hid (fun a c W h hnc => refStands_any a (i - 1) c (l.take q ++ l.drop (q + 1)) W h hnc (by omega) (fun x hx => HL.out x (by rcases List.mem_append.1 hx with hx | hx; exact List.mem_of_mem_take hx; exact List.mem_of_mem_drop hx)))
            obtain ⟨p, hp⟩ : ∃ p, lessAt l q = p := ⟨_, rfl⟩
            have hp2 : standsB (l.take q ++ l.drop (q + 1)) = p := hp
            rw [hp2] at HLS
            have HP := Lib.hid hp
            clear hp hp2
            have eni : q + (i - (q + 1)) = i - 1 := by omega
            have hqc : q ≤ c := by omega
            go_wp2_with fail
            refine Rg4.wp_region4_eq #[0, 0, 0, 6, 15, 0, 0, 64, 224, 511, 1023] [0, 4, 9] [] (fun _ => True) [1, 2, 3, 5, 6, 7, 8, 0, 4, 9, 10] (by kernel_rfl) (by kernel_rfl) (by kernel_rfl) (by kernel_rfl) (show Rg4.PB _ by repeat (first | with_reducible exact Rg4.pb_body | with_reducible exact Rg4.pb_bodyD rfl | with_reducible refine Rg4.pb_then ?_ | with_reducible refine Rg4.pb_inBlock ?_ | with_reducible refine Rg4.pb_noGoto ?_)) (trivial) ?_
            replace st := st.drew
            change Rg4.wp4 _ _ _ _ _ _ _ _ _ (World.drew _) _ _
            generalize World.drew _ = w at st ⊢
            (try clear hc); have hc := st.facts; (try simp only [nfl, nft, Nat.reduceAdd] at hc)
            iterate 7 (refine Rg4.w4_any (Rg4.want_none rfl) rfl ?_; apply Exists.intro; refine ⟨fun w' => ?_, ?_⟩; (focus (first | (go_simp; done) | (go_simp; first | rfl | (rw [if_neg] <;> first | rfl | omega) | (rw [if_pos] <;> first | rfl | omega)))); (try simp only [Rg4.nrm]))
            refine Rg4.w4_bar (Rg4.want_none rfl) rfl (fun w' hw' hcl _ K hK => ?_)
            subst hw'
            refine owp_buildRow rfl st 66 12 ?_
            refine ⟨0, #[], ?_, by simp, by simp [maxLen], ?_⟩
            · go_simp
            clear st
            intro b39 w hb st
            clear hb
            simp only [List.cons_append, List.nil_append] at st
            refine hK _ _ ⟨trivial, ?_⟩
            clear hK
            (try simp only [Rg4.nrm])

            refine Rg4.w4_bar (Rg4.want_none rfl) rfl (fun w' hw' hcl _ K hK => ?_)
            subst hw'
            obtain ⟨inf, hinf, hz0, hz1, hz2⟩ := stepInfo
            refine owp_append rfl st 1 get1 Try.underlying60 hinf hz0 hz1 hz2 rfl (by decide) rfl rfl (((st.oldFl (i := 0) get0 H.out).pre q (by omega)).flat) (cellsL_all _) (by simp only [maxLen]; omega) (by omega) ?_
            clear st
            intro v' w st
            obtain ⟨va1, vc1, rfl⟩ := own_slice (st.row (i := 1) get1)
            simp only [Nat.zero_add, List.nil_append, List.set] at st ⊢
            refine hK _ _ ⟨trivial, ?_⟩
            clear hK
            (try simp only [Rg4.nrm])

            refine Rg4.w4_bar (Rg4.want_none rfl) rfl (fun w' hw' hcl _ K hK => ?_)
            subst hw'
            refine owp_append rfl st 1 get1 Try.underlying60 hinf hz0 hz1 hz2 rfl (by decide) rfl rfl (((st.oldFl (i := 0) get0 H.out).from (q + 1) (by omega)).flat) (cellsL_all _) (by simp only [maxLen]; omega) (by omega) ?_
            clear hinf hz0 hz1 hz2 inf
            clear st
            intro v' w st
            obtain ⟨va2, vc2, rfl⟩ := own_slice (st.row (i := 1) get1)
            simp only [List.set, ← cellsL_append, eni] at st ⊢
            refine hK _ _ ⟨trivial, ?_⟩
            clear hK
            (try simp only [Rg4.nrm])
            (refine Rg4.w4_any (Rg4.want_none rfl) rfl ?_; apply Exists.intro; refine ⟨fun w' => ?_, ?_⟩; (focus (first | (go_simp; done) | (go_simp; first | rfl | (rw [if_neg] <;> first | rfl | omega) | (rw [if_pos] <;> first | rfl | omega)))); (try simp only [Rg4.nrm]))
            refine Rg4.w4_nil (fun w' hw' hcl' _ => ?_); subst hw'; clear hcl'
            go_wp2_with fail
            obtain ⟨hvc, hfl⟩ := rowFl' (α := StepT) st (i := 1) get1
            refine (HLS.out _ _ _ hfl hvc.1).mono ?_
            rintro en w ⟨rfl, hx⟩
            replace st := st.ext hx
            clear hx hfl
            cases p with
            | false =>
              go_wp2_with fail
              have st' := st.keep [0] (by decide) (by simp)
              go_roundg (i - 1 - (q + 1))
              case measure => omega
              case rel => exact ⟨q + 1, by omega, by omega, by go_num, Lib.hid (fun k hk => by rcases Nat.lt_succ_iff_lt_or_eq.1 hk with z | z; exact HQ.out k z; rw [z]; exact HP.out), by simpa [pick] using st'⟩
            | true =>
              have HF : Hid (r = false) := Lib.hid (HT4.out q (by have := HNL.out; omega) HP.out)
              go_wp2_with fail
              go_ret
              exact ⟨by rw [HF.out]; rfl, st.ext0⟩
          · have HF : Hid (r = true) := Lib.hid (HT1.out (fun k hk => HT.out k (by have := HNL.out; omega)) trivial (fun k hk => HQ.out k (by have := HNL.out; omega)))
            go_wp2_with fail
            go_ret
            exact ⟨by rw [HF.out]; rfl, st.ext0⟩
end Go.Proofs.Ytekngjkjgmplpaa

namespace Go.Proofs.Ytekngjkjgmplpaa
set_option linter.unusedSimpArgs false
set_option linter.unusedVariables false
open Go Go.RowKit
/-- One behind another. -/
def bd {α β : Type} (r : Except Int (α × List UInt8)) (f : α → List UInt8 → Except Int β) : Except Int β := match r with | .error e => .error e | .ok p => f p.1 p.2
theorem bd_er {α β : Type} (e : Int) (f : α → List UInt8 → Except Int β) : bd (.error e) f = .error e := rfl
theorem bd_ok {α β : Type} (x : α) (ys : List UInt8) (f : α → List UInt8 → Except Int β) : bd (.ok (x, ys)) f = f x ys := rfl
def okCr (c : CredT) (ys : List UInt8) : Except Int (CredT × List UInt8) := if credR c = true then .ok (c, ys) else .error 11
/-- The next credential. -/
def rdCred (xs : List UInt8) : Except Int (CredT × List UInt8) :=
  bd (rdNumber 9223372036854775807 xs) fun n ys => if n < 1 ∨ 4 < n then .error 11 else
  bd (rdRole ys) fun h zs => if n = 1 then bd (rdName zs) fun w us => okCr ⟨1, h, w, nR, nR, []⟩ us
    else bd (rdRole zs) fun b us => if n = 2 then okCr ⟨2, h, [], b, nR, []⟩ us else if n = 3 then bd (rdName us) fun e vs => okCr ⟨3, h, [], b, nR, e⟩ vs else bd (rdRole us) fun c vs => okCr ⟨4, h, [], b, c, []⟩ vs
theorem rdRole_le {xs ys : List UInt8} {h : Role} (hr : rdRole xs = .ok (h, ys)) : ys.length ≤ xs.length ∧ roleR h = true := by
  unfold rdRole at hr
  cases h1 : rdName xs with
  | error e => rw [h1] at hr; simp at hr
  | ok p =>
    obtain ⟨o, zs⟩ := p
    rw [h1] at hr
    simp only at hr
    cases h2 : rdName zs with
    | error e => rw [h2] at hr; simp at hr
    | ok q =>
      obtain ⟨d, us⟩ := q
      rw [h2] at hr
      simp at hr
      obtain ⟨rfl, rfl⟩ := hr
      have a1 := rdName_le h1
      have a2 := rdName_le h2
      exact ⟨by omega, by simp [roleR, a1.2, a2.2]⟩
theorem rdNumber_le {most : Int} {xs ys : List UInt8} {n : Nat} (hr : rdNumber most xs = .ok (n, ys)) : ys.length ≤ xs.length := by
  unfold rdNumber at hr
  cases h : rdNum xs with
  | error e => rw [h] at hr; simp at hr
  | ok p =>
    obtain ⟨m, zs⟩ := p
    rw [h] at hr
    simp only at hr
    have := rdNum_lt h
    split at hr
    · simp at hr
    · simp at hr; obtain ⟨rfl, rfl⟩ := hr; omega
set_option maxRecDepth 100000 in
set_option maxHeartbeats 2000000 in
theorem credGet_c {fr al : Nat → Prop} {w : World} {r : Nat} {xs : List UInt8} (st : Own fr al w [rdI r xs] w) (hl : xs.length ≤ 100000) :
    Calls Try.prog 124 #[.pointer (some ⟨r, 0, none⟩)] w (RdC fr al w r (rdCred xs) fun s v M => v = cV s ∧ M = []) := by
  go_enter Try.func124, Try.ntmps124
  go_wp2_with ((((with_reducible refine wl_alloc ?_ (fun K hK => ?_)); rfl; refine owp_alloc (o := ⟨some 2, _, _, _, _, _⟩) rfl st ?_; apply Exists.intro; apply Exists.intro; refine ⟨?_, ?_⟩; (focus (first | (go_simp; done) | (go_simp; rfl))); (clear st; intro b2 w hb st; clear hb))); (try simp only [nsl, Value.cells, unB] at st); (try clear hc); have hc := st.facts; (try simp only [nfl, nft, Nat.reduceAdd] at hc))
  obtain ⟨fr', al', st', back⟩ := st.sub [0] (by decide) (by simp)
  (try simp only [nsl, Value.cells, unB] at st')
  refine (number_c st' 9223372036854775807).mono ?_
  clear st'
  intro en w hen
  unfold RdC at hen
  cases hr : rdNumber 9223372036854775807 xs with
  | error e =>
    rw [hr] at hen
    obtain ⟨rfl, st'⟩ := hen
    replace st := back _ _ (by simp) st'
    clear back st'
    (try simp only [nsl, Value.cells, unB] at st)
    (try clear hc); have hc := st.facts; (try simp only [nfl, nft, Nat.reduceAdd] at hc)
    have H1 : Hid (rdCred xs = .error e) := Lib.hid (by simp [rdCred,  hr, bd])
    clear hr
    go_wp2_with fail
    refine ⟨rfl, ?_⟩
    unfold RdC
    rw [H1.out]
    have st' := st.keep [0] (by decide) (by simp)
    exact ⟨rfl, by simpa [pick] using st'⟩
  | ok p =>
    obtain ⟨n, ys⟩ := p
    rw [hr] at hen
    obtain ⟨v, M, rfl, ⟨rfl, rfl⟩, st'⟩ := hen
    replace st := back _ _ (by simp) st'
    clear back st'
    (try simp only [nsl, Value.cells, unB] at st)
    (try clear hc); have hc := st.facts; (try simp only [nfl, nft, Nat.reduceAdd] at hc)
    have hl0 := rdNumber_le hr
    have HR0 := Lib.hid hr
    clear hr
    match n, HR0 with
    | 0, HR0 =>
      have H1 : Hid (rdCred xs = .error 11) := Lib.hid (by simp [rdCred, HR0.out, bd])
      go_wp2_with ((first
            | ((with_reducible refine wl_alloc ?_ (fun K hK => ?_)); rfl; refine owp_alloc (o := ⟨some 3, _, _, _, _, _⟩) rfl st ?_; apply Exists.intro; apply Exists.intro; refine ⟨?_, ?_⟩; (focus (first | (go_simp; done) | (go_simp; rfl))); (clear st; intro b3 w hb st; clear hb))
            | ((with_reducible refine wl_store ?_ (fun K hK => ?_)); rfl; refine owp_store rfl st ?_; apply Exists.intro; apply Exists.intro; refine ⟨?_, ?_, ?_⟩; (focus (go_simp; try rfl)); (focus (go_simp; try rfl)); (with_reducible refine ⟨2, _, _, _, _, get2, rfl, rfl, ?_, ?_, ?_, ?_⟩); (kernel_rfl); (simp [Value.cells]); (rfl); (clear st; intro w st))); (try simp only [nsl, Value.cells, unB] at st); (try clear hc); have hc := st.facts; (try simp only [nfl, nft, Nat.reduceAdd] at hc))
      obtain ⟨_, sq, ⟨_, hrd⟩, _⟩ := st.get (i := 0) (I := rdI r ys) get0
      have HRD := Lib.hid hrd.any
      clear hrd
      go_wp2_with fail
      refine (fail_any _ r 11 HRD.out (by decide)).mono ?_
      rintro en w' ⟨rfl, rfl⟩
      go_wp2_with fail
      refine ⟨rfl, ?_⟩
      unfold RdC
      rw [H1.out]
      have st' := (st.rdAny (i := 0) get0).keep [0] (by decide) (by simp)
      exact ⟨rfl, by simpa [pick] using st'⟩
    | 1, HR0 =>
      go_wp2_with ((first
            | ((with_reducible refine wl_alloc ?_ (fun K hK => ?_)); rfl; refine owp_alloc (o := ⟨some 3, _, _, _, _, _⟩) rfl st ?_; apply Exists.intro; apply Exists.intro; refine ⟨?_, ?_⟩; (focus (first | (go_simp; done) | (go_simp; rfl))); (clear st; intro b3 w hb st; clear hb))
            | ((with_reducible refine wl_store ?_ (fun K hK => ?_)); rfl; refine owp_store rfl st ?_; apply Exists.intro; apply Exists.intro; refine ⟨?_, ?_, ?_⟩; (focus (go_simp; try rfl)); (focus (go_simp; try rfl)); (with_reducible refine ⟨2, _, _, _, _, get2, rfl, rfl, ?_, ?_, ?_, ?_⟩); (kernel_rfl); (simp [Value.cells]); (rfl); (clear st; intro w st))); (try simp only [nsl, Value.cells, unB] at st); (try clear hc); have hc := st.facts; (try simp only [nfl, nft, Nat.reduceAdd] at hc))
      obtain ⟨fr', al', st', back⟩ := st.sub [0] (by decide) (by simp)
      (try simp only [nsl, Value.cells, unB] at st')
      refine (roleGet_c st' (by omega)).mono ?_
      clear st'
      intro en w hen
      unfold RdC at hen
      cases hr : rdRole ys with
      | error e =>
        rw [hr] at hen
        obtain ⟨rfl, st'⟩ := hen
        replace st := back _ _ (by simp) st'
        clear back st'
        (try simp only [nsl, Value.cells, unB] at st)
        (try clear hc); have hc := st.facts; (try simp only [nfl, nft, Nat.reduceAdd] at hc)
        have H1 : Hid (rdCred xs = .error e) := Lib.hid (by simp [rdCred, HR0.out, hr, bd])
        clear hr
        go_wp2_with fail
        refine ⟨rfl, ?_⟩
        unfold RdC
        rw [H1.out]
        have st' := st.keep [0] (by decide) (by simp)
        exact ⟨rfl, by simpa [pick] using st'⟩
      | ok p =>
        obtain ⟨⟨ho, hd⟩, zs⟩ := p
        rw [hr] at hen
        obtain ⟨v, M, rfl, ⟨rfl, rfl⟩, st'⟩ := hen
        replace st := back _ _ (by simp) st'
        clear back st'
        (try simp only [nsl, Value.cells, unB] at st)
        (try clear hc); have hc := st.facts; (try simp only [nfl, nft, Nat.reduceAdd] at hc)
        have hl1 := rdRole_le hr
        have hl1b := roleR_len hl1.2
        have HR1 := Lib.hid hr
        clear hr
        simp only at hl1b
        unfold rV S
        go_wp2_with ((((with_reducible refine wl_store ?_ (fun K hK => ?_)); rfl; refine owp_store rfl st ?_; apply Exists.intro; apply Exists.intro; refine ⟨?_, ?_, ?_⟩; (focus (go_simp; try rfl)); (focus (go_simp; try rfl)); (with_reducible refine ⟨2, _, _, _, _, get2, rfl, rfl, ?_, ?_, ?_, ?_⟩); (kernel_rfl); (simp [Value.cells]); (rfl); (clear st; intro w st))); (try simp only [nsl, Value.cells, unB] at st); (try clear hc); have hc := st.facts; (try simp only [nfl, nft, Nat.reduceAdd] at hc))
        obtain ⟨fr', al', st', back⟩ := st.sub [0] (by decide) (by simp)
        (try simp only [nsl, Value.cells, unB] at st')
        refine (nameGet_c st' (by omega)).mono ?_
        clear st'
        intro en w hen
        unfold RdC at hen
        cases hr : rdName zs with
        | error e =>
          rw [hr] at hen
          obtain ⟨rfl, st'⟩ := hen
          replace st := back _ _ (by simp) st'
          clear back st'
          (try simp only [nsl, Value.cells, unB] at st)
          (try clear hc); have hc := st.facts; (try simp only [nfl, nft, Nat.reduceAdd] at hc)
          have H1 : Hid (rdCred xs = .error e) := Lib.hid (by simp [rdCred, HR0.out, HR1.out, hr, bd])
          clear hr
          go_wp2_with fail
          refine ⟨rfl, ?_⟩
          unfold RdC
          rw [H1.out]
          have st' := st.keep [0] (by decide) (by simp)
          exact ⟨rfl, by simpa [pick] using st'⟩
        | ok p =>
          obtain ⟨nw, us⟩ := p
          rw [hr] at hen
          obtain ⟨v, M, rfl, ⟨rfl, rfl⟩, st'⟩ := hen
          replace st := back _ _ (by simp) st'
          clear back st'
          (try simp only [nsl, Value.cells, unB] at st)
          (try clear hc); have hc := st.facts; (try simp only [nfl, nft, Nat.reduceAdd] at hc)
          have hl2 := rdName_le hr
          have hl2b := (nameR_len hl2.2).2
          have HR2 := Lib.hid hr
          clear hr
          unfold S
          have HQ := Lib.hid (fun W => credRight_any ⟨1, (ho, hd), nw, ([], []), ([], []), []⟩ W (by simp only [List.length_nil]; omega))
          unfold cV S at HQ
          simp only [nR] at HQ
          go_wp2_with ((((with_reducible refine wl_store ?_ (fun K hK => ?_)); rfl; refine owp_store rfl st ?_; apply Exists.intro; apply Exists.intro; refine ⟨?_, ?_, ?_⟩; (focus (go_simp; try rfl)); (focus (go_simp; try rfl)); (with_reducible refine ⟨2, _, _, _, _, get2, rfl, rfl, ?_, ?_, ?_, ?_⟩); (kernel_rfl); (simp [Value.cells]); (rfl); (clear st; intro w st))); (try simp only [nsl, Value.cells, unB] at st); (try clear hc); have hc := st.facts; (try simp only [nfl, nft, Nat.reduceAdd] at hc))
          refine (HQ.out _).mono ?_
          rintro en w ⟨rfl, hx⟩
          replace st := st.ext hx
          clear hx
          (try clear hc); have hc := st.facts; (try simp only [nfl, nft, Nat.reduceAdd] at hc)
          cases hcr : credR ⟨1, (ho, hd), nw, ([], []), ([], []), []⟩ with
          | true =>
            have H1 : Hid (rdCred xs = .ok (⟨1, (ho, hd), nw, ([], []), ([], []), []⟩, us)) := Lib.hid (by simp [rdCred, HR0.out, HR1.out, HR2.out, bd, okCr, nR, hcr])
            clear hcr HQ
            go_wp2_with ((((with_reducible refine wl_store ?_ (fun K hK => ?_)); rfl; refine owp_store rfl st ?_; apply Exists.intro; apply Exists.intro; refine ⟨?_, ?_, ?_⟩; (focus (go_simp; try rfl)); (focus (go_simp; try rfl)); (with_reducible refine ⟨1, _, _, _, _, get1, rfl, rfl, ?_, ?_, ?_, ?_⟩); (kernel_rfl); (simp [Value.cells]); (rfl); (clear st; intro w st))); (try simp only [nsl, Value.cells, unB] at st); (try clear hc); have hc := st.facts; (try simp only [nfl, nft, Nat.reduceAdd] at hc))
            (try simp only [Exit.inBlock, Exit.then])
            refine bodyPost_cell rfl rfl (st.blk (i := 1) get1) Try.underlying32 rfl (by kernel_rfl) rfl ?_
            unfold RdC
            rw [H1.out]
            have st' := st.keep [0] (by decide) (by simp)
            exact ⟨_, [], rfl, ⟨rfl, rfl⟩, by simpa [pick] using st'⟩
          | false =>
            have H1 : Hid (rdCred xs = .error 11) := Lib.hid (by simp [rdCred, HR0.out, HR1.out, HR2.out, bd, okCr, nR, hcr])
            clear hcr HQ
            obtain ⟨_, sq, ⟨_, hrd⟩, _⟩ := st.get (i := 0) (I := rdI r us) get0
            have HRD := Lib.hid hrd.any
            clear hrd
            go_wp2_with fail
            refine (fail_any _ r 11 HRD.out (by decide)).mono ?_
            rintro en w' ⟨rfl, rfl⟩
            go_wp2_with fail
            refine ⟨rfl, ?_⟩
            unfold RdC
            rw [H1.out]
            have st' := (st.rdAny (i := 0) get0).keep [0] (by decide) (by simp)
            exact ⟨rfl, by simpa [pick] using st'⟩
    | 2, HR0 =>
      go_wp2_with ((first
            | ((with_reducible refine wl_alloc ?_ (fun K hK => ?_)); rfl; refine owp_alloc (o := ⟨some 3, _, _, _, _, _⟩) rfl st ?_; apply Exists.intro; apply Exists.intro; refine ⟨?_, ?_⟩; (focus (first | (go_simp; done) | (go_simp; rfl))); (clear st; intro b3 w hb st; clear hb))
            | ((with_reducible refine wl_store ?_ (fun K hK => ?_)); rfl; refine owp_store rfl st ?_; apply Exists.intro; apply Exists.intro; refine ⟨?_, ?_, ?_⟩; (focus (go_simp; try rfl)); (focus (go_simp; try rfl)); (with_reducible refine ⟨2, _, _, _, _, get2, rfl, rfl, ?_, ?_, ?_, ?_⟩); (kernel_rfl); (simp [Value.cells]); (rfl); (clear st; intro w st))); (try simp only [nsl, Value.cells, unB] at st); (try clear hc); have hc := st.facts; (try simp only [nfl, nft, Nat.reduceAdd] at hc))
      obtain ⟨fr', al', st', back⟩ := st.sub [0] (by decide) (by simp)
      (try simp only [nsl, Value.cells, unB] at st')
      refine (roleGet_c st' (by omega)).mono ?_
      clear st'
      intro en w hen
      unfold RdC at hen
      cases hr : rdRole ys with
      | error e =>
        rw [hr] at hen
        obtain ⟨rfl, st'⟩ := hen
        replace st := back _ _ (by simp) st'
        clear back st'
        (try simp only [nsl, Value.cells, unB] at st)
        (try clear hc); have hc := st.facts; (try simp only [nfl, nft, Nat.reduceAdd] at hc)
        have H1 : Hid (rdCred xs = .error e) := Lib.hid (by simp [rdCred, HR0.out, hr, bd])
        clear hr
        go_wp2_with fail
        refine ⟨rfl, ?_⟩
        unfold RdC
        rw [H1.out]
        have st' := st.keep [0] (by decide) (by simp)
        exact ⟨rfl, by simpa [pick] using st'⟩
      | ok p =>
        obtain ⟨⟨ho, hd⟩, zs⟩ := p
        rw [hr] at hen
        obtain ⟨v, M, rfl, ⟨rfl, rfl⟩, st'⟩ := hen
        replace st := back _ _ (by simp) st'
        clear back st'
        (try simp only [nsl, Value.cells, unB] at st)
        (try clear hc); have hc := st.facts; (try simp only [nfl, nft, Nat.reduceAdd] at hc)
        have hl1 := rdRole_le hr
        have hl1b := roleR_len hl1.2
        have HR1 := Lib.hid hr
        clear hr
        simp only at hl1b
        unfold rV S
        go_wp2_with ((((with_reducible refine wl_store ?_ (fun K hK => ?_)); rfl; refine owp_store rfl st ?_; apply Exists.intro; apply Exists.intro; refine ⟨?_, ?_, ?_⟩; (focus (go_simp; try rfl)); (focus (go_simp; try rfl)); (with_reducible refine ⟨2, _, _, _, _, get2, rfl, rfl, ?_, ?_, ?_, ?_⟩); (kernel_rfl); (simp [Value.cells]); (rfl); (clear st; intro w st))); (try simp only [nsl, Value.cells, unB] at st); (try clear hc); have hc := st.facts; (try simp only [nfl, nft, Nat.reduceAdd] at hc))
        obtain ⟨fr', al', st', back⟩ := st.sub [0] (by decide) (by simp)
        (try simp only [nsl, Value.cells, unB] at st')
        refine (roleGet_c st' (by omega)).mono ?_
        clear st'
        intro en w hen
        unfold RdC at hen
        cases hr : rdRole zs with
        | error e =>
          rw [hr] at hen
          obtain ⟨rfl, st'⟩ := hen
          replace st := back _ _ (by simp) st'
          clear back st'
          (try simp only [nsl, Value.cells, unB] at st)
          (try clear hc); have hc := st.facts; (try simp only [nfl, nft, Nat.reduceAdd] at hc)
          have H1 : Hid (rdCred xs = .error e) := Lib.hid (by simp [rdCred, HR0.out, HR1.out, hr, bd])
          clear hr
          go_wp2_with fail
          refine ⟨rfl, ?_⟩
          unfold RdC
          rw [H1.out]
          have st' := st.keep [0] (by decide) (by simp)
          exact ⟨rfl, by simpa [pick] using st'⟩
        | ok p =>
          obtain ⟨⟨bo, bd'⟩, us⟩ := p
          rw [hr] at hen
          obtain ⟨v, M, rfl, ⟨rfl, rfl⟩, st'⟩ := hen
          replace st := back _ _ (by simp) st'
          clear back st'
          (try simp only [nsl, Value.cells, unB] at st)
          (try clear hc); have hc := st.facts; (try simp only [nfl, nft, Nat.reduceAdd] at hc)
          have hl2 := rdRole_le hr
          have hl2b := roleR_len hl2.2
          have HR2 := Lib.hid hr
          clear hr
          simp only at hl2b
          unfold rV S
          have HQ := Lib.hid (fun W => credRight_any ⟨2, (ho, hd), [], (bo, bd'), ([], []), []⟩ W (by simp only [List.length_nil]; omega))
          unfold cV S at HQ
          simp only [nR] at HQ
          go_wp2_with ((((with_reducible refine wl_store ?_ (fun K hK => ?_)); rfl; refine owp_store rfl st ?_; apply Exists.intro; apply Exists.intro; refine ⟨?_, ?_, ?_⟩; (focus (go_simp; try rfl)); (focus (go_simp; try rfl)); (with_reducible refine ⟨2, _, _, _, _, get2, rfl, rfl, ?_, ?_, ?_, ?_⟩); (kernel_rfl); (simp [Value.cells]); (rfl); (clear st; intro w st))); (try simp only [nsl, Value.cells, unB] at st); (try clear hc); have hc := st.facts; (try simp only [nfl, nft, Nat.reduceAdd] at hc))
          refine (HQ.out _).mono ?_
          rintro en w ⟨rfl, hx⟩
          replace st := st.ext hx
          clear hx
          (try clear hc); have hc := st.facts; (try simp only [nfl, nft, Nat.reduceAdd] at hc)
          cases hcr : credR ⟨2, (ho, hd), [], (bo, bd'), ([], []), []⟩ with
          | true =>
            have H1 : Hid (rdCred xs = .ok (⟨2, (ho, hd), [], (bo, bd'), ([], []), []⟩, us)) := Lib.hid (by simp [rdCred, HR0.out, HR1.out, HR2.out, bd, okCr, nR, hcr])
            clear hcr HQ
            go_wp2_with ((((with_reducible refine wl_store ?_ (fun K hK => ?_)); rfl; refine owp_store rfl st ?_; apply Exists.intro; apply Exists.intro; refine ⟨?_, ?_, ?_⟩; (focus (go_simp; try rfl)); (focus (go_simp; try rfl)); (with_reducible refine ⟨1, _, _, _, _, get1, rfl, rfl, ?_, ?_, ?_, ?_⟩); (kernel_rfl); (simp [Value.cells]); (rfl); (clear st; intro w st))); (try simp only [nsl, Value.cells, unB] at st); (try clear hc); have hc := st.facts; (try simp only [nfl, nft, Nat.reduceAdd] at hc))
            (try simp only [Exit.inBlock, Exit.then])
            refine bodyPost_cell rfl rfl (st.blk (i := 1) get1) Try.underlying32 rfl (by kernel_rfl) rfl ?_
            unfold RdC
            rw [H1.out]
            have st' := st.keep [0] (by decide) (by simp)
            exact ⟨_, [], rfl, ⟨rfl, rfl⟩, by simpa [pick] using st'⟩
          | false =>
            have H1 : Hid (rdCred xs = .error 11) := Lib.hid (by simp [rdCred, HR0.out, HR1.out, HR2.out, bd, okCr, nR, hcr])
            clear hcr HQ
            obtain ⟨_, sq, ⟨_, hrd⟩, _⟩ := st.get (i := 0) (I := rdI r us) get0
            have HRD := Lib.hid hrd.any
            clear hrd
            go_wp2_with fail
            refine (fail_any _ r 11 HRD.out (by decide)).mono ?_
            rintro en w' ⟨rfl, rfl⟩
            go_wp2_with fail
            refine ⟨rfl, ?_⟩
            unfold RdC
            rw [H1.out]
            have st' := (st.rdAny (i := 0) get0).keep [0] (by decide) (by simp)
            exact ⟨rfl, by simpa [pick] using st'⟩
    | 3, HR0 =>
      go_wp2_with ((first
            | ((with_reducible refine wl_alloc ?_ (fun K hK => ?_)); rfl; refine owp_alloc (o := ⟨some 3, _, _, _, _, _⟩) rfl st ?_; apply Exists.intro; apply Exists.intro; refine ⟨?_, ?_⟩; (focus (first | (go_simp; done) | (go_simp; rfl))); (clear st; intro b3 w hb st; clear hb))
            | ((with_reducible refine wl_store ?_ (fun K hK => ?_)); rfl; refine owp_store rfl st ?_; apply Exists.intro; apply Exists.intro; refine ⟨?_, ?_, ?_⟩; (focus (go_simp; try rfl)); (focus (go_simp; try rfl)); (with_reducible refine ⟨2, _, _, _, _, get2, rfl, rfl, ?_, ?_, ?_, ?_⟩); (kernel_rfl); (simp [Value.cells]); (rfl); (clear st; intro w st))); (try simp only [nsl, Value.cells, unB] at st); (try clear hc); have hc := st.facts; (try simp only [nfl, nft, Nat.reduceAdd] at hc))
      obtain ⟨fr', al', st', back⟩ := st.sub [0] (by decide) (by simp)
      (try simp only [nsl, Value.cells, unB] at st')
      refine (roleGet_c st' (by omega)).mono ?_
      clear st'
      intro en w hen
      unfold RdC at hen
      cases hr : rdRole ys with
      | error e =>
        rw [hr] at hen
        obtain ⟨rfl, st'⟩ := hen
        replace st := back _ _ (by simp) st'
        clear back st'
        (try simp only [nsl, Value.cells, unB] at st)
        (try clear hc); have hc := st.facts; (try simp only [nfl, nft, Nat.reduceAdd] at hc)
        have H1 : Hid (rdCred xs = .error e) := Lib.hid (by simp [rdCred, HR0.out, hr, bd])
        clear hr
        go_wp2_with fail
        refine ⟨rfl, ?_⟩
        unfold RdC
        rw [H1.out]
        have st' := st.keep [0] (by decide) (by simp)
        exact ⟨rfl, by simpa [pick] using st'⟩
      | ok p =>
        obtain ⟨⟨ho, hd⟩, zs⟩ := p
        rw [hr] at hen
        obtain ⟨v, M, rfl, ⟨rfl, rfl⟩, st'⟩ := hen
        replace st := back _ _ (by simp) st'
        clear back st'
        (try simp only [nsl, Value.cells, unB] at st)
        (try clear hc); have hc := st.facts; (try simp only [nfl, nft, Nat.reduceAdd] at hc)
        have hl1 := rdRole_le hr
        have hl1b := roleR_len hl1.2
        have HR1 := Lib.hid hr
        clear hr
        simp only at hl1b
        unfold rV S
        go_wp2_with ((((with_reducible refine wl_store ?_ (fun K hK => ?_)); rfl; refine owp_store rfl st ?_; apply Exists.intro; apply Exists.intro; refine ⟨?_, ?_, ?_⟩; (focus (go_simp; try rfl)); (focus (go_simp; try rfl)); (with_reducible refine ⟨2, _, _, _, _, get2, rfl, rfl, ?_, ?_, ?_, ?_⟩); (kernel_rfl); (simp [Value.cells]); (rfl); (clear st; intro w st))); (try simp only [nsl, Value.cells, unB] at st); (try clear hc); have hc := st.facts; (try simp only [nfl, nft, Nat.reduceAdd] at hc))
        obtain ⟨fr', al', st', back⟩ := st.sub [0] (by decide) (by simp)
        (try simp only [nsl, Value.cells, unB] at st')
        refine (roleGet_c st' (by omega)).mono ?_
        clear st'
        intro en w hen
        unfold RdC at hen
        cases hr : rdRole zs with
        | error e =>
          rw [hr] at hen
          obtain ⟨rfl, st'⟩ := hen
          replace st := back _ _ (by simp) st'
          clear back st'
          (try simp only [nsl, Value.cells, unB] at st)
          (try clear hc); have hc := st.facts; (try simp only [nfl, nft, Nat.reduceAdd] at hc)
          have H1 : Hid (rdCred xs = .error e) := Lib.hid (by simp [rdCred, HR0.out, HR1.out, hr, bd])
          clear hr
          go_wp2_with fail
          refine ⟨rfl, ?_⟩
          unfold RdC
          rw [H1.out]
          have st' := st.keep [0] (by decide) (by simp)
          exact ⟨rfl, by simpa [pick] using st'⟩
        | ok p =>
          obtain ⟨⟨bo, bd'⟩, us⟩ := p
          rw [hr] at hen
          obtain ⟨v, M, rfl, ⟨rfl, rfl⟩, st'⟩ := hen
          replace st := back _ _ (by simp) st'
          clear back st'
          (try simp only [nsl, Value.cells, unB] at st)
          (try clear hc); have hc := st.facts; (try simp only [nfl, nft, Nat.reduceAdd] at hc)
          have hl2 := rdRole_le hr
          have hl2b := roleR_len hl2.2
          have HR2 := Lib.hid hr
          clear hr
          simp only at hl2b
          unfold rV S
          go_wp2_with ((((with_reducible refine wl_store ?_ (fun K hK => ?_)); rfl; refine owp_store rfl st ?_; apply Exists.intro; apply Exists.intro; refine ⟨?_, ?_, ?_⟩; (focus (go_simp; try rfl)); (focus (go_simp; try rfl)); (with_reducible refine ⟨2, _, _, _, _, get2, rfl, rfl, ?_, ?_, ?_, ?_⟩); (kernel_rfl); (simp [Value.cells]); (rfl); (clear st; intro w st))); (try simp only [nsl, Value.cells, unB] at st); (try clear hc); have hc := st.facts; (try simp only [nfl, nft, Nat.reduceAdd] at hc))
          obtain ⟨fr', al', st', back⟩ := st.sub [0] (by decide) (by simp)
          (try simp only [nsl, Value.cells, unB] at st')
          refine (nameGet_c st' (by omega)).mono ?_
          clear st'
          intro en w hen
          unfold RdC at hen
          cases hr : rdName us with
          | error e =>
            rw [hr] at hen
            obtain ⟨rfl, st'⟩ := hen
            replace st := back _ _ (by simp) st'
            clear back st'
            (try simp only [nsl, Value.cells, unB] at st)
            (try clear hc); have hc := st.facts; (try simp only [nfl, nft, Nat.reduceAdd] at hc)
            have H1 : Hid (rdCred xs = .error e) := Lib.hid (by simp [rdCred, HR0.out, HR1.out, HR2.out, hr, bd])
            clear hr
            go_wp2_with fail
            refine ⟨rfl, ?_⟩
            unfold RdC
            rw [H1.out]
            have st' := st.keep [0] (by decide) (by simp)
            exact ⟨rfl, by simpa [pick] using st'⟩
          | ok p =>
            obtain ⟨we, vs⟩ := p
            rw [hr] at hen
            obtain ⟨v, M, rfl, ⟨rfl, rfl⟩, st'⟩ := hen
            replace st := back _ _ (by simp) st'
            clear back st'
            (try simp only [nsl, Value.cells, unB] at st)
            (try clear hc); have hc := st.facts; (try simp only [nfl, nft, Nat.reduceAdd] at hc)
            have hl3 := rdName_le hr
            have hl3b := (nameR_len hl3.2).2
            have HR3 := Lib.hid hr
            clear hr
            unfold S
            have HQ := Lib.hid (fun W => credRight_any ⟨3, (ho, hd), [], (bo, bd'), ([], []), we⟩ W (by simp only [List.length_nil]; omega))
            unfold cV S at HQ
            simp only [nR] at HQ
            go_wp2_with ((((with_reducible refine wl_store ?_ (fun K hK => ?_)); rfl; refine owp_store rfl st ?_; apply Exists.intro; apply Exists.intro; refine ⟨?_, ?_, ?_⟩; (focus (go_simp; try rfl)); (focus (go_simp; try rfl)); (with_reducible refine ⟨2, _, _, _, _, get2, rfl, rfl, ?_, ?_, ?_, ?_⟩); (kernel_rfl); (simp [Value.cells]); (rfl); (clear st; intro w st))); (try simp only [nsl, Value.cells, unB] at st); (try clear hc); have hc := st.facts; (try simp only [nfl, nft, Nat.reduceAdd] at hc))
            refine (HQ.out _).mono ?_
            rintro en w ⟨rfl, hx⟩
            replace st := st.ext hx
            clear hx
            (try clear hc); have hc := st.facts; (try simp only [nfl, nft, Nat.reduceAdd] at hc)
            cases hcr : credR ⟨3, (ho, hd), [], (bo, bd'), ([], []), we⟩ with
            | true =>
              have H1 : Hid (rdCred xs = .ok (⟨3, (ho, hd), [], (bo, bd'), ([], []), we⟩, vs)) := Lib.hid (by simp [rdCred, HR0.out, HR1.out, HR2.out, HR3.out, bd, okCr, nR, hcr])
              clear hcr HQ
              go_wp2_with ((((with_reducible refine wl_store ?_ (fun K hK => ?_)); rfl; refine owp_store rfl st ?_; apply Exists.intro; apply Exists.intro; refine ⟨?_, ?_, ?_⟩; (focus (go_simp; try rfl)); (focus (go_simp; try rfl)); (with_reducible refine ⟨1, _, _, _, _, get1, rfl, rfl, ?_, ?_, ?_, ?_⟩); (kernel_rfl); (simp [Value.cells]); (rfl); (clear st; intro w st))); (try simp only [nsl, Value.cells, unB] at st); (try clear hc); have hc := st.facts; (try simp only [nfl, nft, Nat.reduceAdd] at hc))
              (try simp only [Exit.inBlock, Exit.then])
              refine bodyPost_cell rfl rfl (st.blk (i := 1) get1) Try.underlying32 rfl (by kernel_rfl) rfl ?_
              unfold RdC
              rw [H1.out]
              have st' := st.keep [0] (by decide) (by simp)
              exact ⟨_, [], rfl, ⟨rfl, rfl⟩, by simpa [pick] using st'⟩
            | false =>
              have H1 : Hid (rdCred xs = .error 11) := Lib.hid (by simp [rdCred, HR0.out, HR1.out, HR2.out, HR3.out, bd, okCr, nR, hcr])
              clear hcr HQ
              obtain ⟨_, sq, ⟨_, hrd⟩, _⟩ := st.get (i := 0) (I := rdI r vs) get0
              have HRD := Lib.hid hrd.any
              clear hrd
              go_wp2_with fail
              refine (fail_any _ r 11 HRD.out (by decide)).mono ?_
              rintro en w' ⟨rfl, rfl⟩
              go_wp2_with fail
              refine ⟨rfl, ?_⟩
              unfold RdC
              rw [H1.out]
              have st' := (st.rdAny (i := 0) get0).keep [0] (by decide) (by simp)
              exact ⟨rfl, by simpa [pick] using st'⟩
    | 4, HR0 =>
      go_wp2_with ((first
            | ((with_reducible refine wl_alloc ?_ (fun K hK => ?_)); rfl; refine owp_alloc (o := ⟨some 3, _, _, _, _, _⟩) rfl st ?_; apply Exists.intro; apply Exists.intro; refine ⟨?_, ?_⟩; (focus (first | (go_simp; done) | (go_simp; rfl))); (clear st; intro b3 w hb st; clear hb))
            | ((with_reducible refine wl_store ?_ (fun K hK => ?_)); rfl; refine owp_store rfl st ?_; apply Exists.intro; apply Exists.intro; refine ⟨?_, ?_, ?_⟩; (focus (go_simp; try rfl)); (focus (go_simp; try rfl)); (with_reducible refine ⟨2, _, _, _, _, get2, rfl, rfl, ?_, ?_, ?_, ?_⟩); (kernel_rfl); (simp [Value.cells]); (rfl); (clear st; intro w st))); (try simp only [nsl, Value.cells, unB] at st); (try clear hc); have hc := st.facts; (try simp only [nfl, nft, Nat.reduceAdd] at hc))
      obtain ⟨fr', al', st', back⟩ := st.sub [0] (by decide) (by simp)
      (try simp only [nsl, Value.cells, unB] at st')
      refine (roleGet_c st' (by omega)).mono ?_
      clear st'
      intro en w hen
      unfold RdC at hen
      cases hr : rdRole ys with
      | error e =>
        rw [hr] at hen
        obtain ⟨rfl, st'⟩ := hen
        replace st := back _ _ (by simp) st'
        clear back st'
        (try simp only [nsl, Value.cells, unB] at st)
        (try clear hc); have hc := st.facts; (try simp only [nfl, nft, Nat.reduceAdd] at hc)
        have H1 : Hid (rdCred xs = .error e) := Lib.hid (by simp [rdCred, HR0.out, hr, bd])
        clear hr
        go_wp2_with fail
        refine ⟨rfl, ?_⟩
        unfold RdC
        rw [H1.out]
        have st' := st.keep [0] (by decide) (by simp)
        exact ⟨rfl, by simpa [pick] using st'⟩
      | ok p =>
        obtain ⟨⟨ho, hd⟩, zs⟩ := p
        rw [hr] at hen
        obtain ⟨v, M, rfl, ⟨rfl, rfl⟩, st'⟩ := hen
        replace st := back _ _ (by simp) st'
        clear back st'
        (try simp only [nsl, Value.cells, unB] at st)
        (try clear hc); have hc := st.facts; (try simp only [nfl, nft, Nat.reduceAdd] at hc)
        have hl1 := rdRole_le hr
        have hl1b := roleR_len hl1.2
        have HR1 := Lib.hid hr
        clear hr
        simp only at hl1b
        unfold rV S
        go_wp2_with ((((with_reducible refine wl_store ?_ (fun K hK => ?_)); rfl; refine owp_store rfl st ?_; apply Exists.intro; apply Exists.intro; refine ⟨?_, ?_, ?_⟩; (focus (go_simp; try rfl)); (focus (go_simp; try rfl)); (with_reducible refine ⟨2, _, _, _, _, get2, rfl, rfl, ?_, ?_, ?_, ?_⟩); (kernel_rfl); (simp [Value.cells]); (rfl); (clear st; intro w st))); (try simp only [nsl, Value.cells, unB] at st); (try clear hc); have hc := st.facts; (try simp only [nfl, nft, Nat.reduceAdd] at hc))
        obtain ⟨fr', al', st', back⟩ := st.sub [0] (by decide) (by simp)
        (try simp only [nsl, Value.cells, unB] at st')
        refine (roleGet_c st' (by omega)).mono ?_
        clear st'
        intro en w hen
        unfold RdC at hen
        cases hr : rdRole zs with
        | error e =>
          rw [hr] at hen
          obtain ⟨rfl, st'⟩ := hen
          replace st := back _ _ (by simp) st'
          clear back st'
          (try simp only [nsl, Value.cells, unB] at st)
          (try clear hc); have hc := st.facts; (try simp only [nfl, nft, Nat.reduceAdd] at hc)
          have H1 : Hid (rdCred xs = .error e) := Lib.hid (by simp [rdCred, HR0.out, HR1.out, hr, bd])
          clear hr
          go_wp2_with fail
          refine ⟨rfl, ?_⟩
          unfold RdC
          rw [H1.out]
          have st' := st.keep [0] (by decide) (by simp)
          exact ⟨rfl, by simpa [pick] using st'⟩
        | ok p =>
          obtain ⟨⟨bo, bd'⟩, us⟩ := p
          rw [hr] at hen
          obtain ⟨v, M, rfl, ⟨rfl, rfl⟩, st'⟩ := hen
          replace st := back _ _ (by simp) st'
          clear back st'
          (try simp only [nsl, Value.cells, unB] at st)
          (try clear hc); have hc := st.facts; (try simp only [nfl, nft, Nat.reduceAdd] at hc)
          have hl2 := rdRole_le hr
          have hl2b := roleR_len hl2.2
          have HR2 := Lib.hid hr
          clear hr
          simp only at hl2b
          unfold rV S
          go_wp2_with ((((with_reducible refine wl_store ?_ (fun K hK => ?_)); rfl; refine owp_store rfl st ?_; apply Exists.intro; apply Exists.intro; refine ⟨?_, ?_, ?_⟩; (focus (go_simp; try rfl)); (focus (go_simp; try rfl)); (with_reducible refine ⟨2, _, _, _, _, get2, rfl, rfl, ?_, ?_, ?_, ?_⟩); (kernel_rfl); (simp [Value.cells]); (rfl); (clear st; intro w st))); (try simp only [nsl, Value.cells, unB] at st); (try clear hc); have hc := st.facts; (try simp only [nfl, nft, Nat.reduceAdd] at hc))
          obtain ⟨fr', al', st', back⟩ := st.sub [0] (by decide) (by simp)
          (try simp only [nsl, Value.cells, unB] at st')
          refine (roleGet_c st' (by omega)).mono ?_
          clear st'
          intro en w hen
          unfold RdC at hen
          cases hr : rdRole us with
          | error e =>
            rw [hr] at hen
            obtain ⟨rfl, st'⟩ := hen
            replace st := back _ _ (by simp) st'
            clear back st'
            (try simp only [nsl, Value.cells, unB] at st)
            (try clear hc); have hc := st.facts; (try simp only [nfl, nft, Nat.reduceAdd] at hc)
            have H1 : Hid (rdCred xs = .error e) := Lib.hid (by simp [rdCred, HR0.out, HR1.out, HR2.out, hr, bd])
            clear hr
            go_wp2_with fail
            refine ⟨rfl, ?_⟩
            unfold RdC
            rw [H1.out]
            have st' := st.keep [0] (by decide) (by simp)
            exact ⟨rfl, by simpa [pick] using st'⟩
          | ok p =>
            obtain ⟨⟨co, cd⟩, vs⟩ := p
            rw [hr] at hen
            obtain ⟨v, M, rfl, ⟨rfl, rfl⟩, st'⟩ := hen
            replace st := back _ _ (by simp) st'
            clear back st'
            (try simp only [nsl, Value.cells, unB] at st)
            (try clear hc); have hc := st.facts; (try simp only [nfl, nft, Nat.reduceAdd] at hc)
            have hl3 := rdRole_le hr
            have hl3b := roleR_len hl3.2
            have HR3 := Lib.hid hr
            clear hr
            simp only at hl3b
            unfold rV S
            have HQ := Lib.hid (fun W => credRight_any ⟨4, (ho, hd), [], (bo, bd'), (co, cd), []⟩ W (by simp only [List.length_nil]; omega))
            unfold cV S at HQ
            simp only [nR] at HQ
            go_wp2_with ((((with_reducible refine wl_store ?_ (fun K hK => ?_)); rfl; refine owp_store rfl st ?_; apply Exists.intro; apply Exists.intro; refine ⟨?_, ?_, ?_⟩; (focus (go_simp; try rfl)); (focus (go_simp; try rfl)); (with_reducible refine ⟨2, _, _, _, _, get2, rfl, rfl, ?_, ?_, ?_, ?_⟩); (kernel_rfl); (simp [Value.cells]); (rfl); (clear st; intro w st))); (try simp only [nsl, Value.cells, unB] at st); (try clear hc); have hc := st.facts; (try simp only [nfl, nft, Nat.reduceAdd] at hc))
            refine (HQ.out _).mono ?_
            rintro en w ⟨rfl, hx⟩
            replace st := st.ext hx
            clear hx
            (try clear hc); have hc := st.facts; (try simp only [nfl, nft, Nat.reduceAdd] at hc)
            cases hcr : credR ⟨4, (ho, hd), [], (bo, bd'), (co, cd), []⟩ with
            | true =>
              have H1 : Hid (rdCred xs = .ok (⟨4, (ho, hd), [], (bo, bd'), (co, cd), []⟩, vs)) := Lib.hid (by simp [rdCred, HR0.out, HR1.out, HR2.out, HR3.out, bd, okCr, nR, hcr])
              clear hcr HQ
              go_wp2_with ((((with_reducible refine wl_store ?_ (fun K hK => ?_)); rfl; refine owp_store rfl st ?_; apply Exists.intro; apply Exists.intro; refine ⟨?_, ?_, ?_⟩; (focus (go_simp; try rfl)); (focus (go_simp; try rfl)); (with_reducible refine ⟨1, _, _, _, _, get1, rfl, rfl, ?_, ?_, ?_, ?_⟩); (kernel_rfl); (simp [Value.cells]); (rfl); (clear st; intro w st))); (try simp only [nsl, Value.cells, unB] at st); (try clear hc); have hc := st.facts; (try simp only [nfl, nft, Nat.reduceAdd] at hc))
              (try simp only [Exit.inBlock, Exit.then])
              refine bodyPost_cell rfl rfl (st.blk (i := 1) get1) Try.underlying32 rfl (by kernel_rfl) rfl ?_
              unfold RdC
              rw [H1.out]
              have st' := st.keep [0] (by decide) (by simp)
              exact ⟨_, [], rfl, ⟨rfl, rfl⟩, by simpa [pick] using st'⟩
            | false =>
              have H1 : Hid (rdCred xs = .error 11) := Lib.hid (by simp [rdCred, HR0.out, HR1.out, HR2.out, HR3.out, bd, okCr, nR, hcr])
              clear hcr HQ
              obtain ⟨_, sq, ⟨_, hrd⟩, _⟩ := st.get (i := 0) (I := rdI r vs) get0
              have HRD := Lib.hid hrd.any
              clear hrd
              go_wp2_with fail
              refine (fail_any _ r 11 HRD.out (by decide)).mono ?_
              rintro en w' ⟨rfl, rfl⟩
              go_wp2_with fail
              refine ⟨rfl, ?_⟩
              unfold RdC
              rw [H1.out]
              have st' := (st.rdAny (i := 0) get0).keep [0] (by decide) (by simp)
              exact ⟨rfl, by simpa [pick] using st'⟩
    | n + 5, HR0 =>
      have H1 : Hid (rdCred xs = .error 11) := Lib.hid (by simp [rdCred, HR0.out, bd])
      go_wp2_with ((first
            | ((with_reducible refine wl_alloc ?_ (fun K hK => ?_)); rfl; refine owp_alloc (o := ⟨some 3, _, _, _, _, _⟩) rfl st ?_; apply Exists.intro; apply Exists.intro; refine ⟨?_, ?_⟩; (focus (first | (go_simp; done) | (go_simp; rfl))); (clear st; intro b3 w hb st; clear hb))
            | ((with_reducible refine wl_store ?_ (fun K hK => ?_)); rfl; refine owp_store rfl st ?_; apply Exists.intro; apply Exists.intro; refine ⟨?_, ?_, ?_⟩; (focus (go_simp; try rfl)); (focus (go_simp; try rfl)); (with_reducible refine ⟨2, _, _, _, _, get2, rfl, rfl, ?_, ?_, ?_, ?_⟩); (kernel_rfl); (simp [Value.cells]); (rfl); (clear st; intro w st))); (try simp only [nsl, Value.cells, unB] at st); (try clear hc); have hc := st.facts; (try simp only [nfl, nft, Nat.reduceAdd] at hc))
      obtain ⟨_, sq, ⟨_, hrd⟩, _⟩ := st.get (i := 0) (I := rdI r ys) get0
      have HRD := Lib.hid hrd.any
      clear hrd
      go_wp2_with fail
      refine (fail_any _ r 11 HRD.out (by decide)).mono ?_
      rintro en w' ⟨rfl, rfl⟩
      go_wp2_with fail
      refine ⟨rfl, ?_⟩
      unfold RdC
      rw [H1.out]
      have st' := (st.rdAny (i := 0) get0).keep [0] (by decide) (by simp)
      exact ⟨rfl, by simpa [pick] using st'⟩
end Go.Proofs.Ytekngjkjgmplpaa

namespace Go.Proofs.Ytekngjkjgmplpaa
set_option linter.unusedSimpArgs false
set_option linter.unusedVariables false
open Go Go.RowKit
/-- How great credentials are. -/
def wtC (x : CredT) : Nat := 20 + x.h.1.length + x.h.2.length + x.w.length + x.b.1.length + x.b.2.length + x.c.1.length + x.c.2.length + x.e.length
def weightC (l : List CredT) : Nat := (l.map wtC).sum
theorem weightC_snoc (l : List CredT) (x : CredT) : weightC (l ++ [x]) = weightC l + wtC x := by simp [weightC]
theorem weightC_cons (l : List CredT) (x : CredT) : weightC (x :: l) = wtC x + weightC l := by simp [weightC]
theorem weightC_take : ∀ (l : List CredT) (j : Nat), weightC (l.take j) ≤ weightC l
  | [], j => by simp [weightC]
  | x :: l, 0 => by simp [weightC]
  | x :: l, j + 1 => by have := weightC_take l j; rw [List.take_succ_cons, weightC_cons, weightC_cons]; omega
theorem weightC_len : ∀ (l : List CredT), 20 * l.length ≤ weightC l
  | [] => by simp [weightC]
  | x :: l => by have := weightC_len l; rw [weightC_cons, List.length_cons]; unfold wtC; omega
theorem weightC_mem : ∀ (l : List CredT) (x : CredT), x ∈ l → wtC x ≤ weightC l
  | [], x, h => by simp at h
  | y :: l, x, h => by
    rw [weightC_cons]
    rcases List.mem_cons.1 h with e | e
    · subst e; omega
    · have := weightC_mem l x e; omega
theorem wtC_L {x : CredT} (h : wtC x ≤ 100000) : CredL 100000 x := by unfold wtC at h; unfold CredL; omega
set_option maxRecDepth 100000 in
set_option maxHeartbeats 1000000 in
theorem credGreat_any (a : Option Addr) (n c : Nat) (l : List CredT) (W : World) (h : Fl W a n l) (hw : weightC l ≤ 2000000000) :
    Calls Try.prog 35 #[.slice a n c] W fun e w' => e = .returned (.int .i64 (weightC l : Int)) ∧ Ext W w' := by
  have hnw : n ≤ 2000000000 := by have := weightC_len l; have := h.1; omega
  have H := Lib.hid h
  have HN := Lib.hid (And.intro h.1 hw)
  have st := Own.startOld W
  clear h hw
  (try simp only [nsl, Value.cells, unB] at st)
  (try clear hc); have hc := st.facts; (try simp only [nfl, nft, Nat.reduceAdd] at hc)
  go_enter Try.func35, Try.ntmps35
  go_wp2_with fail
  go_loopg [3, 8] n (fun k v i wr => ∃ (j q : Nat), j ≤ n ∧ k = n - j ∧ q ≤ 2000000000 ∧ Hid (q = weightC (l.take j)) ∧ i = .int .i64 (j : Int) ∧ v = .int .i64 (q : Int) ∧ Own (fun _ => False) (fun _ => True) W [oldI W] wr)
  case atStart => exact ⟨0, 0, by omega, by omega, by omega, Lib.hid (by simp [weightC]), rfl, rfl, st⟩
  case round =>
    obtain ⟨j, q, hj, rfl, hq, HQ, rfl, rfl, st'⟩ := hrel
    clear st hc
    have st := st'
    clear st'
    (try simp only [nsl, Value.cells, unB] at st)
    (try clear hc); have hc := st.facts; (try simp only [nfl, nft, Nat.reduceAdd] at hc)
    by_cases hjn : j < n
    · obtain ⟨b, off, ha, hcell⟩ := H.out.cred (by omega)
      have hjl : j < l.length := by have := HN.out.1; omega
      have hcc := hcell j l[j] (List.getElem?_eq_getElem hjl)
      obtain ⟨r0, r1, r2, r3, r4, r5, r6, r7, r8⟩ := hcc
      replace r0 := st.oldCell (i := 0) get0 r0
      replace r1 := st.oldCell (i := 0) get0 r1
      replace r2 := st.oldCell (i := 0) get0 r2
      replace r3 := st.oldCell (i := 0) get0 r3
      replace r4 := st.oldCell (i := 0) get0 r4
      replace r5 := st.oldCell (i := 0) get0 r5
      replace r6 := st.oldCell (i := 0) get0 r6
      replace r7 := st.oldCell (i := 0) get0 r7
      replace r8 := st.oldCell (i := 0) get0 r8
      have hts : l.take (j + 1) = l.take j ++ [l[j]] := (List.take_append_getElem hjl).symm
      have hw1 := weightC_take l (j + 1)
      rw [hts, weightC_snoc, ← HQ.out] at hw1
      have hw2 : q + wtC l[j] ≤ 2000000000 := by have := HN.out.2; omega
      have HX : Hid (q + wtC l[j] = weightC (l.take (j + 1))) := Lib.hid (by rw [hts, weightC_snoc, ← HQ.out])
      clear hcell hts hw1
      generalize l[j] = x at *
      clear hjl
      subst ha
      unfold S at r1 r2 r3 r4 r5 r6 r7 r8
      have hszz : ∀ s : List UInt8, (⟨s.toArray⟩ : ByteArray).size = s.length := fun s => by simp [ByteArray.size]
      have HW : Hid (wtC x = 20 + x.h.1.length + x.h.2.length + x.w.length + x.b.1.length + x.b.2.length + x.c.1.length + x.c.2.length + x.e.length) := Lib.hid rfl
      have hw3 : q + (20 + x.h.1.length + x.h.2.length + x.w.length + x.b.1.length + x.b.2.length + x.c.1.length + x.c.2.length + x.e.length) ≤ 2000000000 := by rw [← HW.out]; exact hw2
      clear hw2
      go_wp2_with ((first
            | ((with_reducible refine wl_alloc ?_ (fun K hK => ?_)); rfl; refine owp_alloc (o := ⟨some 5, _, _, _, _, _⟩) rfl st ?_; apply Exists.intro; apply Exists.intro; refine ⟨?_, ?_⟩; (focus (first | (go_simp; done) | (go_simp; rfl))); (clear st; intro b5 w hb st; clear hb))
            | ((with_reducible refine wl_store ?_ (fun K hK => ?_)); rfl; refine owp_store rfl st ?_; apply Exists.intro; apply Exists.intro; refine ⟨?_, ?_, ?_⟩; (focus (go_simp; try rfl)); (focus (go_simp; try rfl)); (first | (with_reducible refine ⟨0, _, _, _, _, get0, rfl, rfl, ?_, ?_, ?_, ?_⟩) | (with_reducible refine ⟨1, _, _, _, _, get1, rfl, rfl, ?_, ?_, ?_, ?_⟩) | (with_reducible refine ⟨2, _, _, _, _, get2, rfl, rfl, ?_, ?_, ?_, ?_⟩) | (with_reducible refine ⟨3, _, _, _, _, get3, rfl, rfl, ?_, ?_, ?_, ?_⟩) | (with_reducible refine ⟨4, _, _, _, _, get4, rfl, rfl, ?_, ?_, ?_, ?_⟩) | (with_reducible refine ⟨5, _, _, _, _, get5, rfl, rfl, ?_, ?_, ?_, ?_⟩)); (kernel_rfl); (simp [Value.cells]); (rfl); (clear st; intro w st))); (try simp only [nsl, Value.cells, unB] at st); (try clear hc); have hc := st.facts; (try simp only [nfl, nft, Nat.reduceAdd] at hc))
      have st' := st.keep [0] (by decide) (by simp)
      go_roundg (n - (j + 1))
      case measure => omega
      case rel => exact ⟨j + 1, q + (20 + x.h.1.length + x.h.2.length + x.w.length + x.b.1.length + x.b.2.length + x.c.1.length + x.c.2.length + x.e.length), by omega, rfl, hw3, by rw [← HW.out]; exact HX, by go_num, by go_num, by simpa [pick] using st'⟩
    · obtain rfl : j = n := by omega
      have htk : weightC l = q := by rw [HQ.out, List.take_of_length_le (by have := HN.out.1; omega)]
      have HE := Lib.hid htk
      clear htk
      go_wp2_with fail
      go_ret
      exact ⟨by rw [HE.out]; rfl, st.ext0⟩
end Go.Proofs.Ytekngjkjgmplpaa

namespace Go.Proofs.Ytekngjkjgmplpaa
set_option linter.unusedSimpArgs false
set_option linter.unusedVariables false
open Go Go.RowKit
def wtS (x : StepT) : Nat := wtC x.c + x.f.w.length + x.f.r.1.length + x.f.r.2.length
def weightS (l : List StepT) : Nat := (l.map wtS).sum
theorem weightS_cons (x : StepT) (l : List StepT) : weightS (x :: l) = wtS x + weightS l := by simp [weightS]
theorem weightS_take (l : List StepT) (j : Nat) (h : j < l.length) : weightS (l.take (j + 1)) = weightS (l.take j) + wtS l[j] := by
  rw [← List.take_append_getElem h]
  unfold weightS
  rw [List.map_append, List.sum_append]
  simp
theorem weightS_le : ∀ (l : List StepT) (j : Nat), weightS (l.take j) ≤ weightS l
  | [], j => by simp
  | x :: l, 0 => by simp [weightS]
  | x :: l, j + 1 => by have := weightS_le l j; rw [List.take_succ_cons, weightS_cons, weightS_cons]; omega
theorem weightS_len : ∀ (l : List StepT), 20 * l.length ≤ weightS l
  | [] => by simp
  | x :: l => by have := weightS_len l; rw [weightS_cons, List.length_cons]; unfold wtS wtC; omega
theorem weightS_mem : ∀ (l : List StepT) (x : StepT), x ∈ l → wtS x ≤ weightS l
  | [], x, h => by simp at h
  | y :: l, x, h => by
    rw [weightS_cons]
    rcases List.mem_cons.1 h with rfl | h
    · omega
    · have := weightS_mem l x h; omega
set_option maxRecDepth 100000 in
set_option maxHeartbeats 4000000 in
theorem stepGreat_any (a : Option Addr) (n c : Nat) (l : List StepT) (W : World) (h : Fl W a n l) (hw : weightS l ≤ 2000000000) :
    Calls Try.prog 34 #[.slice a n c] W fun e w' => e = .returned (.int .i64 (weightS l : Int)) ∧ Ext W w' := by
  have hnl : n ≤ 100000000 := by have := weightS_len l; have := h.1; omega
  have H := Lib.hid h
  have HN := Lib.hid h.1
  have HT := Lib.hid (weightS_le l)
  obtain ⟨wl, hwl⟩ : ∃ w, weightS l = w := ⟨_, rfl⟩
  rw [hwl] at HT hw ⊢
  have HWL := Lib.hid hwl
  have st := Own.startOld W
  clear h hwl
  (try simp only [nsl, Value.cells, unB] at st)
  (try clear hc); have hc := st.facts; (try simp only [nfl, nft, Nat.reduceAdd] at hc)
  go_enter Try.func34, Try.ntmps34
  go_wp2_with fail
  go_loopg [3, 8] n (fun k s i wr => ∃ (j q : Nat), j ≤ n ∧ k = n - j ∧ i = .int .i64 (j : Int) ∧ Hid (q = weightS (l.take j)) ∧ q ≤ wl ∧ s = .int .i64 (q : Int) ∧ Own (fun _ => False) (fun _ => True) W [oldI W] wr)
  case atStart => exact ⟨0, 0, by omega, by omega, rfl, Lib.hid (by simp [weightS]), by omega, rfl, st⟩
  case round =>
    obtain ⟨j, q, hj, rfl, rfl, HQ, hq, rfl, st'⟩ := hrel
    clear st hc
    have st := st'
    clear st'
    (try simp only [nsl, Value.cells, unB] at st)
    (try clear hc); have hc := st.facts; (try simp only [nfl, nft, Nat.reduceAdd] at hc)
    by_cases hjn : j < n
    · obtain ⟨b, off, ha, hcell⟩ := H.out.step (by omega)
      have hjl : j < l.length := by have := HN.out; omega
      obtain ⟨r0, r1, r2, r3, r4, r5, r6, r7, r8, r9, r10, r11⟩ := hcell j l[j] (List.getElem?_eq_getElem hjl)
      replace r0 := st.oldCell (i := 0) get0 r0
      replace r1 := st.oldCell (i := 0) get0 r1
      replace r2 := st.oldCell (i := 0) get0 r2
      replace r3 := st.oldCell (i := 0) get0 r3
      replace r4 := st.oldCell (i := 0) get0 r4
      replace r5 := st.oldCell (i := 0) get0 r5
      replace r6 := st.oldCell (i := 0) get0 r6
      replace r7 := st.oldCell (i := 0) get0 r7
      replace r8 := st.oldCell (i := 0) get0 r8
      replace r9 := st.oldCell (i := 0) get0 r9
      replace r10 := st.oldCell (i := 0) get0 r10
      replace r11 := st.oldCell (i := 0) get0 r11
      have hle := HT.out (j + 1)
      have HTK := Lib.hid (weightS_take l j hjl)
      have hq2 : q + wtS l[j] ≤ wl := by have := HTK.out; have := HQ.out; omega
      clear hcell hle
      generalize l[j] = x at *
      subst ha
      obtain ⟨cx, ⟨⟨ro, rd⟩, fw⟩⟩ := x
      have HWX : Hid (wtS ⟨cx, ⟨(ro, rd), fw⟩⟩ = wtC cx + fw.length + ro.length + rd.length) := Lib.hid rfl
      rw [HWX.out] at hq2 HTK
      have HCG := Lib.hid (fun a c W h => credGreat_any a 1 c [cx] W h (by simp [weightC]; omega))
      rw [show weightC [cx] = wtC cx from by simp [weightC]] at HCG
      obtain ⟨wc, hwc⟩ : ∃ w, wtC cx = w := ⟨_, rfl⟩
      rw [hwc] at HCG hq2 HTK
      clear hwc HWX
      have z1 : IntKind.i64.wrap ((wc : Int) + (fw.length : Int)) = (wc : Int) + (fw.length : Int) := IntWalk.i64_in _ ⟨by omega, by omega⟩
      have z2 : IntKind.i64.wrap ((wc : Int) + (fw.length : Int) + (ro.length : Int)) = (wc : Int) + (fw.length : Int) + (ro.length : Int) := IntWalk.i64_in _ ⟨by omega, by omega⟩
      have z3 : IntKind.i64.wrap ((wc : Int) + (fw.length : Int) + (ro.length : Int) + (rd.length : Int)) = (wc : Int) + (fw.length : Int) + (ro.length : Int) + (rd.length : Int) := IntWalk.i64_in _ ⟨by omega, by omega⟩
      have z4 : IntKind.i64.wrap ((q : Int) + ((wc : Int) + (fw.length : Int) + (ro.length : Int) + (rd.length : Int))) = (q : Int) + ((wc : Int) + (fw.length : Int) + (ro.length : Int) + (rd.length : Int)) := IntWalk.i64_in _ ⟨by omega, by omega⟩
      obtain ⟨k, ⟨ho, hd⟩, nw, ⟨bo, bd⟩, ⟨co, cd⟩, we⟩ := cx
      simp only at r0 r1 r2 r3 r4 r5 r6 r7 r8 r9 r10 r11
      unfold S at r1 r2 r3 r4 r5 r6 r7 r8 r9 r10 r11
      go_wp2_with ((first
            | ((with_reducible refine wl_alloc ?_ (fun K hK => ?_)); rfl; refine owp_alloc (o := ⟨some 5, _, _, _, _, _⟩) rfl st ?_; apply Exists.intro; apply Exists.intro; refine ⟨?_, ?_⟩; (focus (first | (go_simp; done) | (go_simp; rfl))); (clear st; intro b5 w hb st; clear hb))
            | ((with_reducible refine wl_store ?_ (fun K hK => ?_)); rfl; refine owp_store rfl st ?_; apply Exists.intro; apply Exists.intro; refine ⟨?_, ?_, ?_⟩; (focus (go_simp; try rfl)); (focus (go_simp; try rfl)); (with_reducible refine ⟨1, _, _, _, _, get1, rfl, rfl, ?_, ?_, ?_, ?_⟩); (kernel_rfl); (simp [Value.cells]); (rfl); (clear st; intro w st))); (try simp only [nsl, Value.cells, unB] at st); (try clear hc); have hc := st.facts; (try simp only [nfl, nft, Nat.reduceAdd] at hc))
      clear r0 r1 r2 r3 r4 r5 r6 r7 r8 r9 r10 r11
      refine Rg4.wp_region4_eq #[0, 0, 2, 6, 14, 0, 32, 96, 224, 510, 0, 1024, 3072, 7168, 15360, 32766, 0, 65536, 196608, 458752, 983040, 2097150, 4194303, 8388607] [3, 4] [] (fun W' => Blk W' b5 [.int .i64 k, .string ⟨ho.toArray⟩, .string ⟨hd.toArray⟩, .string ⟨nw.toArray⟩, .string ⟨bo.toArray⟩, .string ⟨bd.toArray⟩, .string ⟨co.toArray⟩, .string ⟨cd.toArray⟩, .string ⟨we.toArray⟩, .string ⟨ro.toArray⟩, .string ⟨rd.toArray⟩, .string ⟨fw.toArray⟩]) [0, 1, 2, 5, 6, 7, 8, 10, 11, 12, 13, 14, 16, 17, 18, 19, 20, 3, 4, 9, 15, 21, 22, 23] (by kernel_rfl) (by kernel_rfl) (by kernel_rfl) (by kernel_rfl) (show Rg4.PB _ by repeat (first | with_reducible exact Rg4.pb_body | with_reducible exact Rg4.pb_bodyD rfl | with_reducible refine Rg4.pb_then ?_ | with_reducible refine Rg4.pb_inBlock ?_ | with_reducible refine Rg4.pb_noGoto ?_)) (st.drew.blk (i := 1) get1) ?_
      replace st := st.drew
      change Rg4.wp4 _ _ _ _ _ _ _ _ _ (World.drew _) _ _
      generalize World.drew _ = w at st ⊢
      (try clear hc); have hc := st.facts; (try simp only [nfl, nft, Nat.reduceAdd] at hc)
      iterate 2 (refine Rg4.w4_any (Rg4.want_none rfl) rfl ?_; apply Exists.intro; refine ⟨fun w' => ?_, ?_⟩; (focus (first | (go_simp; done) | (go_simp; first | rfl | (rw [if_neg] <;> first | rfl | omega) | (rw [if_pos] <;> first | rfl | omega)))); (try simp only [Rg4.nrm]))
      (refine Rg4.w4_cl (Rg4.want_none rfl) rfl ?_; apply Exists.intro; refine ⟨fun w' hcl => ?_, ?_⟩; (focus (have q0 := Blk.cell hcl 0; have q1 := Blk.cell hcl 1; have q2 := Blk.cell hcl 2; have q3 := Blk.cell hcl 3; have q4 := Blk.cell hcl 4; have q5 := Blk.cell hcl 5; have q6 := Blk.cell hcl 6; have q7 := Blk.cell hcl 7; have q8 := Blk.cell hcl 8; have q9 := Blk.cell hcl 9; have q10 := Blk.cell hcl 10; have q11 := Blk.cell hcl 11; (try simp at q0 q1 q2 q3 q4 q5 q6 q7 q8 q9 q10 q11); (focus (first | (go_simp; done) | (go_simp; first | rfl | (rw [if_neg] <;> first | rfl | omega) | (rw [if_pos] <;> first | rfl | omega)))))); (try simp only [Rg4.nrm]))
      iterate 2 (refine Rg4.w4_any (Rg4.want_none rfl) rfl ?_; apply Exists.intro; refine ⟨fun w' => ?_, ?_⟩; (focus (first | (go_simp; done) | (go_simp; first | rfl | (rw [if_neg] <;> first | rfl | omega) | (rw [if_pos] <;> first | rfl | omega)))); (try simp only [Rg4.nrm]))
      (refine Rg4.w4_cl (Rg4.want_none rfl) rfl ?_; apply Exists.intro; refine ⟨fun w' hcl => ?_, ?_⟩; (focus (have q0 := Blk.cell hcl 0; have q1 := Blk.cell hcl 1; have q2 := Blk.cell hcl 2; have q3 := Blk.cell hcl 3; have q4 := Blk.cell hcl 4; have q5 := Blk.cell hcl 5; have q6 := Blk.cell hcl 6; have q7 := Blk.cell hcl 7; have q8 := Blk.cell hcl 8; have q9 := Blk.cell hcl 9; have q10 := Blk.cell hcl 10; have q11 := Blk.cell hcl 11; (try simp at q0 q1 q2 q3 q4 q5 q6 q7 q8 q9 q10 q11); (focus (first | (go_simp; done) | (go_simp; first | rfl | (rw [if_neg] <;> first | rfl | omega) | (rw [if_pos] <;> first | rfl | omega)))))); (try simp only [Rg4.nrm]))
      iterate 4 (refine Rg4.w4_any (Rg4.want_none rfl) rfl ?_; apply Exists.intro; refine ⟨fun w' => ?_, ?_⟩; (focus (first | (go_simp; done) | (go_simp; first | rfl | (rw [if_neg] <;> first | rfl | omega) | (rw [if_pos] <;> first | rfl | omega)))); (try simp only [Rg4.nrm]))
      (refine Rg4.w4_cl (Rg4.want_none rfl) rfl ?_; apply Exists.intro; refine ⟨fun w' hcl => ?_, ?_⟩; (focus (have q0 := Blk.cell hcl 0; have q1 := Blk.cell hcl 1; have q2 := Blk.cell hcl 2; have q3 := Blk.cell hcl 3; have q4 := Blk.cell hcl 4; have q5 := Blk.cell hcl 5; have q6 := Blk.cell hcl 6; have q7 := Blk.cell hcl 7; have q8 := Blk.cell hcl 8; have q9 := Blk.cell hcl 9; have q10 := Blk.cell hcl 10; have q11 := Blk.cell hcl 11; (try simp at q0 q1 q2 q3 q4 q5 q6 q7 q8 q9 q10 q11); (focus (first | (go_simp; done) | (go_simp; first | rfl | (rw [if_neg] <;> first | rfl | omega) | (rw [if_pos] <;> first | rfl | omega)))))); (try simp only [Rg4.nrm]))
      iterate 4 (refine Rg4.w4_any (Rg4.want_none rfl) rfl ?_; apply Exists.intro; refine ⟨fun w' => ?_, ?_⟩; (focus (first | (go_simp; done) | (go_simp; first | rfl | (rw [if_neg] <;> first | rfl | omega) | (rw [if_pos] <;> first | rfl | omega)))); (try simp only [Rg4.nrm]))
      (refine Rg4.w4_cl (Rg4.want_none rfl) rfl ?_; apply Exists.intro; refine ⟨fun w' hcl => ?_, ?_⟩; (focus (have q0 := Blk.cell hcl 0; have q1 := Blk.cell hcl 1; have q2 := Blk.cell hcl 2; have q3 := Blk.cell hcl 3; have q4 := Blk.cell hcl 4; have q5 := Blk.cell hcl 5; have q6 := Blk.cell hcl 6; have q7 := Blk.cell hcl 7; have q8 := Blk.cell hcl 8; have q9 := Blk.cell hcl 9; have q10 := Blk.cell hcl 10; have q11 := Blk.cell hcl 11; (try simp at q0 q1 q2 q3 q4 q5 q6 q7 q8 q9 q10 q11); (focus (first | (go_simp; done) | (go_simp; first | rfl | (rw [if_neg] <;> first | rfl | omega) | (rw [if_pos] <;> first | rfl | omega)))))); (try simp only [Rg4.nrm]))
      (refine Rg4.w4_any (Rg4.want_none rfl) rfl ?_; apply Exists.intro; refine ⟨fun w' => ?_, ?_⟩; (focus (first | (go_simp; done) | (go_simp; first | rfl | (rw [if_neg] <;> first | rfl | omega) | (rw [if_pos] <;> first | rfl | omega)))); (try simp only [Rg4.nrm]))
      (refine Rg4.w4_bar (Rg4.want_none rfl) rfl (fun w' hw' hcl' _ K hK => ?_); subst hw'; (refine owp_buildSlice (o := ⟨some 15, _, _, _, _, _⟩) rfl st ?_; apply Exists.intro; apply Exists.intro; apply Exists.intro; apply Exists.intro; refine ⟨?_, ?_⟩; (focus (go_simp; (first | done | exact ⟨⟨rfl, rfl⟩, rfl⟩ | rfl))); (clear st; intro b15 w hb st; clear hb); (try simp only [nsl, Value.cells, unB] at st); (try clear hc); have hc := st.facts; (try simp only [nfl, nft, Nat.reduceAdd] at hc)); refine hK _ _ ⟨st.blk (i := 1) get1, ?_⟩; (try simp only [Rg4.nrm]))
      refine Rg4.w4_bar (Rg4.want_none rfl) rfl (fun w' hw' hcl _ K hK => ?_)
      subst hw'
      go_wp2_with fail
      refine (HCG.out _ _ _ (fl_lit (α := CredT) (st.blk (i := 2) get2) [⟨k, (ho, hd), nw, (bo, bd), (co, cd), we⟩] rfl)).mono ?_
      rintro en w ⟨rfl, hx⟩
      replace st := st.ext hx
      clear hx
      (try clear hc); have hc := st.facts; (try simp only [nfl, nft, Nat.reduceAdd] at hc)
      refine hK _ _ ⟨st.blk (i := 1) get1, ?_⟩
      clear hK
      (try simp only [Rg4.nrm])
      iterate 5 (refine Rg4.w4_any (Rg4.want_none rfl) rfl ?_; apply Exists.intro; refine ⟨fun w' => ?_, ?_⟩; (focus (first | (go_simp; done) | (go_simp; first | rfl | (rw [if_neg] <;> first | rfl | omega) | (rw [if_pos] <;> first | rfl | omega)))); (try simp only [Rg4.nrm]))
      refine Rg4.w4_nil (fun w' hw' hcl' _ => ?_); subst hw'; clear hcl'
      go_wp2_with fail
      have st' := st.keep [0] (by decide) (by simp)
      go_roundg (n - (j + 1))
      case measure => omega
      case rel => exact ⟨j + 1, q + (wc + fw.length + ro.length + rd.length), by omega, by omega, by go_num, Lib.hid (by rw [HTK.out, HQ.out]), hq2, by go_num, by simpa [pick] using st'⟩
    · obtain rfl : j = n := by omega
      have hqw : q = wl := by
        have := HQ.out
        rw [List.take_of_length_le (by have := HN.out; omega), HWL.out] at this
        exact this
      subst hqw
      clear HT
      go_wp2_with fail
      go_ret
      exact ⟨rfl, st.ext0⟩
end Go.Proofs.Ytekngjkjgmplpaa

namespace Go.Proofs.Ytekngjkjgmplpaa
set_option linter.unusedSimpArgs false
set_option linter.unusedVariables false
open Go Go.RowKit
def stepR (x : StepT) : Bool := credR x.c && roleEq x.f.r x.c.h && nameR x.f.w
set_option maxRecDepth 100000 in
set_option maxHeartbeats 4000000 in
theorem chkRight_any (x : StepT) (W : World) (hl : CLenS x.c) (hw : x.f.w.length ≤ 100000) :
    Calls Try.prog 116 #[stV x] W fun e w' => e = .returned (.bool (stepR x)) ∧ Ext W w' := by
  have HCR := Lib.hid (fun W => credRight_any x.c W hl)
  have HNR := Lib.hid (fun W => right_any x.f.w W hw)
  have HR : Hid (stepR x = (credR x.c && roleEq x.f.r x.c.h && nameR x.f.w)) := Lib.hid rfl
  obtain ⟨r, hr⟩ : ∃ r, stepR x = r := ⟨_, rfl⟩
  rw [hr] at HR ⊢
  obtain ⟨cr, hcr⟩ : ∃ b, credR x.c = b := ⟨_, rfl⟩
  rw [hcr] at HR HCR
  obtain ⟨nr, hnr⟩ : ∃ b, nameR x.f.w = b := ⟨_, rfl⟩
  rw [hnr] at HR HNR
  clear hr hcr hnr hl hw
  obtain ⟨⟨k, ⟨ho, hd⟩, nw, ⟨bo, bd⟩, ⟨co, cd⟩, we⟩, ⟨⟨ro, rd⟩, fw⟩⟩ := x
  simp only at HR HCR HNR
  unfold cV at HCR
  have st := Own.startOld W
  unfold stV
  unfold S at *
  (try simp only [nsl, Value.cells, unB] at st)
  (try clear hc); have hc := st.facts; (try simp only [nfl, nft, Nat.reduceAdd] at hc)
  cases cr with
  | false =>
    have HF : Hid (r = false) := Lib.hid (by rw [HR.out]; rfl)
    go_enter Try.func116, Try.ntmps116
    go_wp2_with ((((with_reducible refine wl_box ?_ (fun K hK => ?_)); rfl; refine owp_box (o := ⟨some 1, _, _, _, _, _⟩) rfl st ?_; apply Exists.intro; refine ⟨?_, ?_⟩; (focus (go_simp; try rfl)); (clear st; intro b1 w hb st; clear hb))); (try simp only [nsl, Value.cells, unB] at st); (try clear hc); have hc := st.facts; (try simp only [nfl, nft, Nat.reduceAdd] at hc))
    refine (HCR.out _).mono ?_
    rintro en w ⟨rfl, hx⟩
    replace st := st.ext hx
    clear hx
    (try clear hc); have hc := st.facts; (try simp only [nfl, nft, Nat.reduceAdd] at hc)
    go_wp2_with fail
    go_ret
    exact ⟨by rw [HF.out]; rfl, st.ext0⟩
  | true =>
    cases hre : roleEq (ro, rd) (ho, hd) with
    | false =>
      have HF : Hid (r = false) := Lib.hid (by rw [HR.out, hre]; rfl)
      go_enter Try.func116, Try.ntmps116
      go_wp2_with ((((with_reducible refine wl_box ?_ (fun K hK => ?_)); rfl; refine owp_box (o := ⟨some 1, _, _, _, _, _⟩) rfl st ?_; apply Exists.intro; refine ⟨?_, ?_⟩; (focus (go_simp; try rfl)); (clear st; intro b1 w hb st; clear hb))); (try simp only [nsl, Value.cells, unB] at st); (try clear hc); have hc := st.facts; (try simp only [nfl, nft, Nat.reduceAdd] at hc))
      refine (HCR.out _).mono ?_
      rintro en w ⟨rfl, hx⟩
      replace st := st.ext hx
      clear hx
      (try clear hc); have hc := st.facts; (try simp only [nfl, nft, Nat.reduceAdd] at hc)
      go_wp2_with fail
      go_ret
      exact ⟨by rw [HF.out]; rfl, st.ext0⟩
    | true =>
      have HF : Hid (r = nr) := Lib.hid (by rw [HR.out, hre]; rfl)
      go_enter Try.func116, Try.ntmps116
      go_wp2_with ((((with_reducible refine wl_box ?_ (fun K hK => ?_)); rfl; refine owp_box (o := ⟨some 1, _, _, _, _, _⟩) rfl st ?_; apply Exists.intro; refine ⟨?_, ?_⟩; (focus (go_simp; try rfl)); (clear st; intro b1 w hb st; clear hb))); (try simp only [nsl, Value.cells, unB] at st); (try clear hc); have hc := st.facts; (try simp only [nfl, nft, Nat.reduceAdd] at hc))
      refine (HCR.out _).mono ?_
      rintro en w ⟨rfl, hx⟩
      replace st := st.ext hx
      clear hx
      (try clear hc); have hc := st.facts; (try simp only [nfl, nft, Nat.reduceAdd] at hc)
      go_wp2_with fail
      refine (HNR.out _).mono ?_
      rintro en w ⟨rfl, hx⟩
      replace st := st.ext hx
      clear hx
      (try clear hc); have hc := st.facts; (try simp only [nfl, nft, Nat.reduceAdd] at hc)
      go_wp2_with fail
      go_ret
      exact ⟨by rw [HF.out]; rfl, st.ext0⟩
set_option maxRecDepth 100000 in
set_option maxHeartbeats 2000000 in
theorem chkPut1_any (x : StepT) (W : World) (hl : CLenS x.c) (hw : x.f.w.length ≤ 100000) :
    Calls Try.prog 115 #[stV x] W fun e w' => e = .returned (.bool (!stepR x)) ∧ Ext W w' := by
  have HCR := Lib.hid (fun W => chkRight_any x W hl hw)
  obtain ⟨r, hr⟩ : ∃ r, stepR x = r := ⟨_, rfl⟩
  rw [hr] at HCR ⊢
  clear hr hl hw
  obtain ⟨⟨k, ⟨ho, hd⟩, nw, ⟨bo, bd⟩, ⟨co, cd⟩, we⟩, ⟨⟨ro, rd⟩, fw⟩⟩ := x
  have st := Own.startOld W
  unfold stV S at *
  (try simp only [nsl, Value.cells, unB] at st)
  (try clear hc); have hc := st.facts; (try simp only [nfl, nft, Nat.reduceAdd] at hc)
  go_enter Try.func115, Try.ntmps115
  go_wp2_with ((((with_reducible refine wl_box ?_ (fun K hK => ?_)); rfl; refine owp_box (o := ⟨some 1, _, _, _, _, _⟩) rfl st ?_; apply Exists.intro; refine ⟨?_, ?_⟩; (focus (go_simp; try rfl)); (clear st; intro b1 w hb st; clear hb))); (try simp only [nsl, Value.cells, unB] at st); (try clear hc); have hc := st.facts; (try simp only [nfl, nft, Nat.reduceAdd] at hc))
  refine (HCR.out _).mono ?_
  rintro en w ⟨rfl, hx⟩
  replace st := st.ext hx
  clear hx
  (try clear hc); have hc := st.facts; (try simp only [nfl, nft, Nat.reduceAdd] at hc)
  go_wp2_with fail
  go_ret
  exact ⟨rfl, st.ext0⟩
end Go.Proofs.Ytekngjkjgmplpaa

namespace Go.Proofs.Ytekngjkjgmplpaa
set_option linter.unusedSimpArgs false
set_option linter.unusedVariables false
open Go Go.RowKit
set_option maxRecDepth 100000 in
set_option maxHeartbeats 1000000 in
theorem stepIndexFunc_any (a : Option Addr) (n c : Nat) (xs : List StepT) (W : World) (h : Fl W a n xs) (hn : n ≤ 2000000) (F : FuncId) (cap : Array Value) (p : StepT → Bool)
    (hi : ∀ w x, (callFunc F (#[x] ++ cap)).run Try.prog w = .ok (.enter F (#[x] ++ cap)) w)
    (hp : ∀ x ∈ xs, ∀ w, Ext W w → Calls Try.prog F (#[stV x] ++ cap) w fun e w' => e = .returned (.bool (p x)) ∧ Ext w w') :
    Calls Try.prog 173 #[.slice a n c, .func (.func F) #[] cap] W fun e w' => ∃ v : Int, e = .returned (.int .i64 v) ∧ (0 ≤ v ↔ xs.any p = true) ∧ Ext W w' := by
  have HP := Lib.hid hp
  have H := Lib.hid h
  have HN := Lib.hid h.1
  have st := Own.startOld W
  clear hp h
  (try simp only [nsl, Value.cells, unB] at st)
  (try clear hc); have hc := st.facts; (try simp only [nfl, nft, Nat.reduceAdd] at hc)
  go_enter Try.func173, Try.ntmps173
  go_wp2_with fail
  go_loopg [8] n (fun k i wr => ∃ (j : Nat), j ≤ n ∧ k = n - j ∧ i = .int .i64 (j : Int) ∧ Hid (∀ x ∈ xs.take j, p x = false) ∧ Own (fun _ => False) (fun _ => True) W [oldI W] wr)
  case atStart => exact ⟨0, by omega, by omega, rfl, Lib.hid (by simp), st⟩
  case round =>
    obtain ⟨j, hj, rfl, rfl, HT, st'⟩ := hrel
    clear st hc
    have st := st'
    clear st'
    (try simp only [nsl, Value.cells, unB] at st)
    (try clear hc); have hc := st.facts; (try simp only [nfl, nft, Nat.reduceAdd] at hc)
    by_cases hjn : j < n
    · obtain ⟨b, off, ha, hcell⟩ := H.out.step (by omega)
      have hjl : j < xs.length := by have := HN.out; omega
      obtain ⟨r0, r1, r2, r3, r4, r5, r6, r7, r8, r9, r10, r11⟩ := hcell j xs[j] (List.getElem?_eq_getElem hjl)
      replace r0 := st.oldCell (i := 0) get0 r0
      replace r1 := st.oldCell (i := 0) get0 r1
      replace r2 := st.oldCell (i := 0) get0 r2
      replace r3 := st.oldCell (i := 0) get0 r3
      replace r4 := st.oldCell (i := 0) get0 r4
      replace r5 := st.oldCell (i := 0) get0 r5
      replace r6 := st.oldCell (i := 0) get0 r6
      replace r7 := st.oldCell (i := 0) get0 r7
      replace r8 := st.oldCell (i := 0) get0 r8
      replace r9 := st.oldCell (i := 0) get0 r9
      replace r10 := st.oldCell (i := 0) get0 r10
      replace r11 := st.oldCell (i := 0) get0 r11
      have hts : xs.take (j + 1) = xs.take j ++ [xs[j]] := (List.take_append_getElem hjl).symm
      have hx := HP.out xs[j] (List.getElem_mem hjl)
      have hmem := List.getElem_mem hjl
      clear hcell
      generalize xs[j] = x at *
      obtain ⟨⟨ck, ⟨ho, hd⟩, cw, ⟨bo, bd⟩, ⟨co, cd⟩, we⟩, ⟨⟨ro, rd⟩, fw⟩⟩ := x
      have HX := Lib.hid (And.intro hts hmem)
      clear hts hmem hjl
      subst ha
      simp only at r0 r1 r2 r3 r4 r5 r6 r7 r8 r9 r10 r11
      unfold S at r1 r2 r3 r4 r5 r6 r7 r8 r9 r10 r11
      unfold stV S at hx
      have HQ := Lib.hid hx
      clear hx
      go_wp2_with fail
      refine (HQ.out _ st.ext0).mono ?_
      rintro en w ⟨rfl, hx⟩
      replace st := st.ext hx
      clear hx r0 r1 r2 r3 r4 r5 r6 r7 r8 r9 r10 r11
      by_cases hpx : p ⟨⟨ck, (ho, hd), cw, (bo, bd), (co, cd), we⟩, ⟨(ro, rd), fw⟩⟩ = true
      · rw [hpx]
        have HF : Hid (xs.any p = true) := Lib.hid (List.any_eq_true.2 ⟨_, HX.out.2, hpx⟩)
        clear hpx
        go_wp2_with fail
        go_ret
        exact ⟨_, rfl, ⟨fun _ => HF.out, fun _ => by omega⟩, st.ext0⟩
      · have hpf : p ⟨⟨ck, (ho, hd), cw, (bo, bd), (co, cd), we⟩, ⟨(ro, rd), fw⟩⟩ = false := by simpa using hpx
        rw [hpf]
        have HF : Hid (∀ x ∈ xs.take (j + 1), p x = false) := Lib.hid (fun x hx => by
          rw [HX.out.1] at hx
          rcases List.mem_append.1 hx with q | q
          · exact HT.out x q
          · rw [List.mem_singleton.1 q]; exact hpf)
        clear hpx hpf
        go_wp2_with fail
        go_roundg (n - (j + 1))
        case measure => omega
        case rel => exact ⟨j + 1, by omega, by omega, by go_num, HF, st⟩
    · obtain rfl : j = n := by omega
      have HF : Hid (xs.any p = false) := Lib.hid (by
        rw [List.any_eq_false]
        intro x hx
        have := HT.out x (by rw [List.take_of_length_le (by have := HN.out; omega)]; exact hx)
        simp [this])
      go_wp2_with fail
      go_ret
      exact ⟨_, rfl, ⟨fun q => by omega, fun q => by rw [HF.out] at q; cases q⟩, st.ext0⟩
set_option maxRecDepth 100000 in
set_option maxHeartbeats 1000000 in
theorem stepContainsFunc_any (a : Option Addr) (n c : Nat) (xs : List StepT) (W : World) (h : Fl W a n xs) (hn : n ≤ 2000000) (F : FuncId) (cap : Array Value) (p : StepT → Bool)
    (hi : ∀ w x, (callFunc F (#[x] ++ cap)).run Try.prog w = .ok (.enter F (#[x] ++ cap)) w)
    (hp : ∀ x ∈ xs, ∀ w, Ext W w → Calls Try.prog F (#[stV x] ++ cap) w fun e w' => e = .returned (.bool (p x)) ∧ Ext w w') :
    Calls Try.prog 114 #[.slice a n c, .func (.func F) #[] cap] W fun e w' => e = .returned (.bool (xs.any p)) ∧ Ext W w' := by
  have HI := Lib.hid (stepIndexFunc_any a n c xs W h hn F cap p hi hp)
  obtain ⟨r, hr⟩ : ∃ r, xs.any p = r := ⟨_, rfl⟩
  rw [hr] at HI ⊢
  clear hp h hi hr
  go_enter Try.func114, Try.ntmps114
  go_wp2_with fail
  refine HI.out.mono ?_
  rintro en w' ⟨v, rfl, hv, hx⟩
  by_cases h0 : 0 ≤ v
  · have hr : r = true := hv.1 h0
    subst hr
    clear hv
    go_wp2_with fail
    go_ret
    exact ⟨by simp [h0], hx⟩
  · have hr : r = false := by cases r with | false => rfl | true => exact absurd (hv.2 rfl) h0
    subst hr
    clear hv
    go_wp2_with fail
    go_ret
    exact ⟨by simp; omega, hx⟩
end Go.Proofs.Ytekngjkjgmplpaa

namespace Go.Proofs.Ytekngjkjgmplpaa
set_option linter.unusedSimpArgs false
set_option linter.unusedVariables false
open Go Go.RowKit
def flI {α : Type} [Flt α] (a : Option Addr) (n : Nat) (xs : List α) : It where
  P _ s w := Fl w a n xs ∧ (0 < n → ∀ ad, a = some ad → s ad.block)
  st := by
    rintro e s w w' ⟨h1, h2⟩ hag
    refine ⟨⟨h1.1, fun h0 => ?_⟩, h2⟩
    obtain ⟨b, off, rfl, hc⟩ := h1.2 h0
    refine ⟨b, off, rfl, fun i x hi j v hj => ?_⟩
    rw [World.cell?_of_block (w := w) (hag b (.inr (h2 h0 _ rfl)))]
    exact hc i x hi j v hj
  facts _ := True
  ok := fun _ => trivial
section
variable {fr al : Nat → Prop} {w0 w : World} {L : List It} {α : Type} [Flt α]
theorem Own.flAt (st : Own fr al w0 L w) {i n : Nat} {a : Option Addr} {xs : List α} (hi : L[i]? = some (flI a n xs)) : Fl w a n xs := let ⟨_, _, h, _⟩ := st.get hi; h.1
theorem Own.addOldFl (st : Own fr al w0 L w) {i : Nat} {W0 : World} (hi : L[i]? = some (oldI W0)) {a : Option Addr} {n : Nat} {xs : List α} (h : Fl W0 a n xs) : Own fr al w0 (L ++ [flI a n xs]) w :=
  st.share hi fun e s h1 => ⟨st.oldFl hi h, fun h0 ad had => by
    obtain ⟨b, off, hb, hc⟩ := h.2 h0
    rw [had] at hb
    cases hb
    have hx : 0 < xs.length := by have := h.1; omega
    have hk := Flt.pos (α := α)
    have h2 : 0 < (Flt.cells xs[0]).length := by rw [Flt.len]; exact hk
    exact h1.1 _ (show b < _ from World.block_lt_of_cell? W0 ⟨b, off + 0 * Flt.k α + 0, none⟩ (hc 0 _ (List.getElem?_eq_getElem hx) 0 _ (List.getElem?_eq_getElem h2)))⟩
theorem Own.blkToFl (st : Own fr al w0 L w) {i b n : Nat} {vs : List Value} (xs : List α) (hi : L[i]? = some (blkI b vs)) (he : vs = cellsL xs) (hn : xs.length = n) : Own fr al w0 (L.set i (flI (some ⟨b, 0, none⟩) n xs)) w :=
  st.conv hi fun e s ⟨h1, h2⟩ h3 => ⟨fun _ => False, fun k => k = b, ⟨by subst hn; exact fl_lit h2 xs he, fun _ ad had => by cases had; rfl⟩, fun _ q => q.elim, fun k hk => .inl (hk ▸ h1), fun _ q => q.elim⟩
theorem Own.rowToFl (st : Own fr al w0 L w) {i n c : Nat} {E : TypeId} {a : Option Addr} {xs : List α} (hi : L[i]? = some (rowI E (Flt.k α) (.slice a n c) n (cellsL xs))) : Own fr al w0 (L.set i (flI a n xs)) w :=
  st.conv hi fun e s ⟨h1, h2⟩ h3 => ⟨fun _ => False, fun k => e k, ⟨by
    obtain ⟨a', c', hv, _, h4⟩ := row_fl h1
    injection hv with q1 _ q3
    subst q1 q3
    exact h4, fun h0 ad had => by
    refine h2 _ ?_
    rw [had]; rfl⟩, fun _ q => q.elim, fun k hk => .inl hk, fun _ q => q.elim⟩
end
/-- n of them, one behind another. -/
def rdN {α : Type} (f : List UInt8 → Except Int (α × List UInt8)) : Nat → List UInt8 → Except Int (List α × List UInt8)
  | 0, xs => .ok ([], xs)
  | n + 1, xs => match f xs with | .error e => .error e | .ok (x, ys) => match rdN f n ys with | .error e => .error e | .ok (l, zs) => .ok (x :: l, zs)
def addN {α : Type} (out : List α) (r : Except Int (List α × List UInt8)) : Except Int (List α × List UInt8) := match r with | .error e => .error e | .ok (l, zs) => .ok (out ++ l, zs)
section
variable {α : Type} (f : List UInt8 → Except Int (α × List UInt8))
theorem addN_nil (r : Except Int (List α × List UInt8)) : addN [] r = r := by
  cases r with
  | error e => rfl
  | ok p => rfl
theorem addN_end (out : List α) (ys : List UInt8) : addN out (rdN f 0 ys) = .ok (out, ys) := by simp [rdN, addN]
theorem addN_er (out : List α) (k : Nat) {ys : List UInt8} {e : Int} (h : f ys = .error e) : addN out (rdN f (k + 1) ys) = .error e := by simp [rdN, addN, h]
theorem addN_ok (out : List α) (k : Nat) {ys zs : List UInt8} {x : α} (h : f ys = .ok (x, zs)) : addN out (rdN f (k + 1) ys) = addN (out ++ [x]) (rdN f k zs) := by
  simp only [rdN, h]
  cases rdN f k zs with
  | error e => rfl
  | ok p => simp [addN]
theorem rdN_le {k : Nat} {xs ys : List UInt8} {l : List α} (hf : ∀ xs x ys, f xs = .ok (x, ys) → ys.length ≤ xs.length) (h : rdN f k xs = .ok (l, ys)) : ys.length ≤ xs.length ∧ l.length = k := by
  induction k generalizing xs ys l with
  | zero => simp [rdN] at h; obtain ⟨rfl, rfl⟩ := h; simp
  | succ k ih =>
    unfold rdN at h
    cases h1 : f xs with
    | error e => rw [h1] at h; cases h
    | ok p =>
      obtain ⟨x, zs⟩ := p
      rw [h1] at h
      simp only at h
      cases h2 : rdN f k zs with
      | error e => rw [h2] at h; cases h
      | ok q =>
        obtain ⟨m, us⟩ := q
        rw [h2] at h
        simp only [Except.ok.injEq, Prod.mk.injEq] at h
        obtain ⟨rfl, rfl⟩ := h
        have := ih h2
        have := hf _ _ _ h1
        exact ⟨by omega, by simp; omega⟩
theorem rdN_er {k : Nat} {xs : List UInt8} {e : Int} (hf : ∀ xs e, f xs = .error e → e ≠ 0) (h : rdN f k xs = .error e) : e ≠ 0 := by
  induction k generalizing xs e with
  | zero => simp [rdN] at h
  | succ k ih =>
    unfold rdN at h
    cases h1 : f xs with
    | error e2 => rw [h1] at h; simp at h; subst h; exact hf _ _ h1
    | ok p =>
      obtain ⟨x, zs⟩ := p
      rw [h1] at h
      simp only at h
      cases h2 : rdN f k zs with
      | error e2 => rw [h2] at h; simp at h; subst h; exact ih h2
      | ok q => rw [h2] at h; cases h
theorem rdN_put (g : α → List UInt8) (l : List α) (ys : List UInt8) (h : ∀ x ∈ l, ∀ ys, f (g x ++ ys) = .ok (x, ys)) : rdN f l.length (l.flatMap g ++ ys) = .ok (l, ys) := by
  induction l with
  | nil => simp [rdN]
  | cons x l ih =>
    simp only [List.length_cons, rdN, List.flatMap_cons, List.append_assoc]
    rw [h x (by simp)]
    simp only
    rw [ih fun y hy => h y (by simp [hy])]
end
end Go.Proofs.Ytekngjkjgmplpaa

namespace Go.Proofs.Ytekngjkjgmplpaa
set_option linter.unusedSimpArgs false
set_option linter.unusedVariables false
open Go Go.RowKit
theorem rdName_put (s ys : List UInt8) (h : nameR s = true) : rdName (numB s.length ++ s ++ ys) = .ok (s, ys) := by
  unfold rdName
  rw [show (16 : Int) = ((16 : Nat) : Int) from rfl, rdText_put 16 s ys (nameR_len h).2 (by decide)]
  simp [h]
theorem rdRole_put (x : Role) (h : roleR x = true) : rdRole (roleB x) = .ok (x, []) := by
  obtain ⟨o, d⟩ := x
  have hr : nameR o = true ∧ nameR d = true := by simpa [roleR] using h
  unfold rdRole roleB
  simp only
  rw [show numB o.length ++ o ++ (numB d.length ++ d) = numB o.length ++ o ++ (numB d.length ++ d ++ []) by simp, rdName_put o _ hr.1]
  simp only
  rw [rdName_put d [] hr.2]
theorem nameR_dot {s : List UInt8} (h : nameR s = true) : ∀ x ∈ s, x ≠ 46 := by
  have key : ∀ c : UInt8, sgn c = true → c ≠ 46 := fun c hc e => by subst e; revert hc; decide
  cases s with
  | nil => intro x hx; simp at hx
  | cons c s =>
    have hl : (decide (s.length + 1 ≤ 16) && ltr c && (c :: s).all sgn) = true := h
    simp only [Bool.and_eq_true, List.all_eq_true] at hl
    intro x hx
    exact key x (hl.2 x hx)
theorem roleP_text (x : Role) (h : roleR x = true) : roleP (roleT x) = some x := by
  obtain ⟨o, d⟩ := x
  have hr : nameR o = true ∧ nameR d = true := by simpa [roleR] using h
  have h1 : (roleT (o, d))[o.length]? = some 46 := by simp [roleT]
  have h2 : (roleT (o, d)).take o.length = o := by simp [roleT]
  have h3 : (roleT (o, d)).drop (o.length + 1) = d := by simp [roleT]
  rw [roleP_at h1 (by rw [h2]; exact nameR_dot hr.1), h2, h3, if_pos h]
theorem rdRole_puts (x : Role) (ys : List UInt8) (h : roleR x = true) : rdRole (roleB x ++ ys) = .ok (x, ys) := by
  obtain ⟨o, d⟩ := x
  have hr : nameR o = true ∧ nameR d = true := by simpa [roleR] using h
  unfold rdRole roleB
  simp only
  rw [show numB o.length ++ o ++ (numB d.length ++ d) ++ ys = numB o.length ++ o ++ (numB d.length ++ d ++ ys) by simp, rdName_put o _ hr.1]
  simp only
  rw [rdName_put d ys hr.2]
end Go.Proofs.Ytekngjkjgmplpaa

namespace Go.Proofs.Ytekngjkjgmplpaa
set_option linter.unusedSimpArgs false
set_option linter.unusedVariables false
open Go Go.RowKit
theorem rdRole_err {xs : List UInt8} {e : Int} (h : rdRole xs = .error e) : e ≠ 0 := by
  unfold rdRole at h
  cases hr : rdName xs with
  | error e2 => rw [hr] at h; simp at h; subst h; exact rdName_er hr
  | ok p =>
    obtain ⟨o, ys⟩ := p
    rw [hr] at h; simp only at h
    cases hr2 : rdName ys with
    | error e2 => rw [hr2] at h; simp at h; subst h; exact rdName_er hr2
    | ok p => rw [hr2] at h; simp at h
theorem rdCred_er {xs : List UInt8} {e : Int} (h : rdCred xs = .error e) : e ≠ 0 := by
  have fin : ∀ {c ys}, okCr c ys = .error e → e ≠ 0 := fun {c ys} h => by
    unfold okCr at h; split at h
    · cases h
    · cases h; decide
  unfold rdCred at h
  cases h0 : rdNumber 9223372036854775807 xs with
  | error e0 => rw [h0, bd_er] at h; cases h; exact rdNumber_er h0
  | ok p =>
    obtain ⟨n, ys⟩ := p
    rw [h0, bd_ok] at h
    split at h
    · cases h; decide
    · cases h1 : rdRole ys with
      | error e0 => rw [h1, bd_er] at h; cases h; exact rdRole_err h1
      | ok p =>
        obtain ⟨hh, zs⟩ := p
        rw [h1, bd_ok] at h
        split at h
        · cases h2 : rdName zs with
          | error e0 => rw [h2, bd_er] at h; cases h; exact rdName_er h2
          | ok p => obtain ⟨w, us⟩ := p; rw [h2, bd_ok] at h; exact fin h
        · cases h2 : rdRole zs with
          | error e0 => rw [h2, bd_er] at h; cases h; exact rdRole_err h2
          | ok p =>
            obtain ⟨b, us⟩ := p
            rw [h2, bd_ok] at h
            split at h
            · exact fin h
            · split at h
              · cases h3 : rdName us with
                | error e0 => rw [h3, bd_er] at h; cases h; exact rdName_er h3
                | ok p => obtain ⟨w, us⟩ := p; rw [h3, bd_ok] at h; exact fin h
              · cases h3 : rdRole us with
                | error e0 => rw [h3, bd_er] at h; cases h; exact rdRole_err h3
                | ok p => obtain ⟨w, us⟩ := p; rw [h3, bd_ok] at h; exact fin h
end Go.Proofs.Ytekngjkjgmplpaa

namespace Go.Proofs.Ytekngjkjgmplpaa
set_option linter.unusedSimpArgs false
set_option linter.unusedVariables false
open Go Go.RowKit
theorem penBytesRow_c {fr al : Nat → Prop} {w : World} {p : Nat} {xs : List UInt8} (st : Own fr al w [penI p xs] w) (hl : xs.length ≤ 100000000000000) :
    Calls Try.prog 45 #[.pointer (some ⟨p, 0, none⟩)] w fun e w' => ∃ a c, e = .returned (.slice a xs.length c) ∧ (xs.length ≤ c ∧ c ≤ maxLen) ∧ Own fr al w [penI p xs, rowI 5 1 (.slice a xs.length c) xs.length (xs.map B)] w' := by
  obtain ⟨g, hp⟩ := st.pen (i := 0) rfl
  refine (penBytes_own p g xs w hp hl).mono ?_
  rintro e w' ⟨v, rfl, h, hx⟩
  obtain ⟨a, m, c, rfl, h1, h2, h3⟩ := own_by h
  obtain rfl : m = xs.length := h3.1
  refine ⟨a, c, rfl, ⟨h1, h2⟩, ?_⟩
  have := st.new (I := rowI 5 1 (.slice a xs.length c) xs.length (xs.map B)) hx (e' := fun b => (Value.slice a xs.length c).ownBlock = some b) (s' := fun _ => False) ⟨h.mono (Nat.zero_le _), fun k hk => hk⟩ (fun b hb => ⟨(h.lt b hb).2, (h.lt b hb).1⟩) (fun _ q => q.elim) (fun _ _ q => q)
  simpa using this
theorem FreshI.by {w w' : World} {a : Option Addr} {n c : Nat} {xs : List UInt8} (h : FreshI w w' (rowI 5 1 (.slice a n c) n (xs.map B))) : (n ≤ c ∧ c ≤ maxLen) ∧ By w' a n xs := by
  obtain ⟨_, e, ⟨h1, _⟩, _⟩ := h
  obtain ⟨a', m, c', hv, h2, h3, h4⟩ := own_by h1
  injection hv with q1 q2 q3
  subst q1 q2 q3
  exact ⟨⟨h2, h3⟩, h4⟩
theorem Own.rowBy {fr al : Nat → Prop} {w0 w : World} {L : List It} (st : Own fr al w0 L w) {i : Nat} {a : Option Addr} {n c : Nat} {xs : List UInt8} (hi : L[i]? = some (rowI 5 1 (.slice a n c) n (xs.map B))) : (n ≤ c ∧ c ≤ maxLen) ∧ By w a n xs := by
  obtain ⟨a', m, c', hv, h2, h3, h4⟩ := own_by (st.row hi)
  injection hv with q1 q2 q3
  subst q1 q2 q3
  exact ⟨⟨h2, h3⟩, h4⟩
theorem Own.rowFl3 {α : Type} [Flt α] {fr al : Nat → Prop} {w0 w : World} {L : List It} (st : Own fr al w0 L w) {i n c : Nat} {a : Option Addr} {E : TypeId} {xs : List α} (hi : L[i]? = some (rowI E (Flt.k α) (.slice a n c) n (cellsL xs))) : (n ≤ c ∧ c ≤ maxLen) ∧ Fl w a n xs := by
  obtain ⟨a1, c1, hv, hc1, hfl⟩ := st.rowFl hi
  injection hv with hv1 _ hv3
  subst hv1 hv3
  exact ⟨hc1, hfl⟩
set_option maxRecDepth 100000 in
set_option maxHeartbeats 1000000 in
theorem credBytes_f (x : CredT) (W : World) (hl : CredL 100000 x) :
    Calls Try.prog 119 #[cV x] W fun e w' => ∃ a n c, e = .returned (.slice a n c) ∧ FreshI W w' (rowI 5 1 (.slice a n c) n ((credBy x).map B)) := by
  have HR := Lib.hid (fun W => credRight_any x W (by unfold CredL at hl; omega))
  have HE := Lib.hid (show credBy x = if credR x = true then credB x else [] from rfl)
  generalize credBy x = r at *
  cases hr : credR x with
  | false =>
    have H := Lib.hid hr
    obtain ⟨k, ⟨ho, hd⟩, nw, ⟨bo, bd⟩, ⟨co, cd⟩, we⟩ := x
    clear hl hr
    have st := Own.startOld W
    unfold cV S at *
    simp only at HR
    (try simp only [nsl, Value.cells, unB] at st)
    (try clear hc); have hc := st.facts; (try simp only [nfl, nft, Nat.reduceAdd] at hc)
    go_enter Try.func119, Try.ntmps119
    go_wp2_with ((((with_reducible refine wl_box ?_ (fun K hK => ?_)); rfl; refine owp_box (o := ⟨some 1, _, _, _, _, _⟩) rfl st ?_; apply Exists.intro; refine ⟨?_, ?_⟩; (focus (go_simp; try rfl)); (clear st; intro b1 w hb st; clear hb))); (try simp only [nsl, Value.cells, unB] at st); (try clear hc); have hc := st.facts; (try simp only [nfl, nft, Nat.reduceAdd] at hc))
    refine (HR.out _).mono ?_
    rintro en w ⟨rfl, hx⟩
    replace st := st.ext hx
    clear hx
    (try clear hc); have hc := st.facts; (try simp only [nfl, nft, Nat.reduceAdd] at hc)
    rw [H.out]
    go_wp2_with fail
    go_ret
    exact ⟨none, 0, 0, rfl, by rw [HE.out, H.out]; exact (st.row_nil 5 1).toFresh (i := 2) get2⟩
  | true =>
    obtain ⟨hh, hcs⟩ := credR_cases hr
    have H := Lib.hid hr
    obtain ⟨k, ⟨ho, hd⟩, nw, ⟨bo, bd⟩, ⟨co, cd⟩, we⟩ := x
    simp only at hh hcs
    have hb1 := roleB_len hh
    have HH := Lib.hid hh
    clear hl hr hh
    have st := Own.startOld W
    unfold cV S at *
    simp only at HR
    (try simp only [nsl, Value.cells, unB] at st)
    (try clear hc); have hc := st.facts; (try simp only [nfl, nft, Nat.reduceAdd] at hc)
    rcases hcs with ⟨rfl, hw, -, -, -⟩ | ⟨-, hbr, ⟨rfl, -, -⟩ | ⟨rfl, -, -, he⟩ | ⟨rfl, -, hcr, -⟩⟩
    · have hl2 := (nameR_len hw).2
      have hb2 : (numB nw.length).length ≤ 10 := numF_len 10 nw.length
      have hnk : (numB 1).length = 1 := by decide +kernel
      have HW := Lib.hid hw
      clear hw
      go_enter Try.func119, Try.ntmps119
      go_wp2_with ((((with_reducible refine wl_box ?_ (fun K hK => ?_)); rfl; refine owp_box (o := ⟨some 1, _, _, _, _, _⟩) rfl st ?_; apply Exists.intro; refine ⟨?_, ?_⟩; (focus (go_simp; try rfl)); (clear st; intro b1 w hb st; clear hb))); (try simp only [nsl, Value.cells, unB] at st); (try clear hc); have hc := st.facts; (try simp only [nfl, nft, Nat.reduceAdd] at hc))
      refine (HR.out _).mono ?_
      rintro en w ⟨rfl, hx⟩
      replace st := st.ext hx
      clear hx
      (try clear hc); have hc := st.facts; (try simp only [nfl, nft, Nat.reduceAdd] at hc)
      rw [H.out]
      go_wp2_with ((((with_reducible refine wl_box ?_ (fun K hK => ?_)); rfl; refine owp_box (o := ⟨some 8, _, _, _, _, _⟩) rfl st ?_; apply Exists.intro; refine ⟨?_, ?_⟩; (focus (go_simp; try rfl)); (clear st; intro b8 w hb st; clear hb))); (try simp only [nsl, Value.cells, unB] at st); (try clear hc); have hc := st.facts; (try simp only [nfl, nft, Nat.reduceAdd] at hc))
      replace st := st.newPen (i := 2) get2
      (try simp only [nsl, Value.cells, unB] at st)
      (try clear hc); have hc := st.facts; (try simp only [nfl, nft, Nat.reduceAdd] at hc)
      obtain ⟨fr', al', st', back⟩ := st.sub [2] (by decide) (by simp)
      (try simp only [nsl, Value.cells, unB] at st')
      refine (penNumber_c st' 1 (by decide) (by simp)).mono ?_
      clear st'
      rintro en w ⟨rfl, st'⟩
      replace st := back _ _ (by simp) st'
      clear back st'
      (try simp only [nsl, Value.cells, unB] at st)
      (try clear hc); have hc := st.facts; (try simp only [nfl, nft, Nat.reduceAdd] at hc)
      go_wp2_with fail
      (try rw [List.nil_append] at st)
      obtain ⟨fr', al', st', back⟩ := st.sub [2] (by decide) (by simp)
      (try simp only [nsl, Value.cells, unB] at st')
      refine (rolePut_yes st' (ho, hd) HH.out (by omega)).mono ?_
      clear st'
      rintro en w ⟨rfl, st'⟩
      replace st := back _ _ (by simp) st'
      clear back st'
      (try simp only [nsl, Value.cells, unB] at st)
      (try clear hc); have hc := st.facts; (try simp only [nfl, nft, Nat.reduceAdd] at hc)
      go_wp2_with fail
      obtain ⟨fr', al', st', back⟩ := st.sub [2] (by decide) (by simp)
      (try simp only [nsl, Value.cells, unB] at st')
      refine (namePut_yes st' nw HW.out (by simp; omega)).mono ?_
      clear st'
      rintro en w ⟨rfl, st'⟩
      replace st := back _ _ (by simp) st'
      clear back st'
      (try simp only [nsl, Value.cells, unB] at st)
      (try clear hc); have hc := st.facts; (try simp only [nfl, nft, Nat.reduceAdd] at hc)
      obtain ⟨u, hu⟩ : ∃ u, (numB 1 ++ roleB (ho, hd) ++ (numB nw.length ++ nw)) = u := ⟨_, rfl⟩
      rw [hu] at st
      have HU : Hid (r = u) := Lib.hid (by rw [HE.out, if_pos H.out, ← hu]; simp [credB])
      have hul : u.length ≤ 300 := by rw [← hu]; simp; omega
      clear hu
      go_wp2_with fail
      obtain ⟨fr', al', st', back⟩ := st.sub [2] (by decide) (by simp)
      (try simp only [nsl, Value.cells, unB] at st')
      refine (penBytesRow_c st' (by omega)).mono ?_
      clear st'
      rintro en w ⟨pa, pc, rfl, hpc, st'⟩
      replace st := back _ _ (by simp) st'
      clear back st'
      (try simp only [nsl, Value.cells, unB] at st)
      (try clear hc); have hc := st.facts; (try simp only [nfl, nft, Nat.reduceAdd] at hc)
      go_wp2_with fail
      go_ret
      exact ⟨_, _, _, rfl, by rw [HU.out]; exact st.toFresh (i := 3) get3⟩
    · have hb2 := roleB_len hbr
      have HW := Lib.hid hbr
      have hnk : (numB 2).length = 1 := by decide +kernel
      clear hbr
      go_enter Try.func119, Try.ntmps119
      go_wp2_with ((((with_reducible refine wl_box ?_ (fun K hK => ?_)); rfl; refine owp_box (o := ⟨some 1, _, _, _, _, _⟩) rfl st ?_; apply Exists.intro; refine ⟨?_, ?_⟩; (focus (go_simp; try rfl)); (clear st; intro b1 w hb st; clear hb))); (try simp only [nsl, Value.cells, unB] at st); (try clear hc); have hc := st.facts; (try simp only [nfl, nft, Nat.reduceAdd] at hc))
      refine (HR.out _).mono ?_
      rintro en w ⟨rfl, hx⟩
      replace st := st.ext hx
      clear hx
      (try clear hc); have hc := st.facts; (try simp only [nfl, nft, Nat.reduceAdd] at hc)
      rw [H.out]
      go_wp2_with ((((with_reducible refine wl_box ?_ (fun K hK => ?_)); rfl; refine owp_box (o := ⟨some 8, _, _, _, _, _⟩) rfl st ?_; apply Exists.intro; refine ⟨?_, ?_⟩; (focus (go_simp; try rfl)); (clear st; intro b8 w hb st; clear hb))); (try simp only [nsl, Value.cells, unB] at st); (try clear hc); have hc := st.facts; (try simp only [nfl, nft, Nat.reduceAdd] at hc))
      replace st := st.newPen (i := 2) get2
      (try simp only [nsl, Value.cells, unB] at st)
      (try clear hc); have hc := st.facts; (try simp only [nfl, nft, Nat.reduceAdd] at hc)
      obtain ⟨fr', al', st', back⟩ := st.sub [2] (by decide) (by simp)
      (try simp only [nsl, Value.cells, unB] at st')
      refine (penNumber_c st' 2 (by decide) (by simp)).mono ?_
      clear st'
      rintro en w ⟨rfl, st'⟩
      replace st := back _ _ (by simp) st'
      clear back st'
      (try simp only [nsl, Value.cells, unB] at st)
      (try clear hc); have hc := st.facts; (try simp only [nfl, nft, Nat.reduceAdd] at hc)
      go_wp2_with fail
      (try rw [List.nil_append] at st)
      obtain ⟨fr', al', st', back⟩ := st.sub [2] (by decide) (by simp)
      (try simp only [nsl, Value.cells, unB] at st')
      refine (rolePut_yes st' (ho, hd) HH.out (by omega)).mono ?_
      clear st'
      rintro en w ⟨rfl, st'⟩
      replace st := back _ _ (by simp) st'
      clear back st'
      (try simp only [nsl, Value.cells, unB] at st)
      (try clear hc); have hc := st.facts; (try simp only [nfl, nft, Nat.reduceAdd] at hc)
      go_wp2_with fail
      obtain ⟨fr', al', st', back⟩ := st.sub [2] (by decide) (by simp)
      (try simp only [nsl, Value.cells, unB] at st')
      refine (rolePut_yes st' (bo, bd) HW.out (by simp; omega)).mono ?_
      clear st'
      rintro en w ⟨rfl, st'⟩
      replace st := back _ _ (by simp) st'
      clear back st'
      (try simp only [nsl, Value.cells, unB] at st)
      (try clear hc); have hc := st.facts; (try simp only [nfl, nft, Nat.reduceAdd] at hc)
      obtain ⟨u, hu⟩ : ∃ u, (numB 2 ++ roleB (ho, hd) ++ roleB (bo, bd)) = u := ⟨_, rfl⟩
      rw [hu] at st
      have HU : Hid (r = u) := Lib.hid (by rw [HE.out, if_pos H.out, ← hu]; simp [credB])
      have hul : u.length ≤ 300 := by rw [← hu]; simp; omega
      clear hu
      go_wp2_with fail
      obtain ⟨fr', al', st', back⟩ := st.sub [2] (by decide) (by simp)
      (try simp only [nsl, Value.cells, unB] at st')
      refine (penBytesRow_c st' (by omega)).mono ?_
      clear st'
      rintro en w ⟨pa, pc, rfl, hpc, st'⟩
      replace st := back _ _ (by simp) st'
      clear back st'
      (try simp only [nsl, Value.cells, unB] at st)
      (try clear hc); have hc := st.facts; (try simp only [nfl, nft, Nat.reduceAdd] at hc)
      go_wp2_with fail
      go_ret
      exact ⟨_, _, _, rfl, by rw [HU.out]; exact st.toFresh (i := 3) get3⟩
    · have hb2 := roleB_len hbr
      have HW := Lib.hid hbr
      have HN := Lib.hid he
      have hl2 := (nameR_len he).2
      have hb3 : (numB we.length).length ≤ 10 := numF_len 10 we.length
      have hnk : (numB 3).length = 1 := by decide +kernel
      clear hbr he
      go_enter Try.func119, Try.ntmps119
      go_wp2_with ((((with_reducible refine wl_box ?_ (fun K hK => ?_)); rfl; refine owp_box (o := ⟨some 1, _, _, _, _, _⟩) rfl st ?_; apply Exists.intro; refine ⟨?_, ?_⟩; (focus (go_simp; try rfl)); (clear st; intro b1 w hb st; clear hb))); (try simp only [nsl, Value.cells, unB] at st); (try clear hc); have hc := st.facts; (try simp only [nfl, nft, Nat.reduceAdd] at hc))
      refine (HR.out _).mono ?_
      rintro en w ⟨rfl, hx⟩
      replace st := st.ext hx
      clear hx
      (try clear hc); have hc := st.facts; (try simp only [nfl, nft, Nat.reduceAdd] at hc)
      rw [H.out]
      go_wp2_with ((((with_reducible refine wl_box ?_ (fun K hK => ?_)); rfl; refine owp_box (o := ⟨some 8, _, _, _, _, _⟩) rfl st ?_; apply Exists.intro; refine ⟨?_, ?_⟩; (focus (go_simp; try rfl)); (clear st; intro b8 w hb st; clear hb))); (try simp only [nsl, Value.cells, unB] at st); (try clear hc); have hc := st.facts; (try simp only [nfl, nft, Nat.reduceAdd] at hc))
      replace st := st.newPen (i := 2) get2
      (try simp only [nsl, Value.cells, unB] at st)
      (try clear hc); have hc := st.facts; (try simp only [nfl, nft, Nat.reduceAdd] at hc)
      obtain ⟨fr', al', st', back⟩ := st.sub [2] (by decide) (by simp)
      (try simp only [nsl, Value.cells, unB] at st')
      refine (penNumber_c st' 3 (by decide) (by simp)).mono ?_
      clear st'
      rintro en w ⟨rfl, st'⟩
      replace st := back _ _ (by simp) st'
      clear back st'
      (try simp only [nsl, Value.cells, unB] at st)
      (try clear hc); have hc := st.facts; (try simp only [nfl, nft, Nat.reduceAdd] at hc)
      go_wp2_with fail
      (try rw [List.nil_append] at st)
      obtain ⟨fr', al', st', back⟩ := st.sub [2] (by decide) (by simp)
      (try simp only [nsl, Value.cells, unB] at st')
      refine (rolePut_yes st' (ho, hd) HH.out (by omega)).mono ?_
      clear st'
      rintro en w ⟨rfl, st'⟩
      replace st := back _ _ (by simp) st'
      clear back st'
      (try simp only [nsl, Value.cells, unB] at st)
      (try clear hc); have hc := st.facts; (try simp only [nfl, nft, Nat.reduceAdd] at hc)
      go_wp2_with fail
      obtain ⟨fr', al', st', back⟩ := st.sub [2] (by decide) (by simp)
      (try simp only [nsl, Value.cells, unB] at st')
      refine (rolePut_yes st' (bo, bd) HW.out (by simp; omega)).mono ?_
      clear st'
      rintro en w ⟨rfl, st'⟩
      replace st := back _ _ (by simp) st'
      clear back st'
      (try simp only [nsl, Value.cells, unB] at st)
      (try clear hc); have hc := st.facts; (try simp only [nfl, nft, Nat.reduceAdd] at hc)
      go_wp2_with fail
      obtain ⟨fr', al', st', back⟩ := st.sub [2] (by decide) (by simp)
      (try simp only [nsl, Value.cells, unB] at st')
      refine (namePut_yes st' we HN.out (by simp; omega)).mono ?_
      clear st'
      rintro en w ⟨rfl, st'⟩
      replace st := back _ _ (by simp) st'
      clear back st'
      (try simp only [nsl, Value.cells, unB] at st)
      (try clear hc); have hc := st.facts; (try simp only [nfl, nft, Nat.reduceAdd] at hc)
      obtain ⟨u, hu⟩ : ∃ u, (numB 3 ++ roleB (ho, hd) ++ roleB (bo, bd) ++ (numB we.length ++ we)) = u := ⟨_, rfl⟩
      rw [hu] at st
      have HU : Hid (r = u) := Lib.hid (by rw [HE.out, if_pos H.out, ← hu]; simp [credB])
      have hul : u.length ≤ 300 := by rw [← hu]; simp; omega
      clear hu
      go_wp2_with fail
      obtain ⟨fr', al', st', back⟩ := st.sub [2] (by decide) (by simp)
      (try simp only [nsl, Value.cells, unB] at st')
      refine (penBytesRow_c st' (by omega)).mono ?_
      clear st'
      rintro en w ⟨pa, pc, rfl, hpc, st'⟩
      replace st := back _ _ (by simp) st'
      clear back st'
      (try simp only [nsl, Value.cells, unB] at st)
      (try clear hc); have hc := st.facts; (try simp only [nfl, nft, Nat.reduceAdd] at hc)
      go_wp2_with fail
      go_ret
      exact ⟨_, _, _, rfl, by rw [HU.out]; exact st.toFresh (i := 3) get3⟩
    · have hb2 := roleB_len hbr
      have hb3 := roleB_len hcr
      have HW := Lib.hid hbr
      have HN := Lib.hid hcr
      have hnk : (numB 4).length = 1 := by decide +kernel
      clear hbr hcr
      go_enter Try.func119, Try.ntmps119
      go_wp2_with ((((with_reducible refine wl_box ?_ (fun K hK => ?_)); rfl; refine owp_box (o := ⟨some 1, _, _, _, _, _⟩) rfl st ?_; apply Exists.intro; refine ⟨?_, ?_⟩; (focus (go_simp; try rfl)); (clear st; intro b1 w hb st; clear hb))); (try simp only [nsl, Value.cells, unB] at st); (try clear hc); have hc := st.facts; (try simp only [nfl, nft, Nat.reduceAdd] at hc))
      refine (HR.out _).mono ?_
      rintro en w ⟨rfl, hx⟩
      replace st := st.ext hx
      clear hx
      (try clear hc); have hc := st.facts; (try simp only [nfl, nft, Nat.reduceAdd] at hc)
      rw [H.out]
      go_wp2_with ((((with_reducible refine wl_box ?_ (fun K hK => ?_)); rfl; refine owp_box (o := ⟨some 8, _, _, _, _, _⟩) rfl st ?_; apply Exists.intro; refine ⟨?_, ?_⟩; (focus (go_simp; try rfl)); (clear st; intro b8 w hb st; clear hb))); (try simp only [nsl, Value.cells, unB] at st); (try clear hc); have hc := st.facts; (try simp only [nfl, nft, Nat.reduceAdd] at hc))
      replace st := st.newPen (i := 2) get2
      (try simp only [nsl, Value.cells, unB] at st)
      (try clear hc); have hc := st.facts; (try simp only [nfl, nft, Nat.reduceAdd] at hc)
      obtain ⟨fr', al', st', back⟩ := st.sub [2] (by decide) (by simp)
      (try simp only [nsl, Value.cells, unB] at st')
      refine (penNumber_c st' 4 (by decide) (by simp)).mono ?_
      clear st'
      rintro en w ⟨rfl, st'⟩
      replace st := back _ _ (by simp) st'
      clear back st'
      (try simp only [nsl, Value.cells, unB] at st)
      (try clear hc); have hc := st.facts; (try simp only [nfl, nft, Nat.reduceAdd] at hc)
      go_wp2_with fail
      (try rw [List.nil_append] at st)
      obtain ⟨fr', al', st', back⟩ := st.sub [2] (by decide) (by simp)
      (try simp only [nsl, Value.cells, unB] at st')
      refine (rolePut_yes st' (ho, hd) HH.out (by omega)).mono ?_
      clear st'
      rintro en w ⟨rfl, st'⟩
      replace st := back _ _ (by simp) st'
      clear back st'
      (try simp only [nsl, Value.cells, unB] at st)
      (try clear hc); have hc := st.facts; (try simp only [nfl, nft, Nat.reduceAdd] at hc)
      go_wp2_with fail
      obtain ⟨fr', al', st', back⟩ := st.sub [2] (by decide) (by simp)
      (try simp only [nsl, Value.cells, unB] at st')
      refine (rolePut_yes st' (bo, bd) HW.out (by simp; omega)).mono ?_
      clear st'
      rintro en w ⟨rfl, st'⟩
      replace st := back _ _ (by simp) st'
      clear back st'
      (try simp only [nsl, Value.cells, unB] at st)
      (try clear hc); have hc := st.facts; (try simp only [nfl, nft, Nat.reduceAdd] at hc)
      go_wp2_with fail
      obtain ⟨fr', al', st', back⟩ := st.sub [2] (by decide) (by simp)
      (try simp only [nsl, Value.cells, unB] at st')
      refine (rolePut_yes st' (co, cd) HN.out (by simp; omega)).mono ?_
      clear st'
      rintro en w ⟨rfl, st'⟩
      replace st := back _ _ (by simp) st'
      clear back st'
      (try simp only [nsl, Value.cells, unB] at st)
      (try clear hc); have hc := st.facts; (try simp only [nfl, nft, Nat.reduceAdd] at hc)
      obtain ⟨u, hu⟩ : ∃ u, (numB 4 ++ roleB (ho, hd) ++ roleB (bo, bd) ++ roleB (co, cd)) = u := ⟨_, rfl⟩
      rw [hu] at st
      have HU : Hid (r = u) := Lib.hid (by rw [HE.out, if_pos H.out, ← hu]; simp [credB])
      have hul : u.length ≤ 300 := by rw [← hu]; simp; omega
      clear hu
      go_wp2_with fail
      obtain ⟨fr', al', st', back⟩ := st.sub [2] (by decide) (by simp)
      (try simp only [nsl, Value.cells, unB] at st')
      refine (penBytesRow_c st' (by omega)).mono ?_
      clear st'
      rintro en w ⟨pa, pc, rfl, hpc, st'⟩
      replace st := back _ _ (by simp) st'
      clear back st'
      (try simp only [nsl, Value.cells, unB] at st)
      (try clear hc); have hc := st.facts; (try simp only [nfl, nft, Nat.reduceAdd] at hc)
      go_wp2_with fail
      go_ret
      exact ⟨_, _, _, rfl, by rw [HU.out]; exact st.toFresh (i := 3) get3⟩
end Go.Proofs.Ytekngjkjgmplpaa

namespace Go.Proofs.Ytekngjkjgmplpaa
set_option linter.unusedSimpArgs false
set_option linter.unusedVariables false
open Go Go.RowKit
theorem rdCred_puts {x : CredT} (h : credR x = true) (zs : List UInt8) : rdCred (credB x ++ zs) = .ok (x, zs) := by
  obtain ⟨h1, hc⟩ := credR_cases h
  obtain ⟨k, hh, w, b, c, e⟩ := x
  simp only at h1 hc
  have hn : ∀ (k : Nat) (ys : List UInt8), k ≤ 4 → rdNumber 9223372036854775807 (numB k ++ ys) = .ok (k, ys) := fun k ys hk => rdNumber_put 9223372036854775807 k ys (by omega) (by decide)
  rcases hc with ⟨rfl, q1, rfl, rfl, rfl⟩ | ⟨rfl, q2, ⟨rfl, rfl, rfl⟩ | ⟨rfl, rfl, _, q5⟩ | ⟨rfl, rfl, q5, _⟩⟩
  · have e0 : credB ⟨1, hh, w, nR, nR, []⟩ ++ zs = numB 1 ++ (roleB hh ++ (numB w.length ++ w ++ zs)) := by simp [credB]
    unfold rdCred
    rw [e0, hn 1 _ (by decide), bd_ok, if_neg (by decide), rdRole_puts hh _ h1, bd_ok, if_pos rfl, rdName_put w zs q1, bd_ok, okCr, if_pos h]
  · have e0 : credB ⟨2, hh, [], b, nR, []⟩ ++ zs = numB 2 ++ (roleB hh ++ (roleB b ++ zs)) := by simp [credB]
    unfold rdCred
    rw [e0, hn 2 _ (by decide), bd_ok, if_neg (by decide), rdRole_puts hh _ h1, bd_ok, if_neg (by decide), rdRole_puts b _ q2, bd_ok, if_pos rfl, okCr, if_pos h]
  · have e0 : credB ⟨3, hh, [], b, nR, e⟩ ++ zs = numB 3 ++ (roleB hh ++ (roleB b ++ (numB e.length ++ e ++ zs))) := by simp [credB]
    unfold rdCred
    rw [e0, hn 3 _ (by decide), bd_ok, if_neg (by decide), rdRole_puts hh _ h1, bd_ok, if_neg (by decide), rdRole_puts b _ q2, bd_ok, if_neg (by decide), if_pos rfl, rdName_put e zs q5, bd_ok, okCr, if_pos h]
  · have e0 : credB ⟨4, hh, [], b, c, []⟩ ++ zs = numB 4 ++ (roleB hh ++ (roleB b ++ (roleB c ++ zs))) := by simp [credB]
    unfold rdCred
    rw [e0, hn 4 _ (by decide), bd_ok, if_neg (by decide), rdRole_puts hh _ h1, bd_ok, if_neg (by decide), rdRole_puts b _ q2, bd_ok, if_neg (by decide), if_neg (by decide), rdRole_puts c _ q5, bd_ok, okCr, if_pos h]
def stepBy (x : StepT) : List UInt8 := credB x.c ++ (numB x.f.w.length ++ x.f.w)
def chainOk (l : List StepT) : Bool := decide (l.length ≤ 256) && l.all stepR
def chainB (l : List StepT) : List UInt8 := numB l.length ++ l.flatMap stepBy
/-- The bytes of any chain. -/
def chainBy (l : List StepT) : List UInt8 := if chainOk l = true then chainB l else []
def rdStep (xs : List UInt8) : Except Int (StepT × List UInt8) := bd (rdCred xs) fun c ys => bd (rdName ys) fun w zs => .ok (⟨c, ⟨c.h, w⟩⟩, zs)
/-- The chain that any bytes are. -/
def rdSteps (most : Int) (xs : List UInt8) : Except Int (List StepT × List UInt8) := bd (rdNumber most xs) fun n ys => rdN rdStep n ys
theorem roleEq_is (a b : Role) : roleEq a b = true ↔ a = b := by unfold roleEq; simp
theorem stepR_is {x : StepT} (h : stepR x = true) : credR x.c = true ∧ x.f.r = x.c.h ∧ nameR x.f.w = true := by
  unfold stepR at h
  rw [Bool.and_eq_true, Bool.and_eq_true, roleEq_is] at h
  exact ⟨h.1.1, h.1.2, h.2⟩
theorem credB_len2 {x : CredT} (h : credR x = true) : (credB x).length ≤ 300 := by
  obtain ⟨hh, hc⟩ := credR_cases h
  obtain ⟨k, hd, nw, b, c, e⟩ := x
  simp only at hh hc
  have b1 := roleB_len hh
  rcases hc with ⟨rfl, hw, -, -, -⟩ | ⟨-, hbr, ⟨rfl, -, -⟩ | ⟨rfl, -, -, he⟩ | ⟨rfl, -, hcr, -⟩⟩
  · have := (nameR_len hw).2
    have : (numB nw.length).length ≤ 10 := numF_len 10 nw.length
    have : (numB 1).length = 1 := by decide +kernel
    simp [credB]; omega
  · have := roleB_len hbr
    have : (numB 2).length = 1 := by decide +kernel
    simp [credB]; omega
  · have := roleB_len hbr
    have := (nameR_len he).2
    have : (numB e.length).length ≤ 10 := numF_len 10 e.length
    have : (numB 3).length = 1 := by decide +kernel
    simp [credB]; omega
  · have := roleB_len hbr
    have := roleB_len hcr
    have : (numB 4).length = 1 := by decide +kernel
    simp [credB]; omega
theorem stepBy_len {x : StepT} (h : stepR x = true) : (stepBy x).length ≤ 400 := by
  obtain ⟨h1, _, h3⟩ := stepR_is h
  have := credB_len2 h1
  have := (nameR_len h3).2
  have : (numB x.f.w.length).length ≤ 10 := numF_len 10 x.f.w.length
  unfold stepBy
  simp only [List.length_append]
  omega
theorem steps_len : ∀ (l : List StepT), (∀ x ∈ l, stepR x = true) → (l.flatMap stepBy).length ≤ 400 * l.length
  | [], _ => by simp
  | x :: l, h => by
    have h1 := stepBy_len (h x (by simp))
    have h2 := steps_len l fun y hy => h y (by simp [hy])
    simp only [List.flatMap_cons, List.length_append, List.length_cons]
    omega
theorem chainOk_is {l : List StepT} (h : chainOk l = true) : l.length ≤ 256 ∧ ∀ x ∈ l, stepR x = true := by
  unfold chainOk at h
  rw [Bool.and_eq_true, decide_eq_true_eq, List.all_eq_true] at h
  exact h
theorem chainB_len {l : List StepT} (h : chainOk l = true) : (chainB l).length ≤ 110000 := by
  obtain ⟨h1, h2⟩ := chainOk_is h
  have := steps_len l h2
  have : (numB l.length).length ≤ 10 := numF_len 10 l.length
  unfold chainB
  simp only [List.length_append]
  omega
theorem numB_ne (n : Nat) : numB n ≠ [] := by
  intro h
  unfold numB at h
  rw [show (10 : Nat) = 9 + 1 from rfl] at h
  simp only [numF] at h
  split at h <;> simp at h
theorem chainB_ne (l : List StepT) : chainB l ≠ [] := by
  unfold chainB
  intro h
  exact numB_ne _ (List.append_eq_nil_iff.1 h).1
theorem rdStep_put {x : StepT} (h : stepR x = true) (ys : List UInt8) : rdStep (stepBy x ++ ys) = .ok (x, ys) := by
  obtain ⟨h1, h2, h3⟩ := stepR_is h
  unfold rdStep stepBy
  rw [List.append_assoc, rdCred_puts h1, bd_ok, rdName_put _ _ h3, bd_ok]
  obtain ⟨c, ⟨r, w⟩⟩ := x
  simp only at h2
  rw [h2]
theorem rdSteps_put {l : List StepT} (h : chainOk l = true) (most : Nat) (hm : l.length ≤ most) (hmm : most < 9223372036854775808) : rdSteps (most : Int) (chainB l) = .ok (l, []) := by
  obtain ⟨h1, h2⟩ := chainOk_is h
  unfold rdSteps chainB
  rw [rdNumber_put most l.length _ hm hmm, bd_ok]
  have := rdN_put rdStep stepBy l [] fun x hx ys => rdStep_put (h2 x hx) ys
  rwa [List.append_nil] at this
theorem rdCred_le {xs ys : List UInt8} {x : CredT} (h : rdCred xs = .ok (x, ys)) : ys.length ≤ xs.length ∧ credR x = true := by
  have fin : ∀ {c us}, okCr c us = .ok (x, ys) → us = ys ∧ credR x = true := fun {c us} h => by
    unfold okCr at h; split at h
    · cases h; exact ⟨rfl, by assumption⟩
    · cases h
  unfold rdCred at h
  cases h0 : rdNumber 9223372036854775807 xs with
  | error e0 => rw [h0, bd_er] at h; cases h
  | ok p =>
    obtain ⟨n, us⟩ := p
    have l0 := rdNumber_le h0
    rw [h0, bd_ok] at h
    split at h
    · cases h
    · cases h1 : rdRole us with
      | error e0 => rw [h1, bd_er] at h; cases h
      | ok p =>
        obtain ⟨hh, zs⟩ := p
        have l1 := (rdRole_le h1).1
        rw [h1, bd_ok] at h
        split at h
        · cases h2 : rdName zs with
          | error e0 => rw [h2, bd_er] at h; cases h
          | ok p => obtain ⟨w, vs⟩ := p; have l2 := (rdName_le h2).1; rw [h2, bd_ok] at h; obtain ⟨rfl, q⟩ := fin h; exact ⟨by omega, q⟩
        · cases h2 : rdRole zs with
          | error e0 => rw [h2, bd_er] at h; cases h
          | ok p =>
            obtain ⟨b, vs⟩ := p
            have l2 := (rdRole_le h2).1
            rw [h2, bd_ok] at h
            split at h
            · obtain ⟨rfl, q⟩ := fin h; exact ⟨by omega, q⟩
            · split at h
              · cases h3 : rdName vs with
                | error e0 => rw [h3, bd_er] at h; cases h
                | ok p => obtain ⟨w, ts⟩ := p; have l3 := (rdName_le h3).1; rw [h3, bd_ok] at h; obtain ⟨rfl, q⟩ := fin h; exact ⟨by omega, q⟩
              · cases h3 : rdRole vs with
                | error e0 => rw [h3, bd_er] at h; cases h
                | ok p => obtain ⟨w, ts⟩ := p; have l3 := (rdRole_le h3).1; rw [h3, bd_ok] at h; obtain ⟨rfl, q⟩ := fin h; exact ⟨by omega, q⟩
theorem rdNumber_leM {most : Int} {xs ys : List UInt8} {n : Nat} (hr : rdNumber most xs = .ok (n, ys)) : ys.length ≤ xs.length ∧ (n : Int) ≤ most := by
  unfold rdNumber at hr
  cases h : rdNum xs with
  | error e => rw [h] at hr; simp at hr
  | ok p =>
    obtain ⟨m, zs⟩ := p
    rw [h] at hr
    simp only at hr
    have := rdNum_lt h
    split at hr
    · simp at hr
    · simp at hr; obtain ⟨rfl, rfl⟩ := hr; omega
theorem rdStep_le {xs ys : List UInt8} {x : StepT} (h : rdStep xs = .ok (x, ys)) : ys.length ≤ xs.length := by
  unfold rdStep at h
  cases h1 : rdCred xs with
  | error e => rw [h1, bd_er] at h; cases h
  | ok p =>
    obtain ⟨c, us⟩ := p
    have l1 := (rdCred_le h1).1
    rw [h1, bd_ok] at h
    cases h2 : rdName us with
    | error e => rw [h2, bd_er] at h; cases h
    | ok p => obtain ⟨w, vs⟩ := p; have l2 := (rdName_le h2).1; rw [h2, bd_ok] at h; cases h; omega
theorem rdStep_er {xs : List UInt8} {e : Int} (h : rdStep xs = .error e) : e ≠ 0 := by
  unfold rdStep at h
  cases h1 : rdCred xs with
  | error e => rw [h1, bd_er] at h; cases h; exact rdCred_er h1
  | ok p =>
    obtain ⟨c, us⟩ := p
    rw [h1, bd_ok] at h
    cases h2 : rdName us with
    | error e => rw [h2, bd_er] at h; cases h; exact rdName_er h2
    | ok p => obtain ⟨w, vs⟩ := p; rw [h2, bd_ok] at h; cases h
theorem rdSteps_er {most : Int} {xs : List UInt8} {e : Int} (h : rdSteps most xs = .error e) : e ≠ 0 := by
  unfold rdSteps at h
  cases h1 : rdNumber most xs with
  | error e => rw [h1, bd_er] at h; cases h; exact rdNumber_er h1
  | ok p =>
    obtain ⟨n, us⟩ := p
    rw [h1, bd_ok] at h
    exact rdN_er rdStep (fun _ _ => rdStep_er) h
end Go.Proofs.Ytekngjkjgmplpaa

namespace Go.Proofs.Ytekngjkjgmplpaa
set_option linter.unusedSimpArgs false
set_option linter.unusedVariables false
open Go Go.RowKit
theorem credR_L {x : CredT} (h : credR x = true) : CredL 100000 x := by
  obtain ⟨h1, hc⟩ := credR_cases h
  have a1 := roleR_len h1
  obtain ⟨k, hh, w, b, c, e⟩ := x
  simp only at h1 hc a1
  unfold CredL
  rcases hc with ⟨rfl, q1, rfl, rfl, rfl⟩ | ⟨rfl, q2, ⟨rfl, rfl, rfl⟩ | ⟨rfl, rfl, _, q5⟩ | ⟨rfl, rfl, q5, _⟩⟩
  · have := nameR_len q1
    simp only [nR, List.length_nil]; omega
  · have := roleR_len q2
    simp only [nR, List.length_nil]; omega
  · have := roleR_len q2
    have := nameR_len q5
    simp only [nR, List.length_nil]; omega
  · have := roleR_len q2
    have := roleR_len q5
    simp only [List.length_nil]; omega
theorem credR_S {x : CredT} (h : credR x = true) : CLenS x := by
  have := credR_L h
  unfold CredL at this
  unfold CLenS
  omega
def StL (x : StepT) : Prop := CLenS x.c ∧ x.f.w.length ≤ 100000
theorem stepR_L {x : StepT} (h : stepR x = true) : StL x := ⟨credR_S (stepR_is h).1, by have := nameR_len (stepR_is h).2.2; omega⟩
theorem putAny {a : Option Addr} {n c : Nat} {l : List StepT} (hn : n ≤ 2000000) (hl : ∀ x ∈ l, StL x) (W : World) (h : Fl W a n l) :
    Calls Try.prog 114 #[.slice a n c, .func (.func 115) #[] #[]] W fun e w' => e = .returned (.bool (l.any fun x => !stepR x)) ∧ Ext W w' :=
  stepContainsFunc_any a n c l W h hn 115 #[] (fun x => !stepR x) (fun _ _ => by kernel_rfl) (fun x hx w _ => chkPut1_any x w (hl x hx).1 (hl x hx).2)
theorem anyR {l : List StepT} (h : ∀ x ∈ l, stepR x = true) : (l.any fun x => !stepR x) = false := List.any_eq_false.2 fun x hx => by simp [h x hx]
set_option maxRecDepth 100000 in
set_option maxHeartbeats 4000000 in
theorem chkPut_yes {fr al : Nat → Prop} {W : World} {p : Nat} {xs : List UInt8} {a : Option Addr} {n c : Nat} {l : List StepT} (st : Own fr al W [penI p xs, flI a n l] W) (hr : chainOk l = true) (hl : xs.length ≤ 1000000) :
    Calls Try.prog 44 #[.pointer (some ⟨p, 0, none⟩), .slice a n c] W fun e w' => e = .returned (.bool true) ∧ Own fr al W [penI p (xs ++ chainB l), flI a n l] w' := by
  obtain ⟨h1, h2⟩ := chainOk_is hr
  have hn : n = l.length := (st.flAt (i := 1) get1).1
  have hnl : n ≤ 256 := by omega
  have HCF := Lib.hid (fun W' h => putAny (a := a) (n := n) (c := c) (l := l) (by omega) (fun x hx => stepR_L (h2 x hx)) W' h)
  rw [anyR h2] at HCF
  have HA := Lib.hid (And.intro h2 hn)
  have HCB : Hid (chainB l = numB l.length ++ l.flatMap stepBy) := Lib.hid rfl
  have hb0 : (numB n).length ≤ 10 := numF_len 10 n
  clear hr h1 h2 hn
  (try simp only [nsl, Value.cells, unB] at st)
  (try clear hc); have hc := st.facts; (try simp only [nfl, nft, Nat.reduceAdd] at hc)
  go_enter Try.func44, Try.ntmps44
  go_wp2_with fail
  refine (HCF.out _ (st.flAt (i := 1) get1)).mono ?_
  rintro en w ⟨rfl, hx⟩
  replace st := st.ext hx
  clear hx
  go_wp2_with fail
  obtain ⟨fr', al', st', back⟩ := st.sub [0] (by decide) (by simp)
  (try simp only [nsl, Value.cells, unB] at st')
  refine (penNumber_c st' n (by omega) (by omega)).mono ?_
  clear st'
  rintro en w ⟨rfl, st'⟩
  replace st := back _ _ (by simp) st'
  clear back st'
  (try simp only [nsl, Value.cells, unB] at st)
  (try clear hc); have hc := st.facts; (try simp only [nfl, nft, Nat.reduceAdd] at hc)
  have hl0 : (xs ++ numB n).length ≤ 1000010 := by simp; omega
  obtain ⟨ys0, hy0⟩ : ∃ ys, xs ++ numB n = ys := ⟨_, rfl⟩
  rw [hy0] at st hl0
  have HY0 := Lib.hid hy0
  clear hy0
  go_wp2_with fail
  go_loopg [24] n (fun k i wr => ∃ (j m : Nat) (ys : List UInt8), j ≤ n ∧ k = n - j ∧ i = .int .i64 (j : Int) ∧ Hid (ys = ys0 ++ (l.take j).flatMap stepBy) ∧ Hid (m = ys.length) ∧ m ≤ 1000010 + 400 * j ∧ Own fr al W [penI p ys, flI a n l] wr)
  case atStart => exact ⟨0, _, ys0, by omega, by omega, rfl, Lib.hid (by simp), Lib.hid rfl, by omega, st⟩
  case round =>
    obtain ⟨j, m, ys, hj, rfl, rfl, HY, HM, hm, st'⟩ := hrel
    clear st hc
    have st := st'
    clear st'
    (try simp only [nsl, Value.cells, unB] at st)
    (try clear hc); have hc := st.facts; (try simp only [nfl, nft, Nat.reduceAdd] at hc)
    by_cases hjn : j < n
    · obtain ⟨b, off, ha, hcell⟩ := (st.flAt (i := 1) get1).step (by omega)
      have hjl : j < l.length := by have := HA.out.2; omega
      obtain ⟨r0, r1, r2, r3, r4, r5, r6, r7, r8, r9, r10, r11⟩ := hcell j l[j] (List.getElem?_eq_getElem hjl)
      have hts : l.take (j + 1) = l.take j ++ [l[j]] := (List.take_append_getElem hjl).symm
      have hR := HA.out.1 l[j] (List.getElem_mem hjl)
      clear hcell
      generalize l[j] = x at *
      obtain ⟨k1, k2, k3⟩ := stepR_is hR
      have hl3 := nameR_len k3
      have hb1 := credB_len2 k1
      have HC1 : Hid (credBy x.c = credB x.c) := Lib.hid (by unfold credBy; rw [if_pos k1])
      have HQ := Lib.hid (fun W => credBytes_f x.c W (credR_L k1))
      rw [HC1.out] at HQ
      have HX := Lib.hid (And.intro hts (show stepBy x = credB x.c ++ (numB x.f.w.length ++ x.f.w) from rfl))
      have HK3 := Lib.hid k3
      have hb3 : (numB x.f.w.length).length ≤ 10 := numF_len 10 x.f.w.length
      obtain ⟨u, hu⟩ : ∃ u, credB x.c = u := ⟨_, rfl⟩
      rw [hu] at HQ HX hb1
      clear hts k1 k2 k3 hR hjl hu HC1
      obtain ⟨⟨ck, ⟨ho, hd⟩, cw, ⟨bo, bd⟩, ⟨co, cd⟩, we⟩, ⟨⟨ro, rd⟩, fw⟩⟩ := x
      subst ha
      simp only at r0 r1 r2 r3 r4 r5 r6 r7 r8 r9 r10 r11 hl3 HK3 hb3
      unfold S at r1 r2 r3 r4 r5 r6 r7 r8 r9 r10 r11
      unfold cV S at HQ
      simp only at HQ
      go_wp2_with ((first
            | ((with_reducible refine wl_alloc ?_ (fun K hK => ?_)); rfl; refine owp_alloc (o := ⟨some 6, _, _, _, _, _⟩) rfl st ?_; apply Exists.intro; apply Exists.intro; refine ⟨?_, ?_⟩; (focus (first | (go_simp; done) | (go_simp; rfl))); (clear st; intro b6 w hb st; clear hb))
            | ((with_reducible refine wl_store ?_ (fun K hK => ?_)); rfl; refine owp_store rfl st ?_; apply Exists.intro; apply Exists.intro; refine ⟨?_, ?_, ?_⟩; (focus (go_simp; try rfl)); (focus (go_simp; try rfl)); (with_reducible refine ⟨2, _, _, _, _, get2, rfl, rfl, ?_, ?_, ?_, ?_⟩); (kernel_rfl); (simp [Value.cells]); (rfl); (clear st; intro w st))); (try simp only [nsl, Value.cells, unB] at st); (try clear hc); have hc := st.facts; (try simp only [nfl, nft, Nat.reduceAdd] at hc))
      refine (HQ.out _).mono ?_
      rintro en w ⟨pa, pn, pc, rfl, hfr⟩
      have hpn : pn = u.length := (hfr.by).2.1
      subst hpn
      replace st := st.fresh hfr
      clear hfr
      (try simp only [nsl, Value.cells, unB] at st)
      (try clear hc); have hc := st.facts; (try simp only [nfl, nft, Nat.reduceAdd] at hc)
      replace st := st.freezeRow (i := 3) get3
      (try simp only [nsl, Value.cells, unB] at st)
      (try clear hc); have hc := st.facts; (try simp only [nfl, nft, Nat.reduceAdd] at hc)
      have hml : ys.length ≤ 1000010 + 400 * j := by have := HM.out; omega
      go_wp2_with fail
      obtain ⟨fr', al', st', back⟩ := st.sub [0, 3] (by decide) (by simp)
      (try simp only [nsl, Value.cells, unB] at st')
      refine (penRaw_c st' (by omega)).mono ?_
      clear st'
      rintro en w ⟨rfl, st'⟩
      replace st := back _ _ (by simp) st'
      clear back st'
      (try simp only [nsl, Value.cells, unB] at st)
      (try clear hc); have hc := st.facts; (try simp only [nfl, nft, Nat.reduceAdd] at hc)
      go_wp2_with fail
      obtain ⟨fr', al', st', back⟩ := st.sub [0] (by decide) (by simp)
      (try simp only [nsl, Value.cells, unB] at st')
      refine (namePut_yes st' fw HK3.out (by simp; omega)).mono ?_
      clear st'
      rintro en w ⟨rfl, st'⟩
      replace st := back _ _ (by simp) st'
      clear back st'
      (try simp only [nsl, Value.cells, unB] at st)
      (try clear hc); have hc := st.facts; (try simp only [nfl, nft, Nat.reduceAdd] at hc)
      go_wp2_with fail
      have st' := st.keep [0, 1] (by decide) (by simp)
      go_roundg (n - (j + 1))
      case measure => omega
      case rel => exact ⟨j + 1, _, ys ++ u ++ (numB fw.length ++ fw), by omega, by omega, by go_num, Lib.hid (by rw [HX.out.1, List.flatMap_append, ← List.append_assoc ys0, ← HY.out]; simp [HX.out.2]), Lib.hid rfl, by simp; omega, by simpa [pick] using st'⟩
    · obtain rfl : j = n := by omega
      have HF : Hid (ys = xs ++ chainB l) := Lib.hid (by rw [HY.out, HCB.out, ← HY0.out, List.take_of_length_le (by have := HA.out.2; omega), HA.out.2]; simp)
      rw [HF.out] at st
      go_wp2_with fail
      go_ret
      exact ⟨rfl, st⟩
set_option maxRecDepth 100000 in
set_option maxHeartbeats 2000000 in
theorem chkPut_no (p : Option Addr) (a : Option Addr) (n c : Nat) (l : List StepT) (W : World) (hf : Fl W a n l) (hn : n ≤ 2000000) (hl : ∀ x ∈ l, StL x) (h : p = none ∨ chainOk l = false) :
    Calls Try.prog 44 #[.pointer p, .slice a n c] W fun e w' => e = .returned (.bool false) ∧ Ext W w' := by
  have HCF := Lib.hid (fun W' h => putAny (a := a) (n := n) (c := c) (l := l) (by omega) hl W' h)
  have HF := Lib.hid hf
  have st := Own.startOld W
  cases p with
  | none =>
    clear h hf
    (try simp only [nsl, Value.cells, unB] at st)
    (try clear hc); have hc := st.facts; (try simp only [nfl, nft, Nat.reduceAdd] at hc)
    go_enter Try.func44, Try.ntmps44
    go_wp2_with fail
    go_ret
    exact ⟨rfl, st.ext0⟩
  | some ad =>
    have hb : chainOk l = false := by rcases h with h | h; cases h; exact h
    have hnl : n = l.length := hf.1
    by_cases h256 : 256 < n
    · clear h hf hb hnl
      (try simp only [nsl, Value.cells, unB] at st)
      (try clear hc); have hc := st.facts; (try simp only [nfl, nft, Nat.reduceAdd] at hc)
      go_enter Try.func44, Try.ntmps44
      go_wp2_with fail
      go_ret
      exact ⟨rfl, st.ext0⟩
    · have hany : (l.any fun x => !stepR x) = true := by
        unfold chainOk at hb
        rw [decide_eq_true (by omega), Bool.true_and, List.all_eq_false] at hb
        obtain ⟨x, hx, hx2⟩ := hb
        exact List.any_eq_true.2 ⟨x, hx, by simpa using hx2⟩
      rw [hany] at HCF
      clear h hf hb hnl hany
      (try simp only [nsl, Value.cells, unB] at st)
      (try clear hc); have hc := st.facts; (try simp only [nfl, nft, Nat.reduceAdd] at hc)
      go_enter Try.func44, Try.ntmps44
      go_wp2_with fail
      refine (HCF.out _ HF.out).mono ?_
      rintro en w ⟨rfl, hx⟩
      replace st := st.ext hx
      clear hx
      go_wp2_with fail
      go_ret
      exact ⟨rfl, st.ext0⟩
end Go.Proofs.Ytekngjkjgmplpaa

namespace Go.Proofs.Ytekngjkjgmplpaa
set_option linter.unusedSimpArgs false
set_option linter.unusedVariables false
open Go Go.RowKit
def stepsM (l : List StepT) (v : Value) (M : List It) : Prop := ∃ n va vc, n = l.length ∧ v = .slice va n vc ∧ M = [rowI 66 12 (.slice va n vc) n (cellsL l)]
set_option maxRecDepth 100000 in
set_option maxHeartbeats 4000000 in
theorem chkGet_c {fr al : Nat → Prop} {W : World} {r : Nat} {xs : List UInt8} (st : Own fr al W [rdI r xs] W) (most : Int) (hm : most ≤ 100000) (hl : xs.length ≤ 100000) :
    Calls Try.prog 48 #[.pointer (some ⟨r, 0, none⟩), .int .i64 most] W (RdC fr al W r (rdSteps most xs) stepsM) := by
  go_enter Try.func48, Try.ntmps48
  go_wp2_with fail
  obtain ⟨fr', al', st', back⟩ := st.sub [0] (by decide) (by simp)
  (try simp only [nsl, Value.cells, unB] at st')
  refine (number_c st' most).mono ?_
  clear st'
  intro en w hen
  unfold RdC at hen
  cases hr : rdNumber most xs with
  | error e =>
    rw [hr] at hen
    obtain ⟨rfl, st'⟩ := hen
    replace st := back _ _ (by simp) st'
    clear back st'
    (try simp only [nsl, Value.cells, unB] at st)
    (try clear hc); have hc := st.facts; (try simp only [nfl, nft, Nat.reduceAdd] at hc)
    have H1 : Hid (rdSteps most xs = .error e) := Lib.hid (by simp [rdSteps, hr, bd])
    clear hr
    go_wp2_with fail
    refine ⟨rfl, ?_⟩
    unfold RdC
    rw [H1.out]
    have st' := st.keep [0] (by decide) (by simp)
    exact ⟨rfl, by simpa [pick] using st'⟩
  | ok p =>
    obtain ⟨n, ys⟩ := p
    rw [hr] at hen
    obtain ⟨v, M, rfl, ⟨rfl, rfl⟩, st'⟩ := hen
    replace st := back _ _ (by simp) st'
    clear back st'
    (try simp only [nsl, Value.cells, unB] at st)
    (try clear hc); have hc := st.facts; (try simp only [nfl, nft, Nat.reduceAdd] at hc)
    have hl1 := rdNumber_leM hr
    have HR1 : Hid (rdSteps most xs = rdN rdStep n ys) := Lib.hid (by simp [rdSteps, hr, bd])
    clear hr
    have hn : n ≤ 100000 := by omega
    replace st := st.row_nil 66 12
    (try simp only [nsl, Value.cells, unB] at st)
    (try clear hc); have hc := st.facts; (try simp only [nfl, nft, Nat.reduceAdd] at hc)
    go_wp2_with fail
    go_loopg [5, 10] n (fun k v i wr => ∃ (j : Nat) (out : List StepT) (zs : List UInt8) (va : Option Addr) (vc : Nat), j ≤ n ∧ k = n - j ∧ v = .slice va j vc ∧ i = .int .i64 (j : Int) ∧ Hid (rdSteps most xs = addN out (rdN rdStep (n - j) zs)) ∧ Hid (j = out.length) ∧ zs.length ≤ 100000 ∧ Own fr al W [rdI r zs, rowI 66 12 (.slice va j vc) j (cellsL out)] wr)
    case atStart => exact ⟨0, [], ys, none, 0, by omega, by omega, rfl, rfl, Lib.hid (by rw [HR1.out, addN_nil]; rfl), Lib.hid rfl, by omega, st⟩
    case round =>
      obtain ⟨j, out, zs, va, vc, hj, rfl, rfl, rfl, HT, HJ, hzl, st'⟩ := hrel
      clear st hc
      have st := st'
      clear st'
      (try simp only [nsl, Value.cells, unB] at st)
      (try clear hc); have hc := st.facts; (try simp only [nfl, nft, Nat.reduceAdd] at hc)
      by_cases hjn : j < n
      · obtain ⟨q, hq⟩ : ∃ q, n - j = q + 1 := ⟨n - j - 1, by omega⟩
        rw [hq] at HT
        have hq2 : n - (j + 1) = q := by omega
        clear hq
        go_wp2_with fail
        obtain ⟨fr', al', st', back⟩ := st.sub [0] (by decide) (by simp)
        (try simp only [nsl, Value.cells, unB] at st')
        refine (credGet_c st' hzl).mono ?_
        clear st'
        intro en w hen
        unfold RdC at hen
        cases hr : rdCred zs with
        | error e =>
          rw [hr] at hen
          obtain ⟨rfl, st'⟩ := hen
          replace st := back _ _ (by simp) st'
          clear back st'
          (try simp only [nsl, Value.cells, unB] at st)
          (try clear hc); have hc := st.facts; (try simp only [nfl, nft, Nat.reduceAdd] at hc)
          have H1 : Hid (rdSteps most xs = .error e) := Lib.hid (by rw [HT.out]; exact addN_er rdStep _ _ (by simp [rdStep,  hr, bd]))
          clear hr
          go_wp2_with fail
          refine ⟨rfl, ?_⟩
          unfold RdC
          rw [H1.out]
          have st' := st.keep [0] (by decide) (by simp)
          exact ⟨rfl, by simpa [pick] using st'⟩
        | ok p =>
          obtain ⟨x, us⟩ := p
          rw [hr] at hen
          obtain ⟨v, M, rfl, ⟨rfl, rfl⟩, st'⟩ := hen
          replace st := back _ _ (by simp) st'
          clear back st'
          (try simp only [nsl, Value.cells, unB] at st)
          (try clear hc); have hc := st.facts; (try simp only [nfl, nft, Nat.reduceAdd] at hc)
          have hl2 := (rdCred_le hr).1
          have HR2 := Lib.hid hr
          clear hr
          obtain ⟨ck, ⟨ho, hd⟩, cw, ⟨bo, bd'⟩, ⟨co, cd⟩, we⟩ := x
          unfold cV S
          simp only
          go_wp2_with ((first
                | ((with_reducible refine wl_alloc ?_ (fun K hK => ?_)); rfl; refine owp_alloc (o := ⟨some 6, _, _, _, _, _⟩) rfl st ?_; apply Exists.intro; apply Exists.intro; refine ⟨?_, ?_⟩; (focus (first | (go_simp; done) | (go_simp; rfl))); (clear st; intro b6 w hb st; clear hb))
                | ((with_reducible refine wl_store ?_ (fun K hK => ?_)); rfl; refine owp_store rfl st ?_; apply Exists.intro; apply Exists.intro; refine ⟨?_, ?_, ?_⟩; (focus (go_simp; try rfl)); (focus (go_simp; try rfl)); (with_reducible refine ⟨2, _, _, _, _, get2, rfl, rfl, ?_, ?_, ?_, ?_⟩); (kernel_rfl); (simp [Value.cells]); (rfl); (clear st; intro w st))); (try simp only [nsl, Value.cells, unB] at st); (try clear hc); have hc := st.facts; (try simp only [nfl, nft, Nat.reduceAdd] at hc))
          refine Rg4.wp_region4_eq #[0, 0, 0, 4, 0, 16, 60, 126, 254, 511, 1023] [5, 8, 9] [] (fun W' => Blk W' b6 [.int .i64 ck, .string ⟨ho.toArray⟩, .string ⟨hd.toArray⟩, .string ⟨cw.toArray⟩, .string ⟨bo.toArray⟩, .string ⟨bd'.toArray⟩, .string ⟨co.toArray⟩, .string ⟨cd.toArray⟩, .string ⟨we.toArray⟩]) [0, 1, 2, 3, 4, 5, 6, 7, 8, 9, 10] (by kernel_rfl) (by kernel_rfl) (by kernel_rfl) (by kernel_rfl) (show Rg4.PB _ by repeat (first | with_reducible exact Rg4.pb_body | with_reducible exact Rg4.pb_bodyD rfl | with_reducible refine Rg4.pb_then ?_ | with_reducible refine Rg4.pb_inBlock ?_ | with_reducible refine Rg4.pb_noGoto ?_)) (st.drew.blk (i := 2) get2) ?_
          replace st := st.drew
          change Rg4.wp4 _ _ _ _ _ _ _ _ _ (World.drew _) _ _
          generalize World.drew _ = w at st ⊢
          (try clear hc); have hc := st.facts; (try simp only [nfl, nft, Nat.reduceAdd] at hc)
          (refine Rg4.w4_any (Rg4.want_none rfl) rfl ?_; apply Exists.intro; refine ⟨fun w' => ?_, ?_⟩; (focus (first | (go_simp; done) | (go_simp; first | rfl | (rw [if_neg] <;> first | rfl | omega) | (rw [if_pos] <;> first | rfl | omega)))); (try simp only [Rg4.nrm]))
          (refine Rg4.w4_cl (Rg4.want_none rfl) rfl ?_; apply Exists.intro; refine ⟨fun w' hcl => ?_, ?_⟩; (focus (have q0 := Blk.cell hcl 0; have q1 := Blk.cell hcl 1; have q2 := Blk.cell hcl 2; have q3 := Blk.cell hcl 3; have q4 := Blk.cell hcl 4; have q5 := Blk.cell hcl 5; have q6 := Blk.cell hcl 6; have q7 := Blk.cell hcl 7; have q8 := Blk.cell hcl 8; (try simp at q0 q1 q2 q3 q4 q5 q6 q7 q8); (focus (first | (go_simp; done) | (go_simp; first | rfl | (rw [if_neg] <;> first | rfl | omega) | (rw [if_pos] <;> first | rfl | omega)))))); (try simp only [Rg4.nrm]))
          (refine Rg4.w4_any (Rg4.want_none rfl) rfl ?_; apply Exists.intro; refine ⟨fun w' => ?_, ?_⟩; (focus (first | (go_simp; done) | (go_simp; first | rfl | (rw [if_neg] <;> first | rfl | omega) | (rw [if_pos] <;> first | rfl | omega)))); (try simp only [Rg4.nrm]))
          (refine Rg4.w4_cl (Rg4.want_none rfl) rfl ?_; apply Exists.intro; refine ⟨fun w' hcl => ?_, ?_⟩; (focus (have q0 := Blk.cell hcl 0; have q1 := Blk.cell hcl 1; have q2 := Blk.cell hcl 2; have q3 := Blk.cell hcl 3; have q4 := Blk.cell hcl 4; have q5 := Blk.cell hcl 5; have q6 := Blk.cell hcl 6; have q7 := Blk.cell hcl 7; have q8 := Blk.cell hcl 8; (try simp at q0 q1 q2 q3 q4 q5 q6 q7 q8); (focus (first | (go_simp; done) | (go_simp; first | rfl | (rw [if_neg] <;> first | rfl | omega) | (rw [if_pos] <;> first | rfl | omega)))))); (try simp only [Rg4.nrm]))
          (refine Rg4.w4_any (Rg4.want_none rfl) rfl ?_; apply Exists.intro; refine ⟨fun w' => ?_, ?_⟩; (focus (first | (go_simp; done) | (go_simp; first | rfl | (rw [if_neg] <;> first | rfl | omega) | (rw [if_pos] <;> first | rfl | omega)))); (try simp only [Rg4.nrm]))
          refine Rg4.w4_bar (Rg4.want_none rfl) rfl (fun w' hw' hcl _ K hK => ?_)
          subst hw'
          go_wp2_with fail
          obtain ⟨fr', al', st', back⟩ := st.sub [0] (by decide) (by simp)
          (try simp only [nsl, Value.cells, unB] at st')
          refine (nameGet_c st' (by omega)).mono ?_
          clear st'
          intro en w hen
          unfold RdC at hen
          cases hr : rdName us with
          | error e =>
            rw [hr] at hen
            obtain ⟨rfl, st'⟩ := hen
            replace st := back _ _ (by simp) st'
            clear back st'
            (try simp only [nsl, Value.cells, unB] at st)
            (try clear hc); have hc := st.facts; (try simp only [nfl, nft, Nat.reduceAdd] at hc)
            have H1 : Hid (rdSteps most xs = .error e) := Lib.hid (by rw [HT.out]; exact addN_er rdStep _ _ (by simp [rdStep, HR2.out, hr, bd]))
            clear hr
            go_wp2_with fail
            refine ⟨rfl, ?_⟩
            unfold RdC
            rw [H1.out]
            have st' := st.keep [0] (by decide) (by simp)
            exact ⟨rfl, by simpa [pick] using st'⟩
          | ok p =>
            obtain ⟨fw, ts⟩ := p
            rw [hr] at hen
            obtain ⟨v, M, rfl, ⟨rfl, rfl⟩, st'⟩ := hen
            replace st := back _ _ (by simp) st'
            clear back st'
            (try simp only [nsl, Value.cells, unB] at st)
            (try clear hc); have hc := st.facts; (try simp only [nfl, nft, Nat.reduceAdd] at hc)
            have hl3 := (rdName_le hr).1
            have H1 : Hid (rdSteps most xs = addN (out ++ [⟨⟨ck, (ho, hd), cw, (bo, bd'), (co, cd), we⟩, ⟨(ho, hd), fw⟩⟩]) (rdN rdStep q ts)) := Lib.hid (by rw [HT.out]; exact addN_ok rdStep _ _ (by simp [rdStep, HR2.out, hr, bd]))
            clear hr
            unfold S
            refine hK _ _ ⟨st.blk (i := 2) get2, ?_⟩
            clear hK
            (try simp only [Rg4.nrm])
            iterate 2 (refine Rg4.w4_any (Rg4.want_none rfl) rfl ?_; apply Exists.intro; refine ⟨fun w' => ?_, ?_⟩; (focus (first | (go_simp; done) | (go_simp; first | rfl | (rw [if_neg] <;> first | rfl | omega) | (rw [if_pos] <;> first | rfl | omega)))); (try simp only [Rg4.nrm]))
            (refine Rg4.w4_bar (Rg4.want_none rfl) rfl (fun w' hw' hcl' _ K hK => ?_); subst hw'; (refine owp_buildSlice (o := ⟨some 22, _, _, _, _, _⟩) rfl st ?_; apply Exists.intro; apply Exists.intro; apply Exists.intro; apply Exists.intro; refine ⟨?_, ?_⟩; (focus (go_simp; (first | done | exact ⟨⟨rfl, rfl⟩, rfl⟩ | rfl))); (clear st; intro b22 w hb st; clear hb); (try simp only [nsl, Value.cells, unB] at st); (try clear hc); have hc := st.facts; (try simp only [nfl, nft, Nat.reduceAdd] at hc)); refine hK _ _ ⟨st.blk (i := 2) get2, ?_⟩; (try simp only [Rg4.nrm]))
            refine Rg4.w4_bar (Rg4.want_none rfl) rfl (fun w' hw' hcl _ K hK => ?_)
            subst hw'
            obtain ⟨inf, hinf, hz0, hz1, hz2⟩ := stepInfo
            refine owp_append rfl st 1 get1 Try.underlying60 hinf hz0 hz1 hz2 rfl (by decide) rfl rfl ((st.blk (i := 3) get3).flat rfl) (by simp [Value.oneCell']) (by simp only [maxLen]; omega) (by omega) ?_
            clear hinf hz0 hz1 hz2 inf
            clear st
            intro v' w st
            obtain ⟨va', vc', rfl⟩ := own_slice (st.row (i := 1) get1)
            (try simp only [nsl, Value.cells, unB] at st)
            (try clear hc); have hc := st.facts; (try simp only [nfl, nft, Nat.reduceAdd] at hc)
            refine hK _ _ ⟨st.blk (i := 2) get2, ?_⟩
            clear hK
            (try simp only [Rg4.nrm])
            (refine Rg4.w4_any (Rg4.want_none rfl) rfl ?_; apply Exists.intro; refine ⟨fun w' => ?_, ?_⟩; (focus (first | (go_simp; done) | (go_simp; first | rfl | (rw [if_neg] <;> first | rfl | omega) | (rw [if_pos] <;> first | rfl | omega)))); (try simp only [Rg4.nrm]))
            refine Rg4.w4_nil (fun w' hw' hcl' _ => ?_); subst hw'; clear hcl'
            go_wp2_with fail
            have st' := st.keep [0, 1] (by decide) (by simp)
            go_roundg (n - (j + 1))
            case measure => omega
            case rel =>
              refine ⟨j + 1, _, ts, va', vc', by omega, by omega, rfl, by go_num, by rw [hq2]; exact H1, Lib.hid (by simp [HJ.out]), by omega, ?_⟩
              rw [cellsL_append, cellsL_one']
              exact st'
      · obtain rfl : j = n := by omega
        have H1 : Hid (rdSteps most xs = .ok (out, zs)) := Lib.hid (by rw [HT.out, Nat.sub_self]; exact addN_end rdStep _ _)
        go_wp2_with fail
        go_ret
        unfold RdC
        rw [H1.out]
        exact ⟨_, _, rfl, ⟨j, va, vc, HJ.out, rfl, rfl⟩, st⟩
end Go.Proofs.Ytekngjkjgmplpaa

namespace Go.Proofs.Ytekngjkjgmplpaa
set_option linter.unusedSimpArgs false
set_option linter.unusedVariables false
open Go Go.RowKit
theorem chainBy_no {l : List StepT} {x : StepT} (hx : x ∈ l) (h : stepR x = false) : chainBy l = [] := by
  unfold chainBy chainOk
  rw [if_neg]
  intro q
  rw [Bool.and_eq_true, List.all_eq_true] at q
  rw [q.2 x hx] at h
  cases h
@[irreducible] def stepEq (a b : StepT) : Bool := decide (a = b)
theorem stepEq_eq (a b : StepT) : stepEq a b = decide (a = b) := by unfold stepEq; rfl
@[go_sem] theorem stepEq_self (x : StepT) : stepEq x x = true := by rw [stepEq_eq]; simp
@[go_sem high] theorem eqStep (k : Int) (ho hd w bo bd co cd e ro rd fw : List UInt8) (k' : Int) (ho' hd' w' bo' bd' co' cd' e' ro' rd' fw' : List UInt8) (W : World) :
    (Op.equalIn 10000 66 (.agg #[.int .i64 k, .string ⟨ho.toArray⟩, .string ⟨hd.toArray⟩, .string ⟨w.toArray⟩, .string ⟨bo.toArray⟩, .string ⟨bd.toArray⟩, .string ⟨co.toArray⟩, .string ⟨cd.toArray⟩, .string ⟨e.toArray⟩, .string ⟨ro.toArray⟩, .string ⟨rd.toArray⟩, .string ⟨fw.toArray⟩])
      (.agg #[.int .i64 k', .string ⟨ho'.toArray⟩, .string ⟨hd'.toArray⟩, .string ⟨w'.toArray⟩, .string ⟨bo'.toArray⟩, .string ⟨bd'.toArray⟩, .string ⟨co'.toArray⟩, .string ⟨cd'.toArray⟩, .string ⟨e'.toArray⟩, .string ⟨ro'.toArray⟩, .string ⟨rd'.toArray⟩, .string ⟨fw'.toArray⟩])).run Try.prog W =
      .ok (stepEq ⟨⟨k, (ho, hd), w, (bo, bd), (co, cd), e⟩, ⟨(ro, rd), fw⟩⟩ ⟨⟨k', (ho', hd'), w', (bo', bd'), (co', cd'), e'⟩, ⟨(ro', rd'), fw'⟩⟩) W := by
  have hS : Try.prog.underlying 66 = some (.struct (Try.prog.fieldsOf 66)) := by kernel_rfl
  rw [show (10000 : Nat) = 9999 + 1 from rfl, run_equalIn_agg W 9999 66 _ _ hS (by kernel_rfl), stepEq_eq]
  simp only [Program.fieldsOf, Try.underlying66]
  go_simp
  simp only [iteB, Bool.and_true, Bool.and_assoc]
set_option maxRecDepth 100000 in
set_option maxHeartbeats 4000000 in
theorem refChainBytes_any (a : Option Addr) (n c : Nat) (l : List StepT) (W : World) (h : Fl W a n l) (hn : n ≤ 1000000) (hl : ∀ x ∈ l, StL x) :
    Calls Try.prog 43 #[.slice a n c] W fun e w' => e = .returned (S (chainBy l)) ∧ Ext W w' := by
  have happ := ba_append
  have H := Lib.hid h
  have HL := Lib.hid hl
  have HNL := Lib.hid h.1
  obtain ⟨r, hr⟩ : ∃ r, chainBy l = r := ⟨_, rfl⟩
  have HR := Lib.hid hr.symm
  rw [hr]
  clear h hl hr
  have st := Own.startOld W
  unfold S
  (try simp only [nsl, Value.cells, unB] at st)
  (try clear hc); have hc := st.facts; (try simp only [nfl, nft, Nat.reduceAdd] at hc)
  by_cases h256 : 256 < n
  · have HF : Hid (r = []) := Lib.hid (by rw [HR.out]; unfold chainBy chainOk; rw [decide_eq_false (by have := HNL.out; omega)]; rfl)
    go_enter Try.func43, Try.ntmps43
    go_wp2_with fail
    go_ret
    exact ⟨by rw [HF.out]; rfl, st.ext0⟩
  go_enter Try.func43, Try.ntmps43
  go_wp2_with fail
  refine (refNumber_any n _ (by omega)).mono ?_
  rintro en w ⟨rfl, hx⟩
  replace st := st.ext hx
  clear hx
  (try clear hc); have hc := st.facts; (try simp only [nfl, nft, Nat.reduceAdd] at hc)
  unfold S
  have hb0 : (numB n).length ≤ 10 := numF_len 10 n
  go_wp2_with fail
  go_loopg [3, 14] n (fun k v i wr => ∃ (j m : Nat) (ys : List UInt8), j ≤ n ∧ k = n - j ∧ i = .int .i64 (j : Int) ∧ v = .string ⟨ys.toArray⟩ ∧ Hid (ys = numB n ++ (l.take j).flatMap stepBy ∧ ∀ x ∈ l.take j, stepR x = true) ∧ Hid (m = ys.length) ∧ m ≤ 10 + 400 * j ∧ Own (fun _ => False) (fun _ => True) W [oldI W] wr)
  case atStart => exact ⟨0, _, numB n, by omega, by omega, rfl, rfl, Lib.hid ⟨by simp, by simp⟩, Lib.hid rfl, by omega, st⟩
  case round =>
    obtain ⟨j, m, ys, hj, rfl, rfl, rfl, HY, HM, hm, st'⟩ := hrel
    clear st hc
    have st := st'
    clear st'
    (try simp only [nsl, Value.cells, unB] at st)
    (try clear hc); have hc := st.facts; (try simp only [nfl, nft, Nat.reduceAdd] at hc)
    by_cases hjn : j < n
    · obtain ⟨b, off, ha, hcell⟩ := H.out.step (by omega)
      have hjl : j < l.length := by have := HNL.out; omega
      obtain ⟨r0, r1, r2, r3, r4, r5, r6, r7, r8, r9, r10, r11⟩ := hcell j l[j] (List.getElem?_eq_getElem hjl)
      replace r0 := st.oldCell (i := 0) get0 r0
      replace r1 := st.oldCell (i := 0) get0 r1
      replace r2 := st.oldCell (i := 0) get0 r2
      replace r3 := st.oldCell (i := 0) get0 r3
      replace r4 := st.oldCell (i := 0) get0 r4
      replace r5 := st.oldCell (i := 0) get0 r5
      replace r6 := st.oldCell (i := 0) get0 r6
      replace r7 := st.oldCell (i := 0) get0 r7
      replace r8 := st.oldCell (i := 0) get0 r8
      replace r9 := st.oldCell (i := 0) get0 r9
      replace r10 := st.oldCell (i := 0) get0 r10
      replace r11 := st.oldCell (i := 0) get0 r11
      have hts : l.take (j + 1) = l.take j ++ [l[j]] := (List.take_append_getElem hjl).symm
      have hmem := List.getElem_mem hjl
      have hxl := HL.out l[j] hmem
      clear hcell
      generalize l[j] = x at *
      have HCR := Lib.hid (fun W => refCredRight_any x.c W (CLenS.big hxl.1))
      have HNR := Lib.hid (fun W => refRight_any x.f.w W (by have := hxl.2; omega))
      obtain ⟨cr, hcr⟩ : ∃ b, credR x.c = b := ⟨_, rfl⟩
      rw [hcr] at HCR
      have HCB := Lib.hid (fun W q => refCredBytes_any x.c W q)
      obtain ⟨u, hu⟩ : ∃ u, credB x.c = u := ⟨_, rfl⟩
      rw [hu] at HCB
      have HUL : Hid (credR x.c = true → u.length ≤ 300) := Lib.hid (fun q => by rw [← hu]; exact credB_len2 q)
      have HX := Lib.hid (And.intro hts hmem)
      have HXB : Hid (stepBy x = u ++ (numB x.f.w.length ++ x.f.w)) := Lib.hid (by rw [← hu]; rfl)
      have HCI := Lib.hid hcr
      have hxw := hxl.2
      clear hts hmem hjl hu hxl hcr
      obtain ⟨⟨ck, ⟨ho, hd⟩, cw, ⟨bo, bd⟩, ⟨co, cd⟩, we⟩, ⟨⟨ro, rd⟩, fw⟩⟩ := x
      subst ha
      simp only at r0 r1 r2 r3 r4 r5 r6 r7 r8 r9 r10 r11 HNR HXB HCI HUL HCB hxw
      unfold S at r1 r2 r3 r4 r5 r6 r7 r8 r9 r10 r11 HNR
      unfold cV S at HCR HCB
      simp only at HCR HCB
      cases cr with
      | false =>
        have HF : Hid (r = []) := Lib.hid (by rw [HR.out]; exact chainBy_no HX.out.2 (by unfold stepR; simp only; rw [HCI.out]; rfl))
        go_wp2_with ((first
              | ((with_reducible refine wl_alloc ?_ (fun K hK => ?_)); rfl; refine owp_alloc (o := ⟨some 5, _, _, _, _, _⟩) rfl st ?_; apply Exists.intro; apply Exists.intro; refine ⟨?_, ?_⟩; (focus (first | (go_simp; done) | (go_simp; rfl))); (clear st; intro b5 w hb st; clear hb))
              | ((with_reducible refine wl_store ?_ (fun K hK => ?_)); rfl; refine owp_store rfl st ?_; apply Exists.intro; apply Exists.intro; refine ⟨?_, ?_, ?_⟩; (focus (go_simp; try rfl)); (focus (go_simp; try rfl)); (with_reducible refine ⟨1, _, _, _, _, get1, rfl, rfl, ?_, ?_, ?_, ?_⟩); (kernel_rfl); (simp [Value.cells]); (rfl); (clear st; intro w st))); (try simp only [nsl, Value.cells, unB] at st); (try clear hc); have hc := st.facts; (try simp only [nfl, nft, Nat.reduceAdd] at hc))
        refine (HCR.out _).mono ?_
        rintro en w ⟨rfl, hx⟩
        replace st := st.ext hx
        clear hx
        (try clear hc); have hc := st.facts; (try simp only [nfl, nft, Nat.reduceAdd] at hc)
        go_wp2_with fail
        go_ret
        exact ⟨by rw [HF.out]; rfl, st.ext0⟩
      | true =>
        cases hre : roleEq (ro, rd) (ho, hd) with
        | false =>
          have HF : Hid (r = []) := Lib.hid (by rw [HR.out]; exact chainBy_no HX.out.2 (by unfold stepR; simp only; rw [HCI.out, hre]; rfl))
          go_wp2_with ((first
                | ((with_reducible refine wl_alloc ?_ (fun K hK => ?_)); rfl; refine owp_alloc (o := ⟨some 5, _, _, _, _, _⟩) rfl st ?_; apply Exists.intro; apply Exists.intro; refine ⟨?_, ?_⟩; (focus (first | (go_simp; done) | (go_simp; rfl))); (clear st; intro b5 w hb st; clear hb))
                | ((with_reducible refine wl_store ?_ (fun K hK => ?_)); rfl; refine owp_store rfl st ?_; apply Exists.intro; apply Exists.intro; refine ⟨?_, ?_, ?_⟩; (focus (go_simp; try rfl)); (focus (go_simp; try rfl)); (with_reducible refine ⟨1, _, _, _, _, get1, rfl, rfl, ?_, ?_, ?_, ?_⟩); (kernel_rfl); (simp [Value.cells]); (rfl); (clear st; intro w st))); (try simp only [nsl, Value.cells, unB] at st); (try clear hc); have hc := st.facts; (try simp only [nfl, nft, Nat.reduceAdd] at hc))
          refine (HCR.out _).mono ?_
          rintro en w ⟨rfl, hx⟩
          replace st := st.ext hx
          clear hx
          (try clear hc); have hc := st.facts; (try simp only [nfl, nft, Nat.reduceAdd] at hc)
          go_wp2_with fail
          go_ret
          exact ⟨by rw [HF.out]; rfl, st.ext0⟩
        | true =>
          cases hnr : nameR fw with
          | false =>
            have HF : Hid (r = []) := Lib.hid (by rw [HR.out]; exact chainBy_no HX.out.2 (by unfold stepR; simp only; rw [HCI.out, hre, hnr]; rfl))
            rw [hnr] at HNR
            clear hnr
            go_wp2_with ((first
                  | ((with_reducible refine wl_alloc ?_ (fun K hK => ?_)); rfl; refine owp_alloc (o := ⟨some 5, _, _, _, _, _⟩) rfl st ?_; apply Exists.intro; apply Exists.intro; refine ⟨?_, ?_⟩; (focus (first | (go_simp; done) | (go_simp; rfl))); (clear st; intro b5 w hb st; clear hb))
                  | ((with_reducible refine wl_store ?_ (fun K hK => ?_)); rfl; refine owp_store rfl st ?_; apply Exists.intro; apply Exists.intro; refine ⟨?_, ?_, ?_⟩; (focus (go_simp; try rfl)); (focus (go_simp; try rfl)); (with_reducible refine ⟨1, _, _, _, _, get1, rfl, rfl, ?_, ?_, ?_, ?_⟩); (kernel_rfl); (simp [Value.cells]); (rfl); (clear st; intro w st))); (try simp only [nsl, Value.cells, unB] at st); (try clear hc); have hc := st.facts; (try simp only [nfl, nft, Nat.reduceAdd] at hc))
            refine (HCR.out _).mono ?_
            rintro en w ⟨rfl, hx⟩
            replace st := st.ext hx
            clear hx
            (try clear hc); have hc := st.facts; (try simp only [nfl, nft, Nat.reduceAdd] at hc)
            go_wp2_with fail
            refine (HNR.out _).mono ?_
            rintro en w ⟨rfl, hx⟩
            replace st := st.ext hx
            clear hx
            (try clear hc); have hc := st.facts; (try simp only [nfl, nft, Nat.reduceAdd] at hc)
            go_wp2_with fail
            go_ret
            exact ⟨by rw [HF.out]; rfl, st.ext0⟩
          | true =>
            rw [hnr] at HNR
            have HSR : Hid (∀ x ∈ l.take (j + 1), stepR x = true) := Lib.hid (fun x hx => by
              rw [HX.out.1] at hx
              rcases List.mem_append.1 hx with q | q
              · exact HY.out.2 x q
              · rw [List.mem_singleton.1 q]; unfold stepR; simp only; rw [HCI.out, hre, hnr]; rfl)
            have hl3 := nameR_len hnr
            have hul := HUL.out HCI.out
            have hb3 : (numB fw.length).length ≤ 10 := numF_len 10 fw.length
            have HTX := Lib.hid (fun W => refText_any fw W (by omega))
            unfold S at HTX
            obtain ⟨t, ht⟩ : ∃ t, numB fw.length ++ fw = t := ⟨_, rfl⟩
            have htl : t.length ≤ 26 := by rw [← ht]; simp; omega
            rw [ht] at HTX HXB
            clear hnr ht
            go_wp2_with ((first
                  | ((with_reducible refine wl_alloc ?_ (fun K hK => ?_)); rfl; refine owp_alloc (o := ⟨some 5, _, _, _, _, _⟩) rfl st ?_; apply Exists.intro; apply Exists.intro; refine ⟨?_, ?_⟩; (focus (first | (go_simp; done) | (go_simp; rfl))); (clear st; intro b5 w hb st; clear hb))
                  | ((with_reducible refine wl_store ?_ (fun K hK => ?_)); rfl; refine owp_store rfl st ?_; apply Exists.intro; apply Exists.intro; refine ⟨?_, ?_, ?_⟩; (focus (go_simp; try rfl)); (focus (go_simp; try rfl)); (with_reducible refine ⟨1, _, _, _, _, get1, rfl, rfl, ?_, ?_, ?_, ?_⟩); (kernel_rfl); (simp [Value.cells]); (rfl); (clear st; intro w st))); (try simp only [nsl, Value.cells, unB] at st); (try clear hc); have hc := st.facts; (try simp only [nfl, nft, Nat.reduceAdd] at hc))
            refine (HCR.out _).mono ?_
            rintro en w ⟨rfl, hx⟩
            replace st := st.ext hx
            clear hx
            (try clear hc); have hc := st.facts; (try simp only [nfl, nft, Nat.reduceAdd] at hc)
            go_wp2_with fail
            refine (HNR.out _).mono ?_
            rintro en w ⟨rfl, hx⟩
            replace st := st.ext hx
            clear hx
            (try clear hc); have hc := st.facts; (try simp only [nfl, nft, Nat.reduceAdd] at hc)
            go_wp2_with fail
            have hml : ys.length ≤ 10 + 400 * j := by have := HM.out; omega
            refine Rg4.wp_region4 (Rel := Ext) #[0, 0, 2, 6, 0, 16, 48, 126, 254, 511, 1023]
              [(3, .val (.string ⟨u.toArray⟩)), (7, .val (.string ⟨t.toArray⟩))] [] [2, 6] (fun _ => True) [0, 1, 2, 3, 4, 5, 6, 7, 8, 9, 10] (by kernel_rfl) (by kernel_rfl) (by kernel_rfl) (by kernel_rfl) Ext.refl (fun _ _ _ => Ext.trans) (show Rg4.PB _ by repeat (first | with_reducible exact Rg4.pb_body | with_reducible exact Rg4.pb_bodyD rfl | with_reducible refine Rg4.pb_then ?_ | with_reducible refine Rg4.pb_inBlock ?_ | with_reducible refine Rg4.pb_noGoto ?_)) (trivial) ?_
            replace st := st.drew
            change Rg4.wp4 _ _ _ _ _ _ _ _ _ (World.drew _) _ _
            generalize World.drew _ = w at st ⊢
            (try clear hc); have hc := st.facts; (try simp only [nfl, nft, Nat.reduceAdd] at hc)
            iterate 2 (refine Rg4.w4_any (Rg4.want_none rfl) rfl ?_; apply Exists.intro; refine ⟨fun w' => ?_, ?_⟩; (focus (first | (go_simp; done) | (go_simp; first | rfl | (rw [if_neg] <;> first | rfl | omega) | (rw [if_pos] <;> first | rfl | omega)))); (try simp only [Rg4.nrm]))
            (refine Rg4.w4_read (Rg4.want_none rfl) rfl rfl ?_; apply Exists.intro; refine ⟨fun w' hw' hcl' => ?_, ?_⟩; focus (have st' := st.ext hw'; have hc' := st'.facts; (try simp only [nfl, nft, Nat.reduceAdd] at hc'); (focus (first | (go_simp; done) | (go_simp; first | rfl | (rw [if_neg] <;> first | rfl | omega) | (rw [if_pos] <;> first | rfl | omega))))); (try simp only [Rg4.nrm]))
            refine Rg4.w4_some (Rg4.want_none rfl) rfl (fun w' hw' hcl' _ => ?_) ?_
            · refine Rg.relAt_call (by go_simp; exact ⟨rfl, rfl⟩) ?_
              refine (HCB.out _ HCI.out).mono ?_
              rintro en w'' ⟨rfl, hx⟩
              exact ⟨_, rfl, hx, trivial, rfl⟩
            rintro v ⟨_, _, _, rfl⟩
            (try simp only [Rg4.nrm])
            iterate 2 (refine Rg4.w4_any (Rg4.want_none rfl) rfl ?_; apply Exists.intro; refine ⟨fun w' => ?_, ?_⟩; (focus (first | (go_simp; done) | (go_simp; first | rfl | (rw [if_neg] <;> first | rfl | omega) | (rw [if_pos] <;> first | rfl | omega)))); (try simp only [Rg4.nrm]))
            (refine Rg4.w4_read (Rg4.want_none rfl) rfl rfl ?_; apply Exists.intro; refine ⟨fun w' hw' hcl' => ?_, ?_⟩; focus (have st' := st.ext hw'; have hc' := st'.facts; (try simp only [nfl, nft, Nat.reduceAdd] at hc'); (focus (first | (go_simp; done) | (go_simp; first | rfl | (rw [if_neg] <;> first | rfl | omega) | (rw [if_pos] <;> first | rfl | omega))))); (try simp only [Rg4.nrm]))
            refine Rg4.w4_some (Rg4.want_none rfl) rfl (fun w' hw' hcl' _ => ?_) ?_
            · refine Rg.relAt_call (by go_simp; exact ⟨rfl, rfl⟩) ?_
              refine (HTX.out _).mono ?_
              rintro en w'' ⟨rfl, hx⟩
              exact ⟨_, rfl, hx, trivial, rfl⟩
            rintro v ⟨_, _, _, rfl⟩
            (try simp only [Rg4.nrm])
            iterate 3 (refine Rg4.w4_any (Rg4.want_none rfl) rfl ?_; apply Exists.intro; refine ⟨fun w' => ?_, ?_⟩; (focus (first | (go_simp; done) | (go_simp; first | rfl | (rw [if_neg] <;> first | rfl | omega) | (rw [if_pos] <;> first | rfl | omega)))); (try simp only [Rg4.nrm]))
            refine Rg4.w4_nil (fun w' hw' hcl' _ => ?_); replace st := st.ext hw'; clear hw' hcl'; (try clear hc); have hc := st.facts; (try simp only [nfl, nft, Nat.reduceAdd] at hc)
            go_wp2_with fail
            have st' := st.keep [0] (by decide) (by simp)
            go_roundg (n - (j + 1))
            case measure => omega
            case rel => exact ⟨j + 1, _, ys ++ (u ++ t), by omega, by omega, by go_num, by simp, Lib.hid ⟨by rw [HX.out.1, List.flatMap_append, ← List.append_assoc (numB n), ← HY.out.1]; simp [HXB.out], HSR.out⟩, Lib.hid rfl, by simp; omega, by simpa [pick] using st'⟩
    · obtain rfl : j = n := by omega
      have HF : Hid (r = ys) := Lib.hid (by
        have e : l.take j = l := List.take_of_length_le (by have := HNL.out; omega)
        have q := HY.out
        rw [e] at q
        rw [HR.out, q.1, HNL.out]
        unfold chainBy chainOk chainB
        rw [if_pos]
        rw [Bool.and_eq_true, decide_eq_true_eq, List.all_eq_true]
        exact ⟨by have := HNL.out; omega, q.2⟩)
      go_wp2_with fail
      go_ret
      exact ⟨by rw [HF.out]; rfl, st.ext0⟩
set_option maxRecDepth 100000 in
set_option maxHeartbeats 1000000 in
theorem refSame_any (a : Option Addr) (n c : Nat) (l : List StepT) (a' : Option Addr) (n' c' : Nat) (l' : List StepT) (W : World) (h : Fl W a n l) (h' : Fl W a' n' l') (hn : n ≤ 1000000) (hn' : n' ≤ 1000000) (hs : l = l') :
    Calls Try.prog 50 #[.slice a n c, .slice a' n' c'] W fun e w' => e = .returned (.bool true) ∧ Ext W w' := by
  subst hs
  obtain rfl : n = n' := h.1.trans h'.1.symm
  have H := Lib.hid h
  have H' := Lib.hid h'
  have HNL := Lib.hid h.1
  clear h h'
  have st := Own.startOld W
  (try simp only [nsl, Value.cells, unB] at st)
  (try clear hc); have hc := st.facts; (try simp only [nfl, nft, Nat.reduceAdd] at hc)
  go_enter Try.func50, Try.ntmps50
  go_wp2_with fail
  go_loopg [13] n (fun k i wr => ∃ (j : Nat), j ≤ n ∧ k = n - j ∧ i = .int .i64 (j : Int) ∧ Own (fun _ => False) (fun _ => True) W [oldI W] wr)
  case atStart => exact ⟨0, by omega, by omega, rfl, st⟩
  case round =>
    obtain ⟨j, hj, rfl, rfl, st'⟩ := hrel
    clear st hc
    have st := st'
    clear st'
    (try simp only [nsl, Value.cells, unB] at st)
    (try clear hc); have hc := st.facts; (try simp only [nfl, nft, Nat.reduceAdd] at hc)
    by_cases hjn : j < n
    · obtain ⟨b, off, ha, hcell⟩ := H.out.step (by omega)
      obtain ⟨b', off', ha', hcell'⟩ := H'.out.step (by omega)
      have hjl : j < l.length := by have := HNL.out; omega
      have HC := Lib.hid (And.intro (hcell j l[j] (List.getElem?_eq_getElem hjl)) (hcell' j l[j] (List.getElem?_eq_getElem hjl)))
      clear hcell hcell'
      generalize l[j] = x at *
      obtain ⟨⟨ck, ⟨ho, hd⟩, cw, ⟨bo, bd⟩, ⟨co, cd⟩, we⟩, ⟨⟨ro, rd⟩, fw⟩⟩ := x
      subst ha ha'
      simp only at HC
      unfold S at HC
      go_wp2_with fail
      refine Rg4.wp_region4_eq #[0, 0, 3, 7, 0, 0, 48, 112, 255] [] [3, 7] (fun _ => True) [0, 1, 2, 3, 4, 5, 6, 7, 8] (by kernel_rfl) (by kernel_rfl) (by kernel_rfl) (by kernel_rfl) (show Rg4.PB _ by repeat (first | with_reducible exact Rg4.pb_body | with_reducible exact Rg4.pb_bodyD rfl | with_reducible refine Rg4.pb_then ?_ | with_reducible refine Rg4.pb_inBlock ?_ | with_reducible refine Rg4.pb_noGoto ?_)) (trivial) ?_
      replace st := st.drew
      change Rg4.wp4 _ _ _ _ _ _ _ _ _ (World.drew _) _ _
      generalize World.drew _ = w at st ⊢
      (try clear hc); have hc := st.facts; (try simp only [nfl, nft, Nat.reduceAdd] at hc)
      iterate 3 (refine Rg4.w4_any (Rg4.want_none rfl) rfl ?_; apply Exists.intro; refine ⟨fun w' => ?_, ?_⟩; (focus (first | (go_simp; done) | (go_simp; first | rfl | (rw [if_neg] <;> first | rfl | omega) | (rw [if_pos] <;> first | rfl | omega)))); (try simp only [Rg4.nrm]))
      (refine Rg4.w4_read (Rg4.want_none rfl) rfl rfl ?_; apply Exists.intro; refine ⟨fun w' hw' hcl' => ?_, ?_⟩; focus (subst hw'; obtain ⟨⟨r0, r1, r2, r3, r4, r5, r6, r7, r8, r9, r10, r11⟩, p0, p1, p2, p3, p4, p5, p6, p7, p8, p9, p10, p11⟩ := HC.out; replace r0 := st.oldCell (i := 0) get0 r0; replace r1 := st.oldCell (i := 0) get0 r1; replace r2 := st.oldCell (i := 0) get0 r2; replace r3 := st.oldCell (i := 0) get0 r3; replace r4 := st.oldCell (i := 0) get0 r4; replace r5 := st.oldCell (i := 0) get0 r5; replace r6 := st.oldCell (i := 0) get0 r6; replace r7 := st.oldCell (i := 0) get0 r7; replace r8 := st.oldCell (i := 0) get0 r8; replace r9 := st.oldCell (i := 0) get0 r9; replace r10 := st.oldCell (i := 0) get0 r10; replace r11 := st.oldCell (i := 0) get0 r11; replace p0 := st.oldCell (i := 0) get0 p0; replace p1 := st.oldCell (i := 0) get0 p1; replace p2 := st.oldCell (i := 0) get0 p2; replace p3 := st.oldCell (i := 0) get0 p3; replace p4 := st.oldCell (i := 0) get0 p4; replace p5 := st.oldCell (i := 0) get0 p5; replace p6 := st.oldCell (i := 0) get0 p6; replace p7 := st.oldCell (i := 0) get0 p7; replace p8 := st.oldCell (i := 0) get0 p8; replace p9 := st.oldCell (i := 0) get0 p9; replace p10 := st.oldCell (i := 0) get0 p10; replace p11 := st.oldCell (i := 0) get0 p11; (focus (first | (go_simp; done) | (go_simp; first | rfl | (rw [if_neg] <;> first | rfl | omega) | (rw [if_pos] <;> first | rfl | omega))))); (try simp only [Rg4.nrm]))
      iterate 3 (refine Rg4.w4_any (Rg4.want_none rfl) rfl ?_; apply Exists.intro; refine ⟨fun w' => ?_, ?_⟩; (focus (first | (go_simp; done) | (go_simp; first | rfl | (rw [if_neg] <;> first | rfl | omega) | (rw [if_pos] <;> first | rfl | omega)))); (try simp only [Rg4.nrm]))
      (refine Rg4.w4_read (Rg4.want_none rfl) rfl rfl ?_; apply Exists.intro; refine ⟨fun w' hw' hcl' => ?_, ?_⟩; focus (subst hw'; obtain ⟨⟨r0, r1, r2, r3, r4, r5, r6, r7, r8, r9, r10, r11⟩, p0, p1, p2, p3, p4, p5, p6, p7, p8, p9, p10, p11⟩ := HC.out; replace r0 := st.oldCell (i := 0) get0 r0; replace r1 := st.oldCell (i := 0) get0 r1; replace r2 := st.oldCell (i := 0) get0 r2; replace r3 := st.oldCell (i := 0) get0 r3; replace r4 := st.oldCell (i := 0) get0 r4; replace r5 := st.oldCell (i := 0) get0 r5; replace r6 := st.oldCell (i := 0) get0 r6; replace r7 := st.oldCell (i := 0) get0 r7; replace r8 := st.oldCell (i := 0) get0 r8; replace r9 := st.oldCell (i := 0) get0 r9; replace r10 := st.oldCell (i := 0) get0 r10; replace r11 := st.oldCell (i := 0) get0 r11; replace p0 := st.oldCell (i := 0) get0 p0; replace p1 := st.oldCell (i := 0) get0 p1; replace p2 := st.oldCell (i := 0) get0 p2; replace p3 := st.oldCell (i := 0) get0 p3; replace p4 := st.oldCell (i := 0) get0 p4; replace p5 := st.oldCell (i := 0) get0 p5; replace p6 := st.oldCell (i := 0) get0 p6; replace p7 := st.oldCell (i := 0) get0 p7; replace p8 := st.oldCell (i := 0) get0 p8; replace p9 := st.oldCell (i := 0) get0 p9; replace p10 := st.oldCell (i := 0) get0 p10; replace p11 := st.oldCell (i := 0) get0 p11; (focus (first | (go_simp; done) | (go_simp; first | rfl | (rw [if_neg] <;> first | rfl | omega) | (rw [if_pos] <;> first | rfl | omega))))); (try simp only [Rg4.nrm]))
      (refine Rg4.w4_any (Rg4.want_none rfl) rfl ?_; apply Exists.intro; refine ⟨fun w' => ?_, ?_⟩; (focus (first | (go_simp; done) | (go_simp; first | rfl | (rw [if_neg] <;> first | rfl | omega) | (rw [if_pos] <;> first | rfl | omega)))); (try simp only [Rg4.nrm]))
      refine Rg4.w4_nil (fun w' hw' hcl' _ => ?_); subst hw'; clear hcl'
      go_wp2_with fail
      go_roundg (n - (j + 1))
      case measure => omega
      case rel => exact ⟨j + 1, by omega, by omega, by go_num, st⟩
    · obtain rfl : j = n := by omega
      go_wp2_with fail
      go_ret
      exact ⟨rfl, st.ext0⟩
end Go.Proofs.Ytekngjkjgmplpaa
