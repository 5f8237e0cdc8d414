/- Tickets read back; how great keys are; what first answers. -/
import Derived.Test.YtdkemfimhdjdiaaTickH
import Derived.Test.YtdkemfimhdjdiaaTickF
import Derived.Test.YtdkemfimhdjdiaaRoleP
namespace Go.Proofs.Ytdkemfimhdjdiaa
set_option linter.unusedSimpArgs false
set_option linter.unusedVariables false
open Go Go.RowKit
theorem rdTick_put (x : TickT) (h : tickOkB x = true) (hx : x.xs.length = x.n) : rdTick (tickB x) = .ok ((x.o, x.cl, x.t.toNat, x.xs), []) := by
  obtain ⟨h1, h2, h3, h4, h5⟩ := tickOk_is h
  obtain ⟨o, cl, t, a, n, c, tg⟩ := x
  simp only at *
  subst h5
  obtain ⟨tn, rfl⟩ : ∃ m : Nat, t = (m : Int) := ⟨t.toNat, by omega⟩
  have e0 : tickB ⟨o, cl, (tn : Int), a, 8, c, tg⟩ = numB o.length ++ o ++ (numB cl.length ++ cl ++ (numB tn ++ (numB tg.length ++ tg ++ []))) := by simp [tickB, hx]
  unfold rdTick
  have e1 := rdNumber_put 1099511627776 tn (numB tg.length ++ tg ++ []) (by omega) (by decide)
  have e2 := rdText_put 8 tg [] (by omega) (by decide)
  rw [e0, rdName_put o _ h1, bdm_ok, rdName_put cl _ h2, bdm_ok, show (1099511627776 : Int) = ((1099511627776 : Nat) : Int) from rfl, e1, bdm_ok, show (8 : Int) = ((8 : Nat) : Int) from rfl, e2, bdm_ok, if_pos hx]
  simp
theorem Own.blkToBy {fr al : Nat → Prop} {w0 w : World} {L : List It} (st : Own fr al w0 L w) {i b n : Nat} {xs : List UInt8} (hi : L[i]? = some (blkI b (xs.map B))) (hn : xs.length = n) : Own fr al w0 (L.set i (byI (some ⟨b, 0, none⟩) n xs)) w :=
  st.conv hi fun e s ⟨h1, h2⟩ h3 => ⟨fun _ => False, fun k => k = b, ⟨by subst hn; exact h2.by, fun _ ad had => by cases had; rfl⟩, fun _ q => q.elim, fun k hk => .inl (hk ▸ h1), fun _ q => q.elim⟩
/-- How great keys are. -/
def kwt (k : KeyT) : Nat := 10 + k.who.length + k.n
def weightK (l : List KeyT) : Nat := (l.map kwt).sum
theorem weightK_snoc (l : List KeyT) (x : KeyT) : weightK (l ++ [x]) = weightK l + kwt x := by simp [weightK]
theorem weightK_cons (l : List KeyT) (x : KeyT) : weightK (x :: l) = kwt x + weightK l := by simp [weightK]
theorem weightK_take : ∀ (l : List KeyT) (j : Nat), weightK (l.take j) ≤ weightK l
  | [], j => by simp [weightK]
  | x :: l, 0 => by simp [weightK]
  | x :: l, j + 1 => by have := weightK_take l j; rw [List.take_succ_cons, weightK_cons, weightK_cons]; omega
theorem weightK_len : ∀ (l : List KeyT), 10 * l.length ≤ weightK l
  | [] => by simp [weightK]
  | x :: l => by have := weightK_len l; rw [weightK_cons, List.length_cons]; unfold kwt; omega
theorem weightK_mem : ∀ (l : List KeyT) (x : KeyT), x ∈ l → kwt x ≤ weightK l
  | [], x, h => by simp at h
  | y :: l, x, h => by
    rw [weightK_cons]
    rcases List.mem_cons.1 h with e | e
    · subst e; omega
    · have := weightK_mem l x e; omega
set_option maxRecDepth 100000 in
set_option maxHeartbeats 1000000 in
theorem keysGreat_any (a : Option Addr) (n c : Nat) (l : List KeyT) (W : World) (h : Fl W a n l) (hw : weightK l ≤ 2000000000) :
    Calls Try.prog 43 #[.slice a n c, .slice none 0 0] W fun e w' => e = .returned (.int .i64 (weightK l : Int)) ∧ Ext W w' := by
  have hnw : n ≤ 2000000000 := by have := weightK_len l; have := h.1; omega
  have H := Lib.hid h
  have HN := Lib.hid (And.intro h.1 hw)
  have st := Own.startOld W
  clear h hw
  (try simp only [Value.cells, List.cons_append, List.nil_append, List.set, spl, putIt, pick, List.map_cons, List.map_nil, List.getElem?_cons_zero, List.getElem?_cons_succ, Option.getD_some, List.drop_succ_cons, List.drop_zero, List.drop_nil, List.append_nil, unB] at st)
  (try clear hc); have hc := st.facts; (try simp only [factsOf, blkI, blkFacts, rowI, byI, datI, nullI, oldI, penI, rdI, rdAnyI, rdOverI, Nat.zero_add, Nat.reduceAdd, and_true, true_and, and_self] at hc)
  go_enter Try.func43, Try.ntmps43
  go_wp2_with fail
  go_loopg [5, 12] n (fun k v i wr => ∃ (j q : Nat), j ≤ n ∧ k = n - j ∧ q ≤ 2000000000 ∧ Hid (q = weightK (l.take j)) ∧ i = .int .i64 (j : Int) ∧ v = .int .i64 (q : Int) ∧ Own (fun _ => False) (fun _ => True) W [oldI W] wr)
  case atStart => exact ⟨0, 0, by omega, by omega, by omega, Lib.hid (by simp [weightK]), rfl, rfl, st⟩
  case round =>
    obtain ⟨j, q, hj, rfl, hq, HQ, rfl, rfl, st'⟩ := hrel
    clear st hc
    have st := st'
    clear st'
    (try simp only [Value.cells, List.cons_append, List.nil_append, List.set, spl, putIt, pick, List.map_cons, List.map_nil, List.getElem?_cons_zero, List.getElem?_cons_succ, Option.getD_some, List.drop_succ_cons, List.drop_zero, List.drop_nil, List.append_nil, unB] at st)
    (try clear hc); have hc := st.facts; (try simp only [factsOf, blkI, blkFacts, rowI, byI, datI, nullI, oldI, penI, rdI, rdAnyI, rdOverI, Nat.zero_add, Nat.reduceAdd, and_true, true_and, and_self] at hc)
    by_cases hjn : j < n
    · obtain ⟨b, off, ha, hcell⟩ := H.out.key (by omega)
      have hjl : j < l.length := by have := HN.out.1; omega
      have r0 := st.oldCell (i := 0) get0 (hcell j l[j] (List.getElem?_eq_getElem hjl)).1
      have r1 := st.oldCell (i := 0) get0 (hcell j l[j] (List.getElem?_eq_getElem hjl)).2
      have hts : l.take (j + 1) = l.take j ++ [l[j]] := (List.take_append_getElem hjl).symm
      have hw1 := weightK_take l (j + 1)
      rw [hts, weightK_snoc, ← HQ.out] at hw1
      have hw2 : q + kwt l[j] ≤ 2000000000 := by have := HN.out.2; omega
      have HX : Hid (q + kwt l[j] = weightK (l.take (j + 1))) := Lib.hid (by rw [hts, weightK_snoc, ← HQ.out])
      clear hcell hts hw1
      generalize l[j] = x at *
      clear hjl
      subst ha
      unfold S at r0
      have hszz : ∀ s : List UInt8, (⟨s.toArray⟩ : ByteArray).size = s.length := fun s => by simp [ByteArray.size]
      have HW : Hid (kwt x = 10 + x.who.length + x.n) := Lib.hid rfl
      have hw3 : q + (10 + x.who.length + x.n) ≤ 2000000000 := by rw [← HW.out]; exact hw2
      clear hw2
      go_wp2_with ((first
            | ((with_reducible refine wl_alloc ?_ (fun K hK => ?_)); rfl; refine owp_alloc (o := ⟨some 7, _, _, _, _, _⟩) rfl st ?_; apply Exists.intro; apply Exists.intro; refine ⟨?_, ?_⟩; (focus (first | (go_simp; done) | (go_simp; rfl))); (clear st; intro b7 w hb st; clear hb))
            | ((with_reducible refine wl_store ?_ (fun K hK => ?_)); rfl; refine owp_store rfl st ?_; apply Exists.intro; apply Exists.intro; refine ⟨?_, ?_, ?_⟩; (focus (go_simp; try rfl)); (focus (go_simp; try rfl)); (first | (with_reducible refine ⟨0, _, _, _, _, get0, rfl, rfl, ?_, ?_, ?_, ?_⟩) | (with_reducible refine ⟨1, _, _, _, _, get1, rfl, rfl, ?_, ?_, ?_, ?_⟩) | (with_reducible refine ⟨2, _, _, _, _, get2, rfl, rfl, ?_, ?_, ?_, ?_⟩) | (with_reducible refine ⟨3, _, _, _, _, get3, rfl, rfl, ?_, ?_, ?_, ?_⟩) | (with_reducible refine ⟨4, _, _, _, _, get4, rfl, rfl, ?_, ?_, ?_, ?_⟩) | (with_reducible refine ⟨5, _, _, _, _, get5, rfl, rfl, ?_, ?_, ?_, ?_⟩) | (with_reducible refine ⟨6, _, _, _, _, get6, rfl, rfl, ?_, ?_, ?_, ?_⟩) | (with_reducible refine ⟨7, _, _, _, _, get7, rfl, rfl, ?_, ?_, ?_, ?_⟩) | (with_reducible refine ⟨8, _, _, _, _, get8, rfl, rfl, ?_, ?_, ?_, ?_⟩)); (kernel_rfl); (simp [Value.cells]); (rfl); (clear st; intro w st))
            | ((with_reducible refine wl_alloc ?_ (fun K hK => ?_)); rfl; refine owp_alloc (o := ⟨some 9, _, _, _, _, _⟩) rfl st ?_; apply Exists.intro; apply Exists.intro; refine ⟨?_, ?_⟩; (focus (first | (go_simp; done) | (go_simp; rfl))); (clear st; intro b9 w hb st; clear hb))
            | ((with_reducible refine wl_buildSlice ?_ (fun K hK => ?_)); rfl; refine owp_buildSlice (o := ⟨some 36, _, _, _, _, _⟩) rfl st ?_; apply Exists.intro; apply Exists.intro; apply Exists.intro; apply Exists.intro; refine ⟨?_, ?_⟩; (focus (go_simp; (first | done | exact ⟨⟨rfl, rfl⟩, rfl⟩ | rfl))); (clear st; intro b36 w hb st; clear hb))); (try simp only [Value.cells, List.cons_append, List.nil_append, List.set, spl, putIt, pick, List.map_cons, List.map_nil, List.getElem?_cons_zero, List.getElem?_cons_succ, Option.getD_some, List.drop_succ_cons, List.drop_zero, List.drop_nil, List.append_nil, unB] at st); (try clear hc); have hc := st.facts; (try simp only [factsOf, blkI, blkFacts, rowI, byI, datI, nullI, oldI, penI, rdI, rdAnyI, rdOverI, Nat.zero_add, Nat.reduceAdd, and_true, true_and, and_self] at hc))
      have st' := st.keep [0] (by decide) (by simp)
      go_roundg (n - (j + 1))
      case measure => omega
      case rel => exact ⟨j + 1, q + (10 + x.who.length + x.n), by omega, rfl, hw3, by rw [← HW.out]; exact HX, by go_num, by go_num, by simpa [pick] using st'⟩
    · obtain rfl : j = n := by omega
      have htk : weightK l = q := by rw [HQ.out, List.take_of_length_le (by have := HN.out.1; omega)]
      have HE := Lib.hid htk
      clear htk
      go_wp2_with fail
      go_loopg [5, 29] 0 (fun k v i wr => v = .int .i64 (q : Int) ∧ i = .int .i64 0 ∧ Own (fun _ => False) (fun _ => True) W [oldI W] wr)
      case atStart => exact ⟨rfl, rfl, st⟩
      case round =>
        obtain ⟨rfl, rfl, st'⟩ := hrel
        clear st hc
        have st := st'
        clear st'
        go_wp2_with fail
        go_ret
        exact ⟨by rw [HE.out]; rfl, st.ext0⟩
/-- An ask, and its texts' lengths. -/
structure AskT where
  t : TickT
  ow : List UInt8
  cl : List UInt8
  now : Int
  st : Int
deriving Inhabited
def askC (x : AskT) : List Value := [S x.t.o, S x.t.cl, .int .i64 x.t.t, .slice x.t.a x.t.n x.t.c, S x.ow, S x.cl, .int .i64 x.now, .int .i64 x.st]
def askV (x : AskT) : Value := .agg #[S x.t.o, S x.t.cl, .int .i64 x.t.t, .slice x.t.a x.t.n x.t.c, S x.ow, S x.cl, .int .i64 x.now, .int .i64 x.st]
instance fltAsk : Flt AskT := ⟨8, askC, fun _ => rfl, by decide, fun x u hu => by simp [askC] at hu; rcases hu with rfl | rfl | rfl | rfl | rfl | rfl | rfl | rfl <;> rfl⟩
def askW (x : AskT) : Nat := x.t.o.length + x.t.cl.length + x.t.n + x.ow.length + x.cl.length
set_option maxRecDepth 100000 in
set_option maxHeartbeats 1000000 in
theorem askLong_any (x : AskT) (W : World) (hl : askW x ≤ 2000000000) : Calls Try.prog 33 #[askV x] W fun e w' => e = .returned (.bool (decide (300 < askW x))) ∧ Ext W w' := by
  have HD : Hid (askW x = x.t.o.length + x.t.cl.length + x.t.n + x.ow.length + x.cl.length) := Lib.hid rfl
  obtain ⟨q, hq⟩ : ∃ q, askW x = q := ⟨_, rfl⟩
  rw [hq] at hl HD ⊢
  have hszz : ∀ s : List UInt8, (⟨s.toArray⟩ : ByteArray).size = s.length := fun s => by simp [ByteArray.size]
  obtain ⟨⟨o, cl, t, a, n, c, tg⟩, ow, cc, now, s⟩ := x
  simp only at HD
  have h1 : o.length + cl.length + n + ow.length + cc.length = q := HD.out.symm
  have hb : o.length + cl.length + n + ow.length + cc.length ≤ 2000000000 := by omega
  have HH := Lib.hid h1
  clear h1
  have st := Own.startOld W
  unfold askV S
  simp only
  clear hq
  (try simp only [Value.cells, List.cons_append, List.nil_append, List.set, spl, putIt, pick, List.map_cons, List.map_nil, List.getElem?_cons_zero, List.getElem?_cons_succ, Option.getD_some, List.drop_succ_cons, List.drop_zero, List.drop_nil, List.append_nil, unB] at st)
  (try clear hc); have hc := st.facts; (try simp only [factsOf, blkI, blkFacts, rowI, byI, datI, nullI, oldI, penI, rdI, rdAnyI, rdOverI, Nat.zero_add, Nat.reduceAdd, and_true, true_and, and_self] at hc)
  go_enter Try.func33, Try.ntmps33
  go_wp2_with ((((with_reducible refine wl_box ?_ (fun K hK => ?_)); rfl; refine owp_box (o := ⟨some 1, _, _, _, _, _⟩) rfl st ?_; apply Exists.intro; refine ⟨?_, ?_⟩; (focus (go_simp; try rfl)); (clear st; intro b1 w hb st; clear hb))); (try simp only [Value.cells, List.cons_append, List.nil_append, List.set, spl, putIt, pick, List.map_cons, List.map_nil, List.getElem?_cons_zero, List.getElem?_cons_succ, Option.getD_some, List.drop_succ_cons, List.drop_zero, List.drop_nil, List.append_nil, unB] at st); (try clear hc); have hc := st.facts; (try simp only [factsOf, blkI, blkFacts, rowI, byI, datI, nullI, oldI, penI, rdI, rdAnyI, rdOverI, Nat.zero_add, Nat.reduceAdd, and_true, true_and, and_self] at hc))
  go_ret
  refine ⟨?_, st.ext0⟩
  show Ending.returned (Value.bool _) = _
  have e1 : ∀ m : Int, -9223372036854775808 ≤ m ∧ m ≤ 9223372036854775807 → wrap64 m = m := fun m hm => by unfold wrap64; omega
  (try rw [e1 ((o.length : Int) + cl.length + n) (by omega)])
  (try rw [e1 ((o.length : Int) + cl.length + n + ow.length) (by omega)])
  (try rw [e1 ((o.length : Int) + cl.length + n + ow.length + cc.length) (by omega)])
  congr 2
  rw [Bool.eq_iff_iff]; simp; have := HH.out; omega
end Go.Proofs.Ytdkemfimhdjdiaa
