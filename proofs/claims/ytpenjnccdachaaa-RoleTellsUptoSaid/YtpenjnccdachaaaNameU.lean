/- Unions of names, and what both have. -/
import Derived.Test.YtpenjnccdachaaaConcatStr
import Derived.Test.YtpenjnccdachaaaDelStr
namespace Go.Proofs.Ytpenjnccdachaaa
set_option linter.unusedSimpArgs false
set_option linter.unusedVariables false
open Go Go.RowKit
theorem concat2_any (b k : Nat) (a : Option Addr) (n c : Nat) (l : List (List UInt8)) (a' : Option Addr) (n' c' : Nat) (l' : List (List UInt8)) (W : World) (h0 : W.cell? ⟨b, 0, none⟩ = some (.slice a n c)) (h1 : W.cell? ⟨b, 1, none⟩ = some (.slice a' n' c')) (h : Fl W a n l) (h' : Fl W a' n' l') (hn : n ≤ 900000) (hn' : n' ≤ 900000) :
    Calls Try.prog 109 #[.slice (some ⟨b, 0, none⟩) 2 k] W fun e w' => ∃ va vc, e = .returned (.slice va (l ++ l').length vc) ∧ NewStr W w' va vc (l ++ l') := by
  have hA : Arr 1 slsR W (some ⟨b, 0, none⟩) 2 [l, l'] := ⟨rfl, fun _ => ⟨b, 0, rfl, fun i x hi => by
    match i, hi with
    | 0, hi => simp at hi; subst hi; exact ⟨a, n, c, h0, h⟩
    | 1, hi => simp at hi; subst hi; exact ⟨a', n', c', h1, h'⟩
    | i + 2, hi => simp at hi⟩⟩
  have e1 : [l, l'].flatten = l ++ l' := by simp
  have := concatStr_any (some ⟨b, 0, none⟩) 2 k [l, l'] W hA (by omega) (by have := h.1; have := h'.1; simp [lenSum]; omega)
  rw [e1] at this
  exact this
set_option maxRecDepth 100000 in
set_option maxHeartbeats 1000000 in
theorem union_any (a : Option Addr) (n c : Nat) (l : List (List UInt8)) (a' : Option Addr) (n' c' : Nat) (l' : List (List UInt8)) (W : World) (h : Fl W a n l) (h' : Fl W a' n' l') (hn : n ≤ 900000) (hn' : n' ≤ 900000) (hs : ∀ x ∈ l, x.length ≤ 100000) (hs' : ∀ x ∈ l', x.length ≤ 100000) :
    Calls Try.prog 42 #[.slice a n c, .slice a' n' c'] W fun e w' => ∃ va vc, e = .returned (.slice va (nameSet (l ++ l')).length vc) ∧ NewStr W w' va vc (nameSet (l ++ l')) := by
  have H := Lib.hid (And.intro h h')
  have HS : Hid (∀ x ∈ l ++ l', x.length ≤ 100000) := Lib.hid (fun x hx => by rcases List.mem_append.1 hx with q | q; exact hs x q; exact hs' x q)
  clear h h' hs hs'
  have st := Own.startOld W
  (try simp only [Value.cells, List.cons_append, List.nil_append, List.set, spl, putIt, pick, List.map_cons, List.map_nil, List.getElem?_cons_zero, List.getElem?_cons_succ, Option.getD_some, List.drop_succ_cons, List.drop_zero, List.drop_nil, List.append_nil, unB] at st)
  (try clear hc); have hc := st.facts; (try simp only [factsOf, blkI, blkFacts, rowI, byI, datI, nullI, oldI, penI, rdI, rdAnyI, rdOverI, Nat.zero_add, Nat.reduceAdd, and_true, true_and, and_self] at hc)
  go_enter Try.func42, Try.ntmps42
  go_wp2_with (first
      | ((with_reducible refine wl_buildSlice ?_ (fun K hK => ?_)); (rfl); ((refine owp_buildSlice (o := ⟨some 7, _, _, _, _, _⟩) rfl st ?_; apply Exists.intro; apply Exists.intro; apply Exists.intro; apply Exists.intro; refine ⟨?_, ?_⟩; (focus (go_simp; (first | done | exact ⟨⟨rfl, rfl⟩, rfl⟩ | rfl))); (clear st; intro b7 w hb st; clear hb)); (try simp only [Value.cells, List.cons_append, List.nil_append, List.set, spl, putIt, pick, List.map_cons, List.map_nil, List.getElem?_cons_zero, List.getElem?_cons_succ, Option.getD_some, List.drop_succ_cons, List.drop_zero, List.drop_nil, List.append_nil, unB] at st); (try clear hc); have hc := st.facts; (try simp only [factsOf, blkI, blkFacts, rowI, byI, datI, nullI, oldI, penI, rdI, rdAnyI, rdOverI, Nat.zero_add, Nat.reduceAdd, and_true, true_and, and_self] at hc))))
  have hcc := concat2_any b7 2 a n c l a' n' c' l' w ((st.blk (i := 1) get1).cell 0) ((st.blk (i := 1) get1).cell 1) (st.oldFl (i := 0) get0 H.out.1) (st.oldFl (i := 0) get0 H.out.2) hn hn'
  have HLL : Hid ((l ++ l').length ≤ 1800000) := Lib.hid (by have := H.out.1.1; have := H.out.2.1; simp; omega)
  refine hcc.mono ?_
  clear hcc
  rintro en w ⟨va, vc, rfl, hnew⟩
  replace st := st.fresh hnew
  have HN2 := Lib.hid hnew
  clear hnew hc
  obtain ⟨ll, hll⟩ : ∃ ll, l ++ l' = ll := ⟨_, rfl⟩
  rw [hll] at HS st HN2 HLL ⊢
  have HE := Lib.hid hll
  clear hll
  go_wp2_with fail
  refine (nameSet_any _ _ _ ll _ HN2.out.fl.2 (by have := HLL.out; omega) HS.out).mono ?_
  rintro en w ⟨va', vc', rfl, hnew⟩
  replace st := st.fresh hnew
  clear hnew HN2
  have hfr := st.toFresh (i := 3) get3
  have HF := Lib.hid hfr
  clear hfr st
  go_wp2_with fail
  go_ret
  rw [HE.out]
  exact ⟨va', vc', rfl, HF.out⟩
/-- What both have. -/
def nameBoth (l l' : List (List UInt8)) : List (List UInt8) := (nameSet l).filter fun x => decide (x ∈ l')
set_option maxRecDepth 100000 in
set_option maxHeartbeats 1000000 in
theorem both1_any {fr al : Nat → Prop} {w0 w W : World} {L : List It} {b : Nat} {a' : Option Addr} {n' c' : Nat} {l' : List (List UInt8)} (st : Own fr al w0 L w) (i j : Nat) (hi : L[i]? = some (oldI W)) (hj : L[j]? = some (blkI b [.slice a' n' c'])) (h' : Fl W a' n' l') (hn' : n' ≤ 2000000) (x : List UInt8) (hx : x.length ≤ 100000) :
    Calls Try.prog 111 #[S x, .pointer (some ⟨b, 0, none⟩)] w fun e w' => e = .returned (.bool (!(nameR x && decide (x ∈ l')))) ∧ Ext w w' := by
  have HF := Lib.hid (st.oldFl hi h')
  have r0 := (st.blk hj).cell 0
  simp only [List.getElem?_cons_zero] at r0
  clear st hi hj h'
  unfold S
  go_enter Try.func111, Try.ntmps111
  go_wp2_with fail
  refine (nameHas_any _ _ _ l' x _ HF.out hn' hx).mono ?_
  rintro en w' ⟨rfl, hx⟩
  have HX := Lib.hid hx
  clear hx
  go_wp2_with fail
  go_ret
  exact ⟨by simp, HX.out⟩
set_option maxRecDepth 100000 in
set_option maxHeartbeats 1000000 in
theorem both_any (a : Option Addr) (n c : Nat) (l : List (List UInt8)) (a' : Option Addr) (n' c' : Nat) (l' : List (List UInt8)) (W : World) (h : Fl W a n l) (h' : Fl W a' n' l') (hn : n ≤ 900000) (hn' : n' ≤ 900000) (hs : ∀ x ∈ l, x.length ≤ 100000) :
    Calls Try.prog 43 #[.slice a n c, .slice a' n' c'] W fun e w' => ∃ va vc, e = .returned (.slice va (nameBoth l l').length vc) ∧ NewStr W w' va vc (nameBoth l l') := by
  have H := Lib.hid (And.intro h (And.intro h' hs))
  have HL : Hid ((nameSet l).length ≤ 900000 ∧ ∀ x ∈ nameSet l, nameR x = true ∧ x.length ≤ 100000) := Lib.hid ⟨Nat.le_trans (nameSet_len l) (h.1 ▸ hn), fun x hx => by
    have := ((nameSet_set l).2 x).1 hx; exact ⟨this.2, hs x this.1⟩⟩
  clear h h' hs
  have st := Own.startOld W
  (try simp only [Value.cells, List.cons_append, List.nil_append, List.set, spl, putIt, pick, List.map_cons, List.map_nil, List.getElem?_cons_zero, List.getElem?_cons_succ, Option.getD_some, List.drop_succ_cons, List.drop_zero, List.drop_nil, List.append_nil, unB] at st)
  (try clear hc); have hc := st.facts; (try simp only [factsOf, blkI, blkFacts, rowI, byI, datI, nullI, oldI, penI, rdI, rdAnyI, rdOverI, Nat.zero_add, Nat.reduceAdd, and_true, true_and, and_self] at hc)
  go_enter Try.func43, Try.ntmps43
  go_wp2_with (first
      | ((with_reducible refine wl_box ?_ (fun K hK => ?_)); (rfl); ((refine owp_box (o := ⟨some 3, _, _, _, _, _⟩) rfl st ?_; apply Exists.intro; refine ⟨?_, ?_⟩; (focus (go_simp; try rfl)); (clear st; intro b3 w hb st; clear hb)); (try simp only [Value.cells, List.cons_append, List.nil_append, List.set, spl, putIt, pick, List.map_cons, List.map_nil, List.getElem?_cons_zero, List.getElem?_cons_succ, Option.getD_some, List.drop_succ_cons, List.drop_zero, List.drop_nil, List.append_nil, unB] at st); (try clear hc); have hc := st.facts; (try simp only [factsOf, blkI, blkFacts, rowI, byI, datI, nullI, oldI, penI, rdI, rdAnyI, rdOverI, Nat.zero_add, Nat.reduceAdd, and_true, true_and, and_self] at hc))))
  refine (nameSet_any a n c l _ (st.oldFl (i := 0) get0 H.out.1) (by omega) H.out.2.2).mono ?_
  rintro en w ⟨va, vc, rfl, hnew⟩
  replace st := st.fresh hnew
  clear hnew
  (try simp only [Value.cells, List.cons_append, List.nil_append, List.set, spl, putIt, pick, List.map_cons, List.map_nil, List.getElem?_cons_zero, List.getElem?_cons_succ, Option.getD_some, List.drop_succ_cons, List.drop_zero, List.drop_nil, List.append_nil, unB] at st)
  (try clear hc); have hc := st.facts; (try simp only [factsOf, blkI, blkFacts, rowI, byI, datI, nullI, oldI, penI, rdI, rdAnyI, rdOverI, Nat.zero_add, Nat.reduceAdd, and_true, true_and, and_self] at hc)
  have st2 := st.keep [2, 0, 1] (by decide) (by simp)
  simp only [pick, List.map_cons, List.map_nil, List.getElem?_cons_zero, List.getElem?_cons_succ, Option.getD_some] at st2
  have hdel := deleteFuncStr_c st2 (by have := HL.out.1; omega) 111 #[.pointer (some ⟨b3, 0, none⟩)] (fun x => !(nameR x && decide (x ∈ l'))) (fun _ _ => by kernel_rfl) (fun fr al w0 w x hx st => both1_any st 0 1 get0 get1 H.out.2.1 (by omega) x (HL.out.2 x hx).2)
  clear st st2 hc
  go_wp2_with fail
  refine hdel.mono ?_
  clear hdel
  rintro en w ⟨m, rfl, st⟩
  have hfil : (nameSet l).filter (fun x => !(!(nameR x && decide (x ∈ l')))) = nameBoth l l' := by
    unfold nameBoth
    refine List.filter_congr fun x hx => ?_
    rw [(HL.out.2 x hx).1]; simp
  rw [hfil] at st
  have hm : m = (nameBoth l l').length := strLen (st.row (i := 0) get0)
  have hfr := st.toFresh (i := 0) get0
  subst hm
  have HF := Lib.hid hfr
  clear hfr st hfil
  go_wp2_with fail
  go_ret
  exact ⟨va, vc, rfl, HF.out⟩
set_option maxRecDepth 100000 in
set_option maxHeartbeats 1000000 in
theorem within_any (a : Option Addr) (n c : Nat) (l : List (List UInt8)) (a' : Option Addr) (n' c' : Nat) (l' : List (List UInt8)) (W : World) (h : Fl W a n l) (h' : Fl W a' n' l') (hn : n ≤ 900000) (hn' : n' ≤ 900000) (hs : ∀ x ∈ l, x.length ≤ 100000) :
    Calls Try.prog 44 #[.slice a n c, .slice a' n' c'] W fun e w' => e = .returned (.bool (decide ((nameBoth l l').length = (nameSet l).length))) ∧ Ext W w' := by
  have H := Lib.hid (And.intro h (And.intro h' hs))
  clear h h' hs
  go_enter Try.func44, Try.ntmps44
  go_wp2_with fail
  refine (both_any a n c l a' n' c' l' _ H.out.1 H.out.2.1 hn hn' H.out.2.2).mono ?_
  rintro en w ⟨va, vc, rfl, hnew⟩
  have HX := Lib.hid hnew.1
  clear hnew
  go_wp2_with fail
  refine (nameSet_any a n c l _ (H.out.1.ext HX.out) (by omega) H.out.2.2).mono ?_
  rintro en w' ⟨va', vc', rfl, hnew⟩
  have HX2 := Lib.hid hnew.1
  clear hnew
  obtain ⟨p, hp⟩ : ∃ p, (nameBoth l l').length = p := ⟨_, rfl⟩
  obtain ⟨q, hq⟩ : ∃ q, (nameSet l).length = q := ⟨_, rfl⟩
  rw [hp, hq]
  have HE := Lib.hid (And.intro hp hq)
  clear hp hq
  go_wp2_with fail
  go_ret
  rw [HE.out.1, HE.out.2]
  exact ⟨by show Ending.returned (Value.bool ((p : Int) == (q : Int))) = _; congr 2; rw [Bool.eq_iff_iff]; simp; omega, HX.out.trans HX2.out⟩
end Go.Proofs.Ytpenjnccdachaaa
