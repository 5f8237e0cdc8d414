/- Sets of names. -/
import Derived.Test.YtpenjnccdachaaaSlStr
import Derived.Test.YtpenjnccdachaaaName
namespace Go.Proofs.Ytpenjnccdachaaa
set_option linter.unusedSimpArgs false
set_option linter.unusedVariables false
open Go Go.RowKit
/-- The set of the right names of a list. -/
@[irreducible] def nameSet (l : List (List UInt8)) : List (List UInt8) := Lib.compact ((l.filter nameR).mergeSort fun x y => decide (x ≤ y))
theorem nameSet_eq (l : List (List UInt8)) : nameSet l = Lib.compact ((l.filter nameR).mergeSort fun x y => decide (x ≤ y)) := by unfold nameSet; rfl
theorem nameSet_set (l : List (List UInt8)) : SSet strLt nameR l (nameSet l) := by rw [nameSet_eq]; exact sorted_set l nameR
theorem nameSet_len (l : List (List UInt8)) : (nameSet l).length ≤ l.length := (nameSet_set l).len (strOrd nameR).irr
/-- A new slice of strings. -/
def NewStr (W w' : World) (a : Option Addr) (c : Nat) (xs : List (List UInt8)) : Prop := FreshI W w' (rowI 9 1 (.slice a xs.length c) xs.length (cellsL xs))
theorem NewStr.fl {W w' : World} {a : Option Addr} {c : Nat} {xs : List (List UInt8)} (h : NewStr W w' a c xs) : (xs.length ≤ c ∧ c ≤ maxLen) ∧ Fl w' a xs.length xs := FreshI.fl h
theorem refSet_c (a : Option Addr) (n c : Nat) (l : List (List UInt8)) (W : World) (h : Fl W a n l) (hn : n ≤ 2000000) (hs : ∀ x ∈ l, x.length ≤ 1000000000) :
    Calls Try.prog 33 #[.slice a n c] W fun e w' => ∃ va vc, e = .returned (.slice va (nameSet l).length vc) ∧ NewStr W w' va vc (nameSet l) := by
  refine (refSet_any a n c l W h hn hs).mono ?_
  rintro e w' ⟨out, va, vc, rfl, h1, h2⟩
  have := h1.uniq (strOrd nameR) (nameSet_set l)
  subst this
  exact ⟨va, vc, rfl, h2⟩
set_option maxRecDepth 100000 in
set_option maxHeartbeats 1000000 in
theorem nameSet_any (a : Option Addr) (n c : Nat) (l : List (List UInt8)) (W : World) (h : Fl W a n l) (hn : n ≤ 2000000) (hs : ∀ x ∈ l, x.length ≤ 100000) :
    Calls Try.prog 38 #[.slice a n c] W fun e w' => ∃ va vc, e = .returned (.slice va (nameSet l).length vc) ∧ NewStr W w' va vc (nameSet l) := by
  have H := Lib.hid h
  have HNL := Lib.hid (And.intro h.1 hs)
  clear h hs
  have st := (Own.startOld W).row_nil 9 1
  (try simp only [Value.cells, List.cons_append, List.nil_append, List.set, spl, putIt, pick, List.map_cons, List.map_nil, List.getElem?_cons_zero, List.getElem?_cons_succ, Option.getD_some, List.drop_succ_cons, List.drop_zero, List.drop_nil, List.append_nil, unB] at st)
  (try clear hc); have hc := st.facts; (try simp only [factsOf, blkI, blkFacts, rowI, byI, datI, nullI, oldI, penI, rdI, rdAnyI, rdOverI, Nat.zero_add, Nat.reduceAdd, and_true, true_and, and_self] at hc)
  go_enter Try.func38, Try.ntmps38
  go_wp2_with fail
  go_loopg [3, 8] n (fun k v i wr => ∃ (j m : Nat) (va : Option Addr) (vc : Nat), j ≤ n ∧ k = n - j ∧ m ≤ j ∧ i = .int .i64 (j : Int) ∧ v = .slice va m vc ∧ Own (fun _ => False) (fun _ => True) W [oldI W, rowI 9 1 (.slice va m vc) m (cellsL ((l.take j).filter nameR))] wr)
  case atStart => exact ⟨0, 0, none, 0, by omega, by omega, by omega, rfl, rfl, st⟩
  case round =>
    obtain ⟨j, m, va, vc, hj, rfl, hmj, rfl, rfl, st'⟩ := hrel
    clear st hc
    have st := st'
    clear st'
    (try simp only [Value.cells, List.cons_append, List.nil_append, List.set, spl, putIt, pick, List.map_cons, List.map_nil, List.getElem?_cons_zero, List.getElem?_cons_succ, Option.getD_some, List.drop_succ_cons, List.drop_zero, List.drop_nil, List.append_nil, unB] at st)
    (try clear hc); have hc := st.facts; (try simp only [factsOf, blkI, blkFacts, rowI, byI, datI, nullI, oldI, penI, rdI, rdAnyI, rdOverI, Nat.zero_add, Nat.reduceAdd, and_true, true_and, and_self] at hc)
    by_cases hjn : j < n
    · obtain ⟨b, off, ha, hcell⟩ := H.out.str (by omega)
      have hjl : j < l.length := by have := HNL.out.1; omega
      have r0 := st.oldCell (i := 0) get0 (hcell j l[j] (List.getElem?_eq_getElem hjl))
      have hts : l.take (j + 1) = l.take j ++ [l[j]] := (List.take_append_getElem hjl).symm
      have hxl := HNL.out.2 l[j] (List.getElem_mem hjl)
      clear hcell
      generalize l[j] = x at *
      have HX := Lib.hid hts
      clear hts
      subst ha
      unfold S at r0
      go_wp2_with fail
      refine (right_any x _ hxl).mono ?_
      rintro en w ⟨rfl, hx⟩
      replace st := st.ext hx
      clear hx
      (try clear hc); have hc := st.facts; (try simp only [factsOf, blkI, blkFacts, rowI, byI, datI, nullI, oldI, penI, rdI, rdAnyI, rdOverI, Nat.zero_add, Nat.reduceAdd, and_true, true_and, and_self] at hc)
      by_cases hr : nameR x = true
      · rw [hr]
        have HF : Hid ((l.take (j + 1)).filter nameR = (l.take j).filter nameR ++ [x]) := Lib.hid (by rw [HX.out, List.filter_append]; simp [hr])
        clear hr
        go_wp2_with (first
            | ((with_reducible refine wl_append ?_ (fun K hK => ?_)); (rfl); (obtain ⟨inf, hinf, hz0, hz1, hz2⟩ := strInfo); (refine owp_append rfl st 1 get1 Try.underlying64 hinf hz0 hz1 hz2 rfl (by decide) rfl rfl ((st.blk (i := 2) get2).flat rfl) (by first | exact cellsL_all _ | simp [Value.oneCell']) (by simp only [maxLen]; omega) (by omega) ?_); (clear hinf hz0 hz1 hz2 inf); (clear st; intro v' w st); (obtain ⟨va', vc', rfl⟩ := own_slice (st.row (i := 1) get1)); (try simp only [Value.cells, List.cons_append, List.nil_append, List.set, spl, putIt, pick, List.map_cons, List.map_nil, List.getElem?_cons_zero, List.getElem?_cons_succ, Option.getD_some, List.drop_succ_cons, List.drop_zero, List.drop_nil, List.append_nil, unB] at st); (try simp only [Nat.zero_add] at st); (try clear hc); have hc := st.facts; (try simp only [factsOf, blkI, blkFacts, rowI, byI, datI, nullI, oldI, penI, rdI, rdAnyI, rdOverI, Nat.zero_add, Nat.reduceAdd, and_true, true_and, and_self] at hc))
            | ((with_reducible refine wl_buildSlice ?_ (fun K hK => ?_)); (rfl); ((refine owp_buildSlice (o := ⟨some 16, _, _, _, _, _⟩) rfl st ?_; apply Exists.intro; apply Exists.intro; apply Exists.intro; apply Exists.intro; refine ⟨?_, ?_⟩; (focus (go_simp; (first | done | exact ⟨⟨rfl, rfl⟩, rfl⟩ | rfl))); (clear st; intro b16 w hb st; clear hb)); (try simp only [Value.cells, List.cons_append, List.nil_append, List.set, spl, putIt, pick, List.map_cons, List.map_nil, List.getElem?_cons_zero, List.getElem?_cons_succ, Option.getD_some, List.drop_succ_cons, List.drop_zero, List.drop_nil, List.append_nil, unB] at st); (try clear hc); have hc := st.facts; (try simp only [factsOf, blkI, blkFacts, rowI, byI, datI, nullI, oldI, penI, rdI, rdAnyI, rdOverI, Nat.zero_add, Nat.reduceAdd, and_true, true_and, and_self] at hc))))
        have st' := st.keep [0, 1] (by decide) (by simp)
        go_roundg (n - (j + 1))
        case measure => omega
        case rel => exact ⟨j + 1, m + 1, va', vc', by omega, rfl, by omega, by go_num, rfl, by rw [HF.out, cellsL_append, cellsL_one', str_cells]; simpa [pick] using st'⟩
      · have hr' : nameR x = false := by simpa using hr
        rw [hr']
        have HF : Hid ((l.take (j + 1)).filter nameR = (l.take j).filter nameR) := Lib.hid (by rw [HX.out, List.filter_append]; simp [hr'])
        clear hr hr'
        go_wp2_with fail
        go_roundg (n - (j + 1))
        case measure => omega
        case rel => exact ⟨j + 1, m, va, vc, by omega, rfl, by omega, by go_num, rfl, by rw [HF.out]; exact st⟩
    · obtain rfl : j = n := by omega
      have htk : l.take j = l := List.take_of_length_le (by have := HNL.out.1; omega)
      rw [htk] at st
      clear htk
      go_wp2_with fail
      refine (sortStr_c st 1 get1 (by omega)).mono ?_
      rintro en w ⟨rfl, st'⟩
      clear st
      have st := st'
      clear st'
      (try simp only [Value.cells, List.cons_append, List.nil_append, List.set, spl, putIt, pick, List.map_cons, List.map_nil, List.getElem?_cons_zero, List.getElem?_cons_succ, Option.getD_some, List.drop_succ_cons, List.drop_zero, List.drop_nil, List.append_nil, unB] at st)
      (try clear hc); have hc := st.facts; (try simp only [factsOf, blkI, blkFacts, rowI, byI, datI, nullI, oldI, penI, rdI, rdAnyI, rdOverI, Nat.zero_add, Nat.reduceAdd, and_true, true_and, and_self] at hc)
      go_wp2_with fail
      refine (compactStr_c st 1 get1 (by omega)).mono ?_
      rintro en w ⟨rfl, st'⟩
      clear st
      have st := st'
      clear st'
      have hfin := st.toFresh (i := 1) get1
      rw [← nameSet_eq l] at hfin ⊢
      have HF := Lib.hid hfin
      clear hfin st
      go_wp2_with fail
      go_ret
      exact ⟨va, vc, rfl, HF.out⟩
set_option maxRecDepth 100000 in
set_option maxHeartbeats 1000000 in
theorem isSet_any (a : Option Addr) (n c : Nat) (l : List (List UInt8)) (W : World) (h : Fl W a n l) (hn : n ≤ 2000000) (hs : ∀ x ∈ l, x.length ≤ 100000) :
    Calls Try.prog 39 #[.slice a n c] W fun e w' => e = .returned (.bool (decide (nameSet l = l))) ∧ Ext W w' := by
  have H := Lib.hid h
  have HS := Lib.hid hs
  have hle : Hid ((nameSet l).length ≤ 2000000) := Lib.hid (Nat.le_trans (nameSet_len l) (h.1 ▸ hn))
  clear h hs
  go_enter Try.func39, Try.ntmps39
  go_wp2_with fail
  refine (nameSet_any a n c l W H.out hn HS.out).mono ?_
  rintro en w ⟨va, vc, rfl, hx⟩
  have HX := Lib.hid hx
  clear hx
  go_wp2_with fail
  refine (equalStr_any _ _ _ (nameSet l) _ _ _ l _ HX.out.fl.2 (H.out.ext HX.out.1) (by have := hle.out; omega) (by omega)).mono ?_
  rintro en w' ⟨rfl, hx⟩
  have HX2 := Lib.hid hx
  clear hx
  go_wp2_with fail
  go_ret
  exact ⟨rfl, HX.out.1.trans HX2.out⟩
set_option maxRecDepth 100000 in
set_option maxHeartbeats 1000000 in
theorem nameHas_any (a : Option Addr) (n c : Nat) (l : List (List UInt8)) (s : List UInt8) (W : World) (h : Fl W a n l) (hn : n ≤ 2000000) (hs : s.length ≤ 100000) :
    Calls Try.prog 40 #[.slice a n c, S s] W fun e w' => e = .returned (.bool (nameR s && decide (s ∈ l))) ∧ Ext W w' := by
  have H := Lib.hid h
  clear h
  unfold S
  go_enter Try.func40, Try.ntmps40
  go_wp2_with fail
  refine (right_any s _ hs).mono ?_
  rintro en w ⟨rfl, hx⟩
  have HX := Lib.hid hx
  clear hx
  by_cases hr : nameR s = true
  · have HR := Lib.hid hr
    rw [hr]
    go_wp2_with fail
    refine (containsStr_any a n c l s _ (H.out.ext HX.out) (by omega)).mono ?_
    rintro en w' ⟨rfl, hx⟩
    have HX2 := Lib.hid hx
    clear hx hr
    go_wp2_with fail
    go_ret
    exact ⟨by rw [HR.out]; simp, HX.out.trans HX2.out⟩
  · have hr' : nameR s = false := by simpa using hr
    have HR := Lib.hid hr'
    rw [hr']
    clear hr hr'
    go_wp2_with fail
    go_ret
    exact ⟨by rw [HR.out]; simp, HX.out⟩
end Go.Proofs.Ytpenjnccdachaaa
