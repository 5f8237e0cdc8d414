/- The law NameSets. -/
import Derived.Test.YtpenjnccdachaaaNameH
namespace Go.Proofs.Ytpenjnccdachaaa
set_option linter.unusedSimpArgs false
set_option linter.unusedVariables false
open Go Go.RowKit
theorem eq_len (p q : Nat) : (decide (p = q) == ((p : Int) == (q : Int))) = true := by
  by_cases h : p = q
  · subst h; simp
  · have h2 : ¬ ((p : Int) = (q : Int)) := by omega
    simp [h, h2]
set_option maxRecDepth 100000 in
set_option maxHeartbeats 4000000 in
theorem nameSets_all (a : Option Addr) (n c : Nat) (l : List (List UInt8)) (a' : Option Addr) (n' c' : Nat) (l' : List (List UInt8)) (s : List UInt8) (W : World) (h : Fl W a n l) (h' : Fl W a' n' l') (hw : weight l ≤ 1048576) (hw' : weight l' ≤ 1048576) (hs : s.length ≤ 9223372036854775807) :
    Calls Try.prog 6 #[.slice a n c, .slice a' n' c', S s] W fun e w' => e = .returned (.bool true) ∧ Ext W w' := by
  have H := Lib.hid (And.intro h h')
  have HW := Lib.hid (And.intro hw hw')
  have st := Own.startOld W
  have hsz : (⟨s.toArray⟩ : ByteArray).size = s.length := by simp [ByteArray.size]
  clear h h' hw hw'
  unfold S
  (try simp only [Value.cells, List.cons_append, List.nil_append, List.set, spl, putIt, pick, List.map_cons, List.map_nil, List.getElem?_cons_zero, List.getElem?_cons_succ, Option.getD_some, List.drop_succ_cons, List.drop_zero, List.drop_nil, List.append_nil, unB] at st)
  (try clear hc); have hc := st.facts; (try simp only [factsOf, blkI, blkFacts, rowI, byI, datI, nullI, oldI, penI, rdI, rdAnyI, rdOverI, Nat.zero_add, Nat.reduceAdd, and_true, true_and, and_self] at hc)
  go_enter Try.func6, Try.ntmps6
  go_wp2_with fail
  refine (nameFirst_any W).mono ?_
  rintro en w ⟨rfl, hx⟩
  replace st := st.ext hx
  clear hx
  (try clear hc); have hc := st.facts; (try simp only [factsOf, blkI, blkFacts, rowI, byI, datI, nullI, oldI, penI, rdI, rdAnyI, rdOverI, Nat.zero_add, Nat.reduceAdd, and_true, true_and, and_self] at hc)
  go_wp2_with fail
  refine (nameLong_any a n c l _ (st.oldFl (i := 0) get0 H.out.1) (by have := HW.out.1; omega)).mono ?_
  rintro en w ⟨rfl, hx⟩
  replace st := st.ext hx
  clear hx
  (try clear hc); have hc := st.facts; (try simp only [factsOf, blkI, blkFacts, rowI, byI, datI, nullI, oldI, penI, rdI, rdAnyI, rdOverI, Nat.zero_add, Nat.reduceAdd, and_true, true_and, and_self] at hc)
  by_cases h1 : 600 < weight l
  · have hb : decide (600 < weight l) = true := decide_eq_true h1
    rw [hb]
    go_wp2_with fail
    go_ret
    exact ⟨rfl, st.ext0⟩
  have hb : decide (600 < weight l) = false := decide_eq_false h1
  rw [hb]
  clear hb
  go_wp2_with fail
  refine (nameLong_any a' n' c' l' _ (st.oldFl (i := 0) get0 H.out.2) (by have := HW.out.2; omega)).mono ?_
  rintro en w ⟨rfl, hx⟩
  replace st := st.ext hx
  clear hx
  (try clear hc); have hc := st.facts; (try simp only [factsOf, blkI, blkFacts, rowI, byI, datI, nullI, oldI, penI, rdI, rdAnyI, rdOverI, Nat.zero_add, Nat.reduceAdd, and_true, true_and, and_self] at hc)
  by_cases h2 : 600 < weight l'
  · have hb : decide (600 < weight l') = true := decide_eq_true h2
    rw [hb]
    go_wp2_with fail
    go_ret
    exact ⟨rfl, st.ext0⟩
  have hb : decide (600 < weight l') = false := decide_eq_false h2
  rw [hb]
  clear hb
  by_cases h3 : 100 < s.length
  · go_wp2_with fail
    go_ret
    exact ⟨rfl, st.ext0⟩
  have HM : Hid ((∀ x ∈ l, x.length ≤ 600) ∧ ∀ x ∈ l', x.length ≤ 600) := Lib.hid ⟨fun x hx => by have := weight_mem l x hx; omega, fun x hx => by have := weight_mem l' x hx; omega⟩
  have hn : n ≤ 600 := by have := weight_len l; have := H.out.1.1; omega
  have hn' : n' ≤ 600 := by have := weight_len l'; have := H.out.2.1; omega
  have HLE : Hid ((nameSet l).length ≤ 600 ∧ (nameBoth l l').length ≤ 600 ∧ (nameSet (l ++ l')).length ≤ 1200 ∧ (l ++ l').length ≤ 1200) := Lib.hid (by
    have q1 := nameSet_len l
    have q2 := nameSet_len (l ++ l')
    have q3 : (nameBoth l l').length ≤ (nameSet l).length := List.length_filter_le _ _
    have q4 := H.out.1.1
    have q5 := H.out.2.1
    have q6 : (l ++ l').length = l.length + l'.length := List.length_append
    omega)
  clear h1 h2
  go_wp2_with fail
  refine (refSet_c a n c l _ (st.oldFl (i := 0) get0 H.out.1) (by omega) (fun x hx => by have := HM.out.1 x hx; omega)).mono ?_
  rintro en w ⟨x1, xc, rfl, hnew⟩
  replace st := st.fresh hnew
  clear hnew
  (try simp only [Value.cells, List.cons_append, List.nil_append, List.set, spl, putIt, pick, List.map_cons, List.map_nil, List.getElem?_cons_zero, List.getElem?_cons_succ, Option.getD_some, List.drop_succ_cons, List.drop_zero, List.drop_nil, List.append_nil, unB] at st)
  (try clear hc); have hc := st.facts; (try simp only [factsOf, blkI, blkFacts, rowI, byI, datI, nullI, oldI, penI, rdI, rdAnyI, rdOverI, Nat.zero_add, Nat.reduceAdd, and_true, true_and, and_self] at hc)
  go_wp2_with fail
  refine (refBoth_any a n c l a' n' c' l' _ (st.oldFl (i := 0) get0 H.out.1) (st.oldFl (i := 0) get0 H.out.2) (by omega) (by omega) (fun x hx => by have := HM.out.1 x hx; omega)).mono ?_
  rintro en w ⟨y1, yc, rfl, hnew⟩
  replace st := st.fresh hnew
  clear hnew
  (try simp only [Value.cells, List.cons_append, List.nil_append, List.set, spl, putIt, pick, List.map_cons, List.map_nil, List.getElem?_cons_zero, List.getElem?_cons_succ, Option.getD_some, List.drop_succ_cons, List.drop_zero, List.drop_nil, List.append_nil, unB] at st)
  (try clear hc); have hc := st.facts; (try simp only [factsOf, blkI, blkFacts, rowI, byI, datI, nullI, oldI, penI, rdI, rdAnyI, rdOverI, Nat.zero_add, Nat.reduceAdd, and_true, true_and, and_self] at hc)
  go_wp2_with fail
  refine (right_any s _ (by omega)).mono ?_
  rintro en w ⟨rfl, hx⟩
  replace st := st.ext hx
  clear hx
  (try clear hc); have hc := st.facts; (try simp only [factsOf, blkI, blkFacts, rowI, byI, datI, nullI, oldI, penI, rdI, rdAnyI, rdOverI, Nat.zero_add, Nat.reduceAdd, and_true, true_and, and_self] at hc)
  go_wp2_with fail
  refine (refRight_any s _ (by omega)).mono ?_
  rintro en w ⟨rfl, hx⟩
  replace st := st.ext hx
  clear hx
  (try clear hc); have hc := st.facts; (try simp only [factsOf, blkI, blkFacts, rowI, byI, datI, nullI, oldI, penI, rdI, rdAnyI, rdOverI, Nat.zero_add, Nat.reduceAdd, and_true, true_and, and_self] at hc)
  have hbr : (nameR s == nameR s) = true := by simp
  go_wp2_with fail
  refine (nameSet_any a n c l _ (st.oldFl (i := 0) get0 H.out.1) (by omega) (fun x hx => by have := HM.out.1 x hx; omega)).mono ?_
  rintro en w ⟨z1, zc, rfl, hnew⟩
  have hfx := hnew.fl.2
  replace st := st.ext hnew.1
  clear hnew
  (try simp only [Value.cells, List.cons_append, List.nil_append, List.set, spl, putIt, pick, List.map_cons, List.map_nil, List.getElem?_cons_zero, List.getElem?_cons_succ, Option.getD_some, List.drop_succ_cons, List.drop_zero, List.drop_nil, List.append_nil, unB] at st)
  (try clear hc); have hc := st.facts; (try simp only [factsOf, blkI, blkFacts, rowI, byI, datI, nullI, oldI, penI, rdI, rdAnyI, rdOverI, Nat.zero_add, Nat.reduceAdd, and_true, true_and, and_self] at hc)
  go_wp2_with fail
  refine (refSame_any _ _ _ _ _ _ _ _ _ hfx ((st.rowFl' (α := List UInt8) (xs := nameSet l) (i := 1) get1).2) (by have := HLE.out; omega) (by have := HLE.out; omega)).mono ?_
  rintro en w ⟨rfl, hx⟩
  replace st := st.ext hx
  clear hx
  (try simp only [Value.cells, List.cons_append, List.nil_append, List.set, spl, putIt, pick, List.map_cons, List.map_nil, List.getElem?_cons_zero, List.getElem?_cons_succ, Option.getD_some, List.drop_succ_cons, List.drop_zero, List.drop_nil, List.append_nil, unB] at st)
  (try clear hc); have hc := st.facts; (try simp only [factsOf, blkI, blkFacts, rowI, byI, datI, nullI, oldI, penI, rdI, rdAnyI, rdOverI, Nat.zero_add, Nat.reduceAdd, and_true, true_and, and_self] at hc)
  rw [show (decide (nameSet l = nameSet l)) = true from decide_eq_true rfl]
  clear hfx
  go_wp2_with fail
  refine (isSet_any a n c l _ (st.oldFl (i := 0) get0 H.out.1) (by omega) (fun x hx => by have := HM.out.1 x hx; omega)).mono ?_
  rintro en w ⟨rfl, hx⟩
  replace st := st.ext hx
  clear hx
  (try clear hc); have hc := st.facts; (try simp only [factsOf, blkI, blkFacts, rowI, byI, datI, nullI, oldI, penI, rdI, rdAnyI, rdOverI, Nat.zero_add, Nat.reduceAdd, and_true, true_and, and_self] at hc)
  go_wp2_with fail
  refine (refSame_any _ _ _ _ _ _ _ _ _ (st.oldFl (i := 0) get0 H.out.1) ((st.rowFl' (α := List UInt8) (xs := nameSet l) (i := 1) get1).2) (by have := HLE.out; omega) (by have := HLE.out; omega)).mono ?_
  rintro en w ⟨rfl, hx⟩
  replace st := st.ext hx
  clear hx
  (try simp only [Value.cells, List.cons_append, List.nil_append, List.set, spl, putIt, pick, List.map_cons, List.map_nil, List.getElem?_cons_zero, List.getElem?_cons_succ, Option.getD_some, List.drop_succ_cons, List.drop_zero, List.drop_nil, List.append_nil, unB] at st)
  (try clear hc); have hc := st.facts; (try simp only [factsOf, blkI, blkFacts, rowI, byI, datI, nullI, oldI, penI, rdI, rdAnyI, rdOverI, Nat.zero_add, Nat.reduceAdd, and_true, true_and, and_self] at hc)
  have hbs : (decide (nameSet l = l) == decide (l = nameSet l)) = true := by
    rw [Bool.eq_iff_iff]; simp; constructor <;> (intro q; exact q.symm)
  go_wp2_with fail
  refine (nameHas_any a n c l s _ (st.oldFl (i := 0) get0 H.out.1) (by omega) (by omega)).mono ?_
  rintro en w ⟨rfl, hx⟩
  replace st := st.ext hx
  clear hx
  (try clear hc); have hc := st.facts; (try simp only [factsOf, blkI, blkFacts, rowI, byI, datI, nullI, oldI, penI, rdI, rdAnyI, rdOverI, Nat.zero_add, Nat.reduceAdd, and_true, true_and, and_self] at hc)
  go_wp2_with fail
  refine (refRight_any s _ (by omega)).mono ?_
  rintro en w ⟨rfl, hx⟩
  replace st := st.ext hx
  clear hx
  (try clear hc); have hc := st.facts; (try simp only [factsOf, blkI, blkFacts, rowI, byI, datI, nullI, oldI, penI, rdI, rdAnyI, rdOverI, Nat.zero_add, Nat.reduceAdd, and_true, true_and, and_self] at hc)
  cases hr : nameR s with
  | true =>
    go_wp2_with fail
    refine (refHas_any a n c l s _ (st.oldFl (i := 0) get0 H.out.1) (by omega)).mono ?_
    rintro en w ⟨rfl, hx⟩
    replace st := st.ext hx
    clear hx
    (try clear hc); have hc := st.facts; (try simp only [factsOf, blkI, blkFacts, rowI, byI, datI, nullI, oldI, penI, rdI, rdAnyI, rdOverI, Nat.zero_add, Nat.reduceAdd, and_true, true_and, and_self] at hc)
    have hbh : ((true && decide (s ∈ l)) == decide (s ∈ l)) = true := by simp
    have hbh2 : (decide (s ∈ l) == decide (s ∈ l)) = true := by simp
    go_wp2_with fail
    refine (union_any a n c l a' n' c' l' _ (st.oldFl (i := 0) get0 H.out.1) (st.oldFl (i := 0) get0 H.out.2) (by omega) (by omega) (fun x hx => by have := HM.out.1 x hx; omega) (fun x hx => by have := HM.out.2 x hx; omega)).mono ?_
    rintro en w ⟨u1, uc, rfl, hnew⟩
    replace st := st.fresh hnew
    clear hnew
    (try simp only [Value.cells, List.cons_append, List.nil_append, List.set, spl, putIt, pick, List.map_cons, List.map_nil, List.getElem?_cons_zero, List.getElem?_cons_succ, Option.getD_some, List.drop_succ_cons, List.drop_zero, List.drop_nil, List.append_nil, unB] at st)
    (try clear hc); have hc := st.facts; (try simp only [factsOf, blkI, blkFacts, rowI, byI, datI, nullI, oldI, penI, rdI, rdAnyI, rdOverI, Nat.zero_add, Nat.reduceAdd, and_true, true_and, and_self] at hc)
    go_wp2_with (first
        | ((with_reducible refine wl_append ?_ (fun K hK => ?_)); (rfl); (obtain ⟨inf, hinf, hz0, hz1, hz2⟩ := strInfo); (refine owp_append rfl st 4 get4 Try.underlying64 hinf hz0 hz1 hz2 rfl (by decide) rfl rfl (by first | exact (st.oldFl (i := 0) get0 H.out.1).flat | exact (st.oldFl (i := 0) get0 H.out.2).flat) (by first | exact cellsL_all _ | simp [Value.oneCell']) (by simp only [maxLen]; omega) (by omega) ?_); (clear hinf hz0 hz1 hz2 inf); (clear st; intro v' w st); (obtain ⟨va', vc', rfl⟩ := own_slice (st.row (i := 4) get4)); (try simp only [Value.cells, List.cons_append, List.nil_append, List.set, spl, putIt, pick, List.map_cons, List.map_nil, List.getElem?_cons_zero, List.getElem?_cons_succ, Option.getD_some, List.drop_succ_cons, List.drop_zero, List.drop_nil, List.append_nil, unB] at st); (try simp only [Nat.zero_add] at st); (try clear hc); have hc := st.facts; (try simp only [factsOf, blkI, blkFacts, rowI, byI, datI, nullI, oldI, penI, rdI, rdAnyI, rdOverI, Nat.zero_add, Nat.reduceAdd, and_true, true_and, and_self] at hc))
        | ((with_reducible refine wl_buildSlice ?_ (fun K hK => ?_)); (rfl); (refine owp_buildRow (o := ⟨some 63, _, _, _, _, _⟩) rfl st 9 1 ?_; refine ⟨0, #[], ?_, by simp, by simp [maxLen], ?_⟩; (focus (go_simp; (first | done | rfl))); (clear st; intro b63 w hb st; clear hb)); (try simp only [Value.cells, List.cons_append, List.nil_append, List.set, spl, putIt, pick, List.map_cons, List.map_nil, List.getElem?_cons_zero, List.getElem?_cons_succ, Option.getD_some, List.drop_succ_cons, List.drop_zero, List.drop_nil, List.append_nil, unB] at st); (try clear hc); have hc := st.facts; (try simp only [factsOf, blkI, blkFacts, rowI, byI, datI, nullI, oldI, penI, rdI, rdAnyI, rdOverI, Nat.zero_add, Nat.reduceAdd, and_true, true_and, and_self] at hc))
        | ((with_reducible refine wl_buildSlice ?_ (fun K hK => ?_)); (rfl); ((refine owp_buildSlice (o := ⟨some 63, _, _, _, _, _⟩) rfl st ?_; apply Exists.intro; apply Exists.intro; apply Exists.intro; apply Exists.intro; refine ⟨?_, ?_⟩; (focus (go_simp; (first | done | exact ⟨⟨rfl, rfl⟩, rfl⟩ | rfl))); (clear st; intro b63 w hb st; clear hb)); (try simp only [Value.cells, List.cons_append, List.nil_append, List.set, spl, putIt, pick, List.map_cons, List.map_nil, List.getElem?_cons_zero, List.getElem?_cons_succ, Option.getD_some, List.drop_succ_cons, List.drop_zero, List.drop_nil, List.append_nil, unB] at st); (try clear hc); have hc := st.facts; (try simp only [factsOf, blkI, blkFacts, rowI, byI, datI, nullI, oldI, penI, rdI, rdAnyI, rdOverI, Nat.zero_add, Nat.reduceAdd, and_true, true_and, and_self] at hc))))
    rw [← cellsL_append] at st
    refine (refSet_c va' (n + n') vc' (l ++ l') _ (st.rowFl' (α := List UInt8) (xs := l ++ l') (i := 4) get4).2 (by omega) (fun x hx => by rcases List.mem_append.1 hx with q | q; (have := HM.out.1 x q; omega); (have := HM.out.2 x q; omega))).mono ?_
    rintro en w ⟨p1, pc, rfl, hnew⟩
    have hfx := hnew.fl.2
    replace st := st.ext hnew.1
    clear hnew
    (try simp only [Value.cells, List.cons_append, List.nil_append, List.set, spl, putIt, pick, List.map_cons, List.map_nil, List.getElem?_cons_zero, List.getElem?_cons_succ, Option.getD_some, List.drop_succ_cons, List.drop_zero, List.drop_nil, List.append_nil, unB] at st)
    (try clear hc); have hc := st.facts; (try simp only [factsOf, blkI, blkFacts, rowI, byI, datI, nullI, oldI, penI, rdI, rdAnyI, rdOverI, Nat.zero_add, Nat.reduceAdd, and_true, true_and, and_self] at hc)
    go_wp2_with fail
    refine (refSame_any _ _ _ _ _ _ _ _ _ ((st.rowFl' (α := List UInt8) (xs := nameSet (l ++ l')) (i := 3) get3).2) hfx (by have := HLE.out; omega) (by have := HLE.out; omega)).mono ?_
    rintro en w ⟨rfl, hx⟩
    replace st := st.ext hx
    clear hx
    (try simp only [Value.cells, List.cons_append, List.nil_append, List.set, spl, putIt, pick, List.map_cons, List.map_nil, List.getElem?_cons_zero, List.getElem?_cons_succ, Option.getD_some, List.drop_succ_cons, List.drop_zero, List.drop_nil, List.append_nil, unB] at st)
    (try clear hc); have hc := st.facts; (try simp only [factsOf, blkI, blkFacts, rowI, byI, datI, nullI, oldI, penI, rdI, rdAnyI, rdOverI, Nat.zero_add, Nat.reduceAdd, and_true, true_and, and_self] at hc)
    rw [show (decide (nameSet (l ++ l') = nameSet (l ++ l'))) = true from decide_eq_true rfl]
    clear hfx
    go_wp2_with fail
    refine (both_any a n c l a' n' c' l' _ (st.oldFl (i := 0) get0 H.out.1) (st.oldFl (i := 0) get0 H.out.2) (by omega) (by omega) (fun x hx => by have := HM.out.1 x hx; omega)).mono ?_
    rintro en w ⟨q1, qc, rfl, hnew⟩
    have hfx := hnew.fl.2
    replace st := st.ext hnew.1
    clear hnew
    (try simp only [Value.cells, List.cons_append, List.nil_append, List.set, spl, putIt, pick, List.map_cons, List.map_nil, List.getElem?_cons_zero, List.getElem?_cons_succ, Option.getD_some, List.drop_succ_cons, List.drop_zero, List.drop_nil, List.append_nil, unB] at st)
    (try clear hc); have hc := st.facts; (try simp only [factsOf, blkI, blkFacts, rowI, byI, datI, nullI, oldI, penI, rdI, rdAnyI, rdOverI, Nat.zero_add, Nat.reduceAdd, and_true, true_and, and_self] at hc)
    go_wp2_with fail
    refine (refSame_any _ _ _ _ _ _ _ _ _ hfx ((st.rowFl' (α := List UInt8) (xs := nameBoth l l') (i := 2) get2).2) (by have := HLE.out; omega) (by have := HLE.out; omega)).mono ?_
    rintro en w ⟨rfl, hx⟩
    replace st := st.ext hx
    clear hx
    (try simp only [Value.cells, List.cons_append, List.nil_append, List.set, spl, putIt, pick, List.map_cons, List.map_nil, List.getElem?_cons_zero, List.getElem?_cons_succ, Option.getD_some, List.drop_succ_cons, List.drop_zero, List.drop_nil, List.append_nil, unB] at st)
    (try clear hc); have hc := st.facts; (try simp only [factsOf, blkI, blkFacts, rowI, byI, datI, nullI, oldI, penI, rdI, rdAnyI, rdOverI, Nat.zero_add, Nat.reduceAdd, and_true, true_and, and_self] at hc)
    rw [show (decide (nameBoth l l' = nameBoth l l')) = true from decide_eq_true rfl]
    clear hfx
    go_wp2_with fail
    refine (within_any a n c l a' n' c' l' _ (st.oldFl (i := 0) get0 H.out.1) (st.oldFl (i := 0) get0 H.out.2) (by omega) (by omega) (fun x hx => by have := HM.out.1 x hx; omega)).mono ?_
    rintro en w ⟨rfl, hx⟩
    replace st := st.ext hx
    clear hx
    (try clear hc); have hc := st.facts; (try simp only [factsOf, blkI, blkFacts, rowI, byI, datI, nullI, oldI, penI, rdI, rdAnyI, rdOverI, Nat.zero_add, Nat.reduceAdd, and_true, true_and, and_self] at hc)
    have hbw : (decide ((nameBoth l l').length = (nameSet l).length) == (((nameBoth l l').length : Int) == ((nameSet l).length : Int))) = true := eq_len _ _
    go_wp2_with fail
    go_ret
    exact ⟨rfl, st.ext0⟩
  | false =>
    go_wp2_with fail
    refine (union_any a n c l a' n' c' l' _ (st.oldFl (i := 0) get0 H.out.1) (st.oldFl (i := 0) get0 H.out.2) (by omega) (by omega) (fun x hx => by have := HM.out.1 x hx; omega) (fun x hx => by have := HM.out.2 x hx; omega)).mono ?_
    rintro en w ⟨u1, uc, rfl, hnew⟩
    replace st := st.fresh hnew
    clear hnew
    (try simp only [Value.cells, List.cons_append, List.nil_append, List.set, spl, putIt, pick, List.map_cons, List.map_nil, List.getElem?_cons_zero, List.getElem?_cons_succ, Option.getD_some, List.drop_succ_cons, List.drop_zero, List.drop_nil, List.append_nil, unB] at st)
    (try clear hc); have hc := st.facts; (try simp only [factsOf, blkI, blkFacts, rowI, byI, datI, nullI, oldI, penI, rdI, rdAnyI, rdOverI, Nat.zero_add, Nat.reduceAdd, and_true, true_and, and_self] at hc)
    go_wp2_with (first
        | ((with_reducible refine wl_append ?_ (fun K hK => ?_)); (rfl); (obtain ⟨inf, hinf, hz0, hz1, hz2⟩ := strInfo); (refine owp_append rfl st 4 get4 Try.underlying64 hinf hz0 hz1 hz2 rfl (by decide) rfl rfl (by first | exact (st.oldFl (i := 0) get0 H.out.1).flat | exact (st.oldFl (i := 0) get0 H.out.2).flat) (by first | exact cellsL_all _ | simp [Value.oneCell']) (by simp only [maxLen]; omega) (by omega) ?_); (clear hinf hz0 hz1 hz2 inf); (clear st; intro v' w st); (obtain ⟨va', vc', rfl⟩ := own_slice (st.row (i := 4) get4)); (try simp only [Value.cells, List.cons_append, List.nil_append, List.set, spl, putIt, pick, List.map_cons, List.map_nil, List.getElem?_cons_zero, List.getElem?_cons_succ, Option.getD_some, List.drop_succ_cons, List.drop_zero, List.drop_nil, List.append_nil, unB] at st); (try simp only [Nat.zero_add] at st); (try clear hc); have hc := st.facts; (try simp only [factsOf, blkI, blkFacts, rowI, byI, datI, nullI, oldI, penI, rdI, rdAnyI, rdOverI, Nat.zero_add, Nat.reduceAdd, and_true, true_and, and_self] at hc))
        | ((with_reducible refine wl_buildSlice ?_ (fun K hK => ?_)); (rfl); (refine owp_buildRow (o := ⟨some 63, _, _, _, _, _⟩) rfl st 9 1 ?_; refine ⟨0, #[], ?_, by simp, by simp [maxLen], ?_⟩; (focus (go_simp; (first | done | rfl))); (clear st; intro b63 w hb st; clear hb)); (try simp only [Value.cells, List.cons_append, List.nil_append, List.set, spl, putIt, pick, List.map_cons, List.map_nil, List.getElem?_cons_zero, List.getElem?_cons_succ, Option.getD_some, List.drop_succ_cons, List.drop_zero, List.drop_nil, List.append_nil, unB] at st); (try clear hc); have hc := st.facts; (try simp only [factsOf, blkI, blkFacts, rowI, byI, datI, nullI, oldI, penI, rdI, rdAnyI, rdOverI, Nat.zero_add, Nat.reduceAdd, and_true, true_and, and_self] at hc))
        | ((with_reducible refine wl_buildSlice ?_ (fun K hK => ?_)); (rfl); ((refine owp_buildSlice (o := ⟨some 63, _, _, _, _, _⟩) rfl st ?_; apply Exists.intro; apply Exists.intro; apply Exists.intro; apply Exists.intro; refine ⟨?_, ?_⟩; (focus (go_simp; (first | done | exact ⟨⟨rfl, rfl⟩, rfl⟩ | rfl))); (clear st; intro b63 w hb st; clear hb)); (try simp only [Value.cells, List.cons_append, List.nil_append, List.set, spl, putIt, pick, List.map_cons, List.map_nil, List.getElem?_cons_zero, List.getElem?_cons_succ, Option.getD_some, List.drop_succ_cons, List.drop_zero, List.drop_nil, List.append_nil, unB] at st); (try clear hc); have hc := st.facts; (try simp only [factsOf, blkI, blkFacts, rowI, byI, datI, nullI, oldI, penI, rdI, rdAnyI, rdOverI, Nat.zero_add, Nat.reduceAdd, and_true, true_and, and_self] at hc))))
    rw [← cellsL_append] at st
    refine (refSet_c va' (n + n') vc' (l ++ l') _ (st.rowFl' (α := List UInt8) (xs := l ++ l') (i := 4) get4).2 (by omega) (fun x hx => by rcases List.mem_append.1 hx with q | q; (have := HM.out.1 x q; omega); (have := HM.out.2 x q; omega))).mono ?_
    rintro en w ⟨p1, pc, rfl, hnew⟩
    have hfx := hnew.fl.2
    replace st := st.ext hnew.1
    clear hnew
    (try simp only [Value.cells, List.cons_append, List.nil_append, List.set, spl, putIt, pick, List.map_cons, List.map_nil, List.getElem?_cons_zero, List.getElem?_cons_succ, Option.getD_some, List.drop_succ_cons, List.drop_zero, List.drop_nil, List.append_nil, unB] at st)
    (try clear hc); have hc := st.facts; (try simp only [factsOf, blkI, blkFacts, rowI, byI, datI, nullI, oldI, penI, rdI, rdAnyI, rdOverI, Nat.zero_add, Nat.reduceAdd, and_true, true_and, and_self] at hc)
    go_wp2_with fail
    refine (refSame_any _ _ _ _ _ _ _ _ _ ((st.rowFl' (α := List UInt8) (xs := nameSet (l ++ l')) (i := 3) get3).2) hfx (by have := HLE.out; omega) (by have := HLE.out; omega)).mono ?_
    rintro en w ⟨rfl, hx⟩
    replace st := st.ext hx
    clear hx
    (try simp only [Value.cells, List.cons_append, List.nil_append, List.set, spl, putIt, pick, List.map_cons, List.map_nil, List.getElem?_cons_zero, List.getElem?_cons_succ, Option.getD_some, List.drop_succ_cons, List.drop_zero, List.drop_nil, List.append_nil, unB] at st)
    (try clear hc); have hc := st.facts; (try simp only [factsOf, blkI, blkFacts, rowI, byI, datI, nullI, oldI, penI, rdI, rdAnyI, rdOverI, Nat.zero_add, Nat.reduceAdd, and_true, true_and, and_self] at hc)
    rw [show (decide (nameSet (l ++ l') = nameSet (l ++ l'))) = true from decide_eq_true rfl]
    clear hfx
    go_wp2_with fail
    refine (both_any a n c l a' n' c' l' _ (st.oldFl (i := 0) get0 H.out.1) (st.oldFl (i := 0) get0 H.out.2) (by omega) (by omega) (fun x hx => by have := HM.out.1 x hx; omega)).mono ?_
    rintro en w ⟨q1, qc, rfl, hnew⟩
    have hfx := hnew.fl.2
    replace st := st.ext hnew.1
    clear hnew
    (try simp only [Value.cells, List.cons_append, List.nil_append, List.set, spl, putIt, pick, List.map_cons, List.map_nil, List.getElem?_cons_zero, List.getElem?_cons_succ, Option.getD_some, List.drop_succ_cons, List.drop_zero, List.drop_nil, List.append_nil, unB] at st)
    (try clear hc); have hc := st.facts; (try simp only [factsOf, blkI, blkFacts, rowI, byI, datI, nullI, oldI, penI, rdI, rdAnyI, rdOverI, Nat.zero_add, Nat.reduceAdd, and_true, true_and, and_self] at hc)
    go_wp2_with fail
    refine (refSame_any _ _ _ _ _ _ _ _ _ hfx ((st.rowFl' (α := List UInt8) (xs := nameBoth l l') (i := 2) get2).2) (by have := HLE.out; omega) (by have := HLE.out; omega)).mono ?_
    rintro en w ⟨rfl, hx⟩
    replace st := st.ext hx
    clear hx
    (try simp only [Value.cells, List.cons_append, List.nil_append, List.set, spl, putIt, pick, List.map_cons, List.map_nil, List.getElem?_cons_zero, List.getElem?_cons_succ, Option.getD_some, List.drop_succ_cons, List.drop_zero, List.drop_nil, List.append_nil, unB] at st)
    (try clear hc); have hc := st.facts; (try simp only [factsOf, blkI, blkFacts, rowI, byI, datI, nullI, oldI, penI, rdI, rdAnyI, rdOverI, Nat.zero_add, Nat.reduceAdd, and_true, true_and, and_self] at hc)
    rw [show (decide (nameBoth l l' = nameBoth l l')) = true from decide_eq_true rfl]
    clear hfx
    go_wp2_with fail
    refine (within_any a n c l a' n' c' l' _ (st.oldFl (i := 0) get0 H.out.1) (st.oldFl (i := 0) get0 H.out.2) (by omega) (by omega) (fun x hx => by have := HM.out.1 x hx; omega)).mono ?_
    rintro en w ⟨rfl, hx⟩
    replace st := st.ext hx
    clear hx
    (try clear hc); have hc := st.facts; (try simp only [factsOf, blkI, blkFacts, rowI, byI, datI, nullI, oldI, penI, rdI, rdAnyI, rdOverI, Nat.zero_add, Nat.reduceAdd, and_true, true_and, and_self] at hc)
    have hbw : (decide ((nameBoth l l').length = (nameSet l).length) == (((nameBoth l l').length : Int) == ((nameSet l).length : Int))) = true := eq_len _ _
    go_wp2_with fail
    go_ret
    exact ⟨rfl, st.ext0⟩
end Go.Proofs.Ytpenjnccdachaaa
