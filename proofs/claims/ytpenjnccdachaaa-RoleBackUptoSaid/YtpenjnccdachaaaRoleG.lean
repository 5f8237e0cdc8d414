/- RoleBack: the order is one, what is put is got, what is told is parsed. -/
import Derived.Test.YtpenjnccdachaaaRoleE
namespace Go.Proofs.Ytpenjnccdachaaa
set_option linter.unusedSimpArgs false
set_option linter.unusedVariables false
open Go Go.RowKit
theorem rdName_put (s ys : List UInt8) (h : nameR s = true) : rdName (numB s.length ++ s ++ ys) = .ok (s, ys) := by
  unfold rdName
  rw [show (16 : Int) = ((16 : Nat) : Int) from rfl, rdText_put 16 s ys (nameR_len h).2 (by decide)]
  simp [h]
theorem rdRole_put (x : Role) (h : roleR x = true) : rdRole (roleB x) = .ok (x, []) := by
  obtain ⟨o, d⟩ := x
  have hr : nameR o = true ∧ nameR d = true := by simpa [roleR] using h
  unfold rdRole roleB
  simp only
  rw [show numB o.length ++ o ++ (numB d.length ++ d) = numB o.length ++ o ++ (numB d.length ++ d ++ []) by simp, rdName_put o _ hr.1]
  simp only
  rw [rdName_put d [] hr.2]
theorem nameR_dot {s : List UInt8} (h : nameR s = true) : ∀ x ∈ s, x ≠ 46 := by
  have key : ∀ c : UInt8, sgn c = true → c ≠ 46 := fun c hc e => by subst e; revert hc; decide
  cases s with
  | nil => intro x hx; simp at hx
  | cons c s =>
    have hl : (decide (s.length + 1 ≤ 16) && ltr c && (c :: s).all sgn) = true := h
    simp only [Bool.and_eq_true, List.all_eq_true] at hl
    intro x hx
    exact key x (hl.2 x hx)
theorem roleP_text (x : Role) (h : roleR x = true) : roleP (roleT x) = some x := by
  obtain ⟨o, d⟩ := x
  have hr : nameR o = true ∧ nameR d = true := by simpa [roleR] using h
  have h1 : (roleT (o, d))[o.length]? = some 46 := by simp [roleT]
  have h2 : (roleT (o, d)).take o.length = o := by simp [roleT]
  have h3 : (roleT (o, d)).drop (o.length + 1) = d := by simp [roleT]
  rw [roleP_at h1 (by rw [h2]; exact nameR_dot hr.1), h2, h3, if_pos h]
theorem roleCmp_tri (x y : Role) : (roleCmp x y = -1 ∧ roleCmp y x = 1 ∧ roleEq x y = false) ∨ (roleCmp x y = 0 ∧ roleCmp y x = 0 ∧ roleEq x y = true) ∨ (roleCmp x y = 1 ∧ roleCmp y x = -1 ∧ roleEq x y = false) := by
  have o := roleOrd (fun _ => true)
  have hAs : ∀ {x y}, roleLt x y = true → roleLt y x = false ∧ x ≠ y := fun {x y} h => by
    constructor
    · cases h2 : roleLt y x with
      | false => rfl
      | true => have := o.tr _ _ _ h h2; rw [o.irr] at this; cases this
    · intro e; subst e; rw [o.irr] at h; cases h
  rcases o.tri x y rfl rfl with h | h | h
  · have := hAs h
    exact .inl ⟨by simp [roleCmp, h], by simp [roleCmp, h, this.1], by rw [roleEq_eq, decide_eq_false this.2]⟩
  · subst h
    exact .inr (.inl ⟨by simp [roleCmp, o.irr], by simp [roleCmp, o.irr], roleEq_self x⟩)
  · have := hAs h
    exact .inr (.inr ⟨by simp [roleCmp, h, this.1], by simp [roleCmp, h], by rw [roleEq_eq, decide_eq_false (Ne.symm this.2)]⟩)
theorem roleCmp_le (x y : Role) : roleCmp x y ≤ 0 ↔ roleLt y x = false := by
  have o := roleOrd (fun _ => true)
  unfold roleCmp
  cases h : roleLt x y with
  | true =>
    cases h2 : roleLt y x with
    | false => simp
    | true => have := o.tr _ _ _ h h2; rw [o.irr] at this; cases this
  | false => cases h2 : roleLt y x <;> simp
theorem roleCmp_tr {x y z : Role} (h1 : roleCmp x y ≤ 0) (h2 : roleCmp y z ≤ 0) : roleCmp x z ≤ 0 := by
  have o := roleOrd (fun _ => true)
  rw [roleCmp_le] at *
  cases h : roleLt z x with
  | false => rfl
  | true =>
    rcases o.tri x y rfl rfl with q | q | q
    · have := o.tr _ _ _ h q; rw [this] at h2; cases h2
    · subst q; rw [h] at h2; cases h2
    · rw [q] at h1; cases h1
set_option maxRecDepth 100000 in
set_option maxHeartbeats 4000000 in
theorem roleBack_all (a b c : Role) (W : World) (hs : a.1.length + a.2.length + b.1.length + b.2.length + c.1.length + c.2.length ≤ 1000000000) :
    Calls Try.prog 11 #[rV a, rV b, rV c] W fun e w' => e = .returned (.bool true) ∧ Ext W w' := by
  have HTR := Lib.hid (@roleCmp_tr a b c)
  obtain ⟨ao, ad⟩ := a
  obtain ⟨bo, bd⟩ := b
  obtain ⟨co, cd⟩ := c
  simp only at hs
  have HLO : Hid (weightR [(ao, ad), (bo, bd), (co, cd)] = (1 + ao.length + ad.length) + (1 + bo.length + bd.length) + (1 + co.length + cd.length)) := Lib.hid (by simp [weightR]; omega)
  have st := Own.startOld W
  unfold rV S
  (try simp only [Value.cells, List.cons_append, List.nil_append, List.set, spl, putIt, pick, List.map_cons, List.map_nil, List.getElem?_cons_zero, List.getElem?_cons_succ, Option.getD_some, List.drop_succ_cons, List.drop_zero, List.drop_nil, List.append_nil, unB] at st)
  (try clear hc); have hc := st.facts; (try simp only [factsOf, blkI, blkFacts, rowI, byI, datI, nullI, oldI, penI, rdI, rdAnyI, rdOverI, Nat.zero_add, Nat.reduceAdd, and_true, true_and, and_self] at hc)
  go_enter Try.func11, Try.ntmps11
  go_wp2_with (first
      | ((with_reducible refine wl_box ?_ (fun K hK => ?_)); (rfl); ((refine owp_box (o := ⟨some 3, _, _, _, _, _⟩) rfl st ?_; apply Exists.intro; refine ⟨?_, ?_⟩; (focus (go_simp; try rfl)); (clear st; intro b3 w hb st; clear hb)); (try simp only [Value.cells, List.cons_append, List.nil_append, List.set, spl, putIt, pick, List.map_cons, List.map_nil, List.getElem?_cons_zero, List.getElem?_cons_succ, Option.getD_some, List.drop_succ_cons, List.drop_zero, List.drop_nil, List.append_nil, unB] at st); (try clear hc); have hc := st.facts; (try simp only [factsOf, blkI, blkFacts, rowI, byI, datI, nullI, oldI, penI, rdI, rdAnyI, rdOverI, Nat.zero_add, Nat.reduceAdd, and_true, true_and, and_self] at hc)))
      | ((with_reducible refine wl_box ?_ (fun K hK => ?_)); (rfl); ((refine owp_box (o := ⟨some 4, _, _, _, _, _⟩) rfl st ?_; apply Exists.intro; refine ⟨?_, ?_⟩; (focus (go_simp; try rfl)); (clear st; intro b4 w hb st; clear hb)); (try simp only [Value.cells, List.cons_append, List.nil_append, List.set, spl, putIt, pick, List.map_cons, List.map_nil, List.getElem?_cons_zero, List.getElem?_cons_succ, Option.getD_some, List.drop_succ_cons, List.drop_zero, List.drop_nil, List.append_nil, unB] at st); (try clear hc); have hc := st.facts; (try simp only [factsOf, blkI, blkFacts, rowI, byI, datI, nullI, oldI, penI, rdI, rdAnyI, rdOverI, Nat.zero_add, Nat.reduceAdd, and_true, true_and, and_self] at hc)))
      | ((with_reducible refine wl_box ?_ (fun K hK => ?_)); (rfl); ((refine owp_box (o := ⟨some 5, _, _, _, _, _⟩) rfl st ?_; apply Exists.intro; refine ⟨?_, ?_⟩; (focus (go_simp; try rfl)); (clear st; intro b5 w hb st; clear hb)); (try simp only [Value.cells, List.cons_append, List.nil_append, List.set, spl, putIt, pick, List.map_cons, List.map_nil, List.getElem?_cons_zero, List.getElem?_cons_succ, Option.getD_some, List.drop_succ_cons, List.drop_zero, List.drop_nil, List.append_nil, unB] at st); (try clear hc); have hc := st.facts; (try simp only [factsOf, blkI, blkFacts, rowI, byI, datI, nullI, oldI, penI, rdI, rdAnyI, rdOverI, Nat.zero_add, Nat.reduceAdd, and_true, true_and, and_self] at hc)))
      | ((with_reducible refine wl_buildSlice ?_ (fun K hK => ?_)); (rfl); ((refine owp_buildSlice (o := ⟨some 22, _, _, _, _, _⟩) rfl st ?_; apply Exists.intro; apply Exists.intro; apply Exists.intro; apply Exists.intro; refine ⟨?_, ?_⟩; (focus (go_simp; (first | done | exact ⟨⟨rfl, rfl⟩, rfl⟩ | rfl))); (clear st; intro b22 w hb st; clear hb)); (try simp only [Value.cells, List.cons_append, List.nil_append, List.set, spl, putIt, pick, List.map_cons, List.map_nil, List.getElem?_cons_zero, List.getElem?_cons_succ, Option.getD_some, List.drop_succ_cons, List.drop_zero, List.drop_nil, List.append_nil, unB] at st); (try clear hc); have hc := st.facts; (try simp only [factsOf, blkI, blkFacts, rowI, byI, datI, nullI, oldI, penI, rdI, rdAnyI, rdOverI, Nat.zero_add, Nat.reduceAdd, and_true, true_and, and_self] at hc))))
  refine (roleFirst_any _).mono ?_
  rintro en w ⟨rfl, hx⟩
  replace st := st.ext hx
  clear hx
  (try clear hc); have hc := st.facts; (try simp only [factsOf, blkI, blkFacts, rowI, byI, datI, nullI, oldI, penI, rdI, rdAnyI, rdOverI, Nat.zero_add, Nat.reduceAdd, and_true, true_and, and_self] at hc)
  go_wp2_with (first
      | ((with_reducible refine wl_box ?_ (fun K hK => ?_)); (rfl); ((refine owp_box (o := ⟨some 3, _, _, _, _, _⟩) rfl st ?_; apply Exists.intro; refine ⟨?_, ?_⟩; (focus (go_simp; try rfl)); (clear st; intro b3 w hb st; clear hb)); (try simp only [Value.cells, List.cons_append, List.nil_append, List.set, spl, putIt, pick, List.map_cons, List.map_nil, List.getElem?_cons_zero, List.getElem?_cons_succ, Option.getD_some, List.drop_succ_cons, List.drop_zero, List.drop_nil, List.append_nil, unB] at st); (try clear hc); have hc := st.facts; (try simp only [factsOf, blkI, blkFacts, rowI, byI, datI, nullI, oldI, penI, rdI, rdAnyI, rdOverI, Nat.zero_add, Nat.reduceAdd, and_true, true_and, and_self] at hc)))
      | ((with_reducible refine wl_box ?_ (fun K hK => ?_)); (rfl); ((refine owp_box (o := ⟨some 4, _, _, _, _, _⟩) rfl st ?_; apply Exists.intro; refine ⟨?_, ?_⟩; (focus (go_simp; try rfl)); (clear st; intro b4 w hb st; clear hb)); (try simp only [Value.cells, List.cons_append, List.nil_append, List.set, spl, putIt, pick, List.map_cons, List.map_nil, List.getElem?_cons_zero, List.getElem?_cons_succ, Option.getD_some, List.drop_succ_cons, List.drop_zero, List.drop_nil, List.append_nil, unB] at st); (try clear hc); have hc := st.facts; (try simp only [factsOf, blkI, blkFacts, rowI, byI, datI, nullI, oldI, penI, rdI, rdAnyI, rdOverI, Nat.zero_add, Nat.reduceAdd, and_true, true_and, and_self] at hc)))
      | ((with_reducible refine wl_box ?_ (fun K hK => ?_)); (rfl); ((refine owp_box (o := ⟨some 5, _, _, _, _, _⟩) rfl st ?_; apply Exists.intro; refine ⟨?_, ?_⟩; (focus (go_simp; try rfl)); (clear st; intro b5 w hb st; clear hb)); (try simp only [Value.cells, List.cons_append, List.nil_append, List.set, spl, putIt, pick, List.map_cons, List.map_nil, List.getElem?_cons_zero, List.getElem?_cons_succ, Option.getD_some, List.drop_succ_cons, List.drop_zero, List.drop_nil, List.append_nil, unB] at st); (try clear hc); have hc := st.facts; (try simp only [factsOf, blkI, blkFacts, rowI, byI, datI, nullI, oldI, penI, rdI, rdAnyI, rdOverI, Nat.zero_add, Nat.reduceAdd, and_true, true_and, and_self] at hc)))
      | ((with_reducible refine wl_buildSlice ?_ (fun K hK => ?_)); (rfl); ((refine owp_buildSlice (o := ⟨some 22, _, _, _, _, _⟩) rfl st ?_; apply Exists.intro; apply Exists.intro; apply Exists.intro; apply Exists.intro; refine ⟨?_, ?_⟩; (focus (go_simp; (first | done | exact ⟨⟨rfl, rfl⟩, rfl⟩ | rfl))); (clear st; intro b22 w hb st; clear hb)); (try simp only [Value.cells, List.cons_append, List.nil_append, List.set, spl, putIt, pick, List.map_cons, List.map_nil, List.getElem?_cons_zero, List.getElem?_cons_succ, Option.getD_some, List.drop_succ_cons, List.drop_zero, List.drop_nil, List.append_nil, unB] at st); (try clear hc); have hc := st.facts; (try simp only [factsOf, blkI, blkFacts, rowI, byI, datI, nullI, oldI, penI, rdI, rdAnyI, rdOverI, Nat.zero_add, Nat.reduceAdd, and_true, true_and, and_self] at hc))))
  have hF := fl_lit (st.blk (i := 4) get4) ([(ao, ad), (bo, bd), (co, cd)] : List Role) rfl
  refine (roleLong_any _ 3 3 [(ao, ad), (bo, bd), (co, cd)] _ hF (by rw [HLO.out]; omega)).mono ?_
  rintro en w ⟨rfl, hx⟩
  replace st := st.ext hx
  clear hx
  (try clear hc); have hc := st.facts; (try simp only [factsOf, blkI, blkFacts, rowI, byI, datI, nullI, oldI, penI, rdI, rdAnyI, rdOverI, Nat.zero_add, Nat.reduceAdd, and_true, true_and, and_self] at hc)
  rw [HLO.out]
  clear hF
  by_cases h1 : 800 < (1 + ao.length + ad.length) + (1 + bo.length + bd.length) + (1 + co.length + cd.length)
  · rw [decide_eq_true h1]
    go_wp2_with (first
        | ((with_reducible refine wl_box ?_ (fun K hK => ?_)); (rfl); ((refine owp_box (o := ⟨some 3, _, _, _, _, _⟩) rfl st ?_; apply Exists.intro; refine ⟨?_, ?_⟩; (focus (go_simp; try rfl)); (clear st; intro b3 w hb st; clear hb)); (try simp only [Value.cells, List.cons_append, List.nil_append, List.set, spl, putIt, pick, List.map_cons, List.map_nil, List.getElem?_cons_zero, List.getElem?_cons_succ, Option.getD_some, List.drop_succ_cons, List.drop_zero, List.drop_nil, List.append_nil, unB] at st); (try clear hc); have hc := st.facts; (try simp only [factsOf, blkI, blkFacts, rowI, byI, datI, nullI, oldI, penI, rdI, rdAnyI, rdOverI, Nat.zero_add, Nat.reduceAdd, and_true, true_and, and_self] at hc)))
        | ((with_reducible refine wl_box ?_ (fun K hK => ?_)); (rfl); ((refine owp_box (o := ⟨some 4, _, _, _, _, _⟩) rfl st ?_; apply Exists.intro; refine ⟨?_, ?_⟩; (focus (go_simp; try rfl)); (clear st; intro b4 w hb st; clear hb)); (try simp only [Value.cells, List.cons_append, List.nil_append, List.set, spl, putIt, pick, List.map_cons, List.map_nil, List.getElem?_cons_zero, List.getElem?_cons_succ, Option.getD_some, List.drop_succ_cons, List.drop_zero, List.drop_nil, List.append_nil, unB] at st); (try clear hc); have hc := st.facts; (try simp only [factsOf, blkI, blkFacts, rowI, byI, datI, nullI, oldI, penI, rdI, rdAnyI, rdOverI, Nat.zero_add, Nat.reduceAdd, and_true, true_and, and_self] at hc)))
        | ((with_reducible refine wl_box ?_ (fun K hK => ?_)); (rfl); ((refine owp_box (o := ⟨some 5, _, _, _, _, _⟩) rfl st ?_; apply Exists.intro; refine ⟨?_, ?_⟩; (focus (go_simp; try rfl)); (clear st; intro b5 w hb st; clear hb)); (try simp only [Value.cells, List.cons_append, List.nil_append, List.set, spl, putIt, pick, List.map_cons, List.map_nil, List.getElem?_cons_zero, List.getElem?_cons_succ, Option.getD_some, List.drop_succ_cons, List.drop_zero, List.drop_nil, List.append_nil, unB] at st); (try clear hc); have hc := st.facts; (try simp only [factsOf, blkI, blkFacts, rowI, byI, datI, nullI, oldI, penI, rdI, rdAnyI, rdOverI, Nat.zero_add, Nat.reduceAdd, and_true, true_and, and_self] at hc)))
        | ((with_reducible refine wl_buildSlice ?_ (fun K hK => ?_)); (rfl); ((refine owp_buildSlice (o := ⟨some 22, _, _, _, _, _⟩) rfl st ?_; apply Exists.intro; apply Exists.intro; apply Exists.intro; apply Exists.intro; refine ⟨?_, ?_⟩; (focus (go_simp; (first | done | exact ⟨⟨rfl, rfl⟩, rfl⟩ | rfl))); (clear st; intro b22 w hb st; clear hb)); (try simp only [Value.cells, List.cons_append, List.nil_append, List.set, spl, putIt, pick, List.map_cons, List.map_nil, List.getElem?_cons_zero, List.getElem?_cons_succ, Option.getD_some, List.drop_succ_cons, List.drop_zero, List.drop_nil, List.append_nil, unB] at st); (try clear hc); have hc := st.facts; (try simp only [factsOf, blkI, blkFacts, rowI, byI, datI, nullI, oldI, penI, rdI, rdAnyI, rdOverI, Nat.zero_add, Nat.reduceAdd, and_true, true_and, and_self] at hc))))
    go_ret
    exact ⟨rfl, st.ext0⟩
  rw [decide_eq_false h1]
  go_wp2_with (first
      | ((with_reducible refine wl_box ?_ (fun K hK => ?_)); (rfl); ((refine owp_box (o := ⟨some 3, _, _, _, _, _⟩) rfl st ?_; apply Exists.intro; refine ⟨?_, ?_⟩; (focus (go_simp; try rfl)); (clear st; intro b3 w hb st; clear hb)); (try simp only [Value.cells, List.cons_append, List.nil_append, List.set, spl, putIt, pick, List.map_cons, List.map_nil, List.getElem?_cons_zero, List.getElem?_cons_succ, Option.getD_some, List.drop_succ_cons, List.drop_zero, List.drop_nil, List.append_nil, unB] at st); (try clear hc); have hc := st.facts; (try simp only [factsOf, blkI, blkFacts, rowI, byI, datI, nullI, oldI, penI, rdI, rdAnyI, rdOverI, Nat.zero_add, Nat.reduceAdd, and_true, true_and, and_self] at hc)))
      | ((with_reducible refine wl_box ?_ (fun K hK => ?_)); (rfl); ((refine owp_box (o := ⟨some 4, _, _, _, _, _⟩) rfl st ?_; apply Exists.intro; refine ⟨?_, ?_⟩; (focus (go_simp; try rfl)); (clear st; intro b4 w hb st; clear hb)); (try simp only [Value.cells, List.cons_append, List.nil_append, List.set, spl, putIt, pick, List.map_cons, List.map_nil, List.getElem?_cons_zero, List.getElem?_cons_succ, Option.getD_some, List.drop_succ_cons, List.drop_zero, List.drop_nil, List.append_nil, unB] at st); (try clear hc); have hc := st.facts; (try simp only [factsOf, blkI, blkFacts, rowI, byI, datI, nullI, oldI, penI, rdI, rdAnyI, rdOverI, Nat.zero_add, Nat.reduceAdd, and_true, true_and, and_self] at hc)))
      | ((with_reducible refine wl_box ?_ (fun K hK => ?_)); (rfl); ((refine owp_box (o := ⟨some 5, _, _, _, _, _⟩) rfl st ?_; apply Exists.intro; refine ⟨?_, ?_⟩; (focus (go_simp; try rfl)); (clear st; intro b5 w hb st; clear hb)); (try simp only [Value.cells, List.cons_append, List.nil_append, List.set, spl, putIt, pick, List.map_cons, List.map_nil, List.getElem?_cons_zero, List.getElem?_cons_succ, Option.getD_some, List.drop_succ_cons, List.drop_zero, List.drop_nil, List.append_nil, unB] at st); (try clear hc); have hc := st.facts; (try simp only [factsOf, blkI, blkFacts, rowI, byI, datI, nullI, oldI, penI, rdI, rdAnyI, rdOverI, Nat.zero_add, Nat.reduceAdd, and_true, true_and, and_self] at hc)))
      | ((with_reducible refine wl_buildSlice ?_ (fun K hK => ?_)); (rfl); ((refine owp_buildSlice (o := ⟨some 22, _, _, _, _, _⟩) rfl st ?_; apply Exists.intro; apply Exists.intro; apply Exists.intro; apply Exists.intro; refine ⟨?_, ?_⟩; (focus (go_simp; (first | done | exact ⟨⟨rfl, rfl⟩, rfl⟩ | rfl))); (clear st; intro b22 w hb st; clear hb)); (try simp only [Value.cells, List.cons_append, List.nil_append, List.set, spl, putIt, pick, List.map_cons, List.map_nil, List.getElem?_cons_zero, List.getElem?_cons_succ, Option.getD_some, List.drop_succ_cons, List.drop_zero, List.drop_nil, List.append_nil, unB] at st); (try clear hc); have hc := st.facts; (try simp only [factsOf, blkI, blkFacts, rowI, byI, datI, nullI, oldI, penI, rdI, rdAnyI, rdOverI, Nat.zero_add, Nat.reduceAdd, and_true, true_and, and_self] at hc))))
  go_loopg [27] 3 (fun k i wr => ∃ (j : Nat), j ≤ 3 ∧ k = 3 - j ∧ i = .int .i64 (j : Int) ∧ Own (fun _ => False) (fun _ => True) W [oldI W, blkI b3 [.string ⟨ao.toArray⟩, .string ⟨ad.toArray⟩], blkI b4 [.string ⟨bo.toArray⟩, .string ⟨bd.toArray⟩], blkI b5 [.string ⟨co.toArray⟩, .string ⟨cd.toArray⟩], blkI b22 [.string ⟨ao.toArray⟩, .string ⟨ad.toArray⟩, .string ⟨bo.toArray⟩, .string ⟨bd.toArray⟩, .string ⟨co.toArray⟩, .string ⟨cd.toArray⟩]] wr)
  case atStart => exact ⟨0, by omega, by omega, rfl, st⟩
  case round =>
    obtain ⟨j, hj, rfl, rfl, st'⟩ := hrel
    clear st hc
    have st := st'
    clear st'
    (try simp only [Value.cells, List.cons_append, List.nil_append, List.set, spl, putIt, pick, List.map_cons, List.map_nil, List.getElem?_cons_zero, List.getElem?_cons_succ, Option.getD_some, List.drop_succ_cons, List.drop_zero, List.drop_nil, List.append_nil, unB] at st)
    (try clear hc); have hc := st.facts; (try simp only [factsOf, blkI, blkFacts, rowI, byI, datI, nullI, oldI, penI, rdI, rdAnyI, rdOverI, Nat.zero_add, Nat.reduceAdd, and_true, true_and, and_self] at hc)
    by_cases hjn : j < 3
    · have hF := fl_lit (st.blk (i := 4) get4) ([(ao, ad), (bo, bd), (co, cd)] : List Role) rfl
      have hjl : j < ([(ao, ad), (bo, bd), (co, cd)] : List Role).length := hjn
      obtain ⟨x, hx⟩ : ∃ x, ([(ao, ad), (bo, bd), (co, cd)] : List Role)[j]? = some x := ⟨_, List.getElem?_eq_getElem hjl⟩
      have hxw : x.1.length ≤ 800 ∧ x.2.length ≤ 800 := by
        match j, hjn, hx with
        | 0, _, hx => cases hx; simp only; omega
        | 1, _, hx => cases hx; simp only; omega
        | 2, _, hx => cases hx; simp only; omega
      obtain ⟨b', off, hb, hcell⟩ := hF.role (by simp)
      cases hb
      have r0 := (hcell j x hx).1
      have r1 := (hcell j x hx).2
      obtain ⟨o, d⟩ := x
      simp only at r0 r1 hxw
      unfold S at r0 r1
      clear hF hjl hcell
      have HX := Lib.hid hx
      clear hx
      rw [Nat.zero_add] at r0 r1
      go_wp2_with (first
          | ((with_reducible refine wl_alloc ?_ (fun K hK => ?_)); (rfl); ((refine owp_alloc (o := ⟨some 9, _, _, _, _, _⟩) rfl st ?_; apply Exists.intro; apply Exists.intro; refine ⟨?_, ?_⟩; (focus (first | (go_simp; done) | (go_simp; rfl))); (clear st; intro b9 w hb st; clear hb)); (try simp only [Value.cells, List.cons_append, List.nil_append, List.set, spl, putIt, pick, List.map_cons, List.map_nil, List.getElem?_cons_zero, List.getElem?_cons_succ, Option.getD_some, List.drop_succ_cons, List.drop_zero, List.drop_nil, List.append_nil, unB] at st); (try clear hc); have hc := st.facts; (try simp only [factsOf, blkI, blkFacts, rowI, byI, datI, nullI, oldI, penI, rdI, rdAnyI, rdOverI, Nat.zero_add, Nat.reduceAdd, and_true, true_and, and_self] at hc)))
          | ((with_reducible refine wl_store ?_ (fun K hK => ?_)); (rfl); ((refine owp_store rfl st ?_; apply Exists.intro; apply Exists.intro; refine ⟨?_, ?_, ?_⟩; (focus (go_simp; try rfl)); (focus (go_simp; try rfl)); (first | with_reducible refine ⟨0, _, _, _, _, get0, rfl, rfl, ?_, ?_, ?_, ?_⟩ | with_reducible refine ⟨1, _, _, _, _, get1, rfl, rfl, ?_, ?_, ?_, ?_⟩ | with_reducible refine ⟨2, _, _, _, _, get2, rfl, rfl, ?_, ?_, ?_, ?_⟩ | with_reducible refine ⟨3, _, _, _, _, get3, rfl, rfl, ?_, ?_, ?_, ?_⟩ | with_reducible refine ⟨4, _, _, _, _, get4, rfl, rfl, ?_, ?_, ?_, ?_⟩ | with_reducible refine ⟨5, _, _, _, _, get5, rfl, rfl, ?_, ?_, ?_, ?_⟩ | with_reducible refine ⟨6, _, _, _, _, get6, rfl, rfl, ?_, ?_, ?_, ?_⟩ | with_reducible refine ⟨7, _, _, _, _, get7, rfl, rfl, ?_, ?_, ?_, ?_⟩); (kernel_rfl); (simp [Value.cells]); (rfl); (clear st; intro w st)); (try simp only [Value.cells, List.cons_append, List.nil_append, List.set, spl, putIt, pick, List.map_cons, List.map_nil, List.getElem?_cons_zero, List.getElem?_cons_succ, Option.getD_some, List.drop_succ_cons, List.drop_zero, List.drop_nil, List.append_nil, unB] at st); (try clear hc); have hc := st.facts; (try simp only [factsOf, blkI, blkFacts, rowI, byI, datI, nullI, oldI, penI, rdI, rdAnyI, rdOverI, Nat.zero_add, Nat.reduceAdd, and_true, true_and, and_self] at hc))))
      clear r0 r1
      go_loopg [33] 3 (fun k i wr => ∃ (q : Nat), q ≤ 3 ∧ k = 3 - q ∧ i = .int .i64 (q : Int) ∧ Own (fun _ => False) (fun _ => True) W [oldI W, blkI b3 [.string ⟨ao.toArray⟩, .string ⟨ad.toArray⟩], blkI b4 [.string ⟨bo.toArray⟩, .string ⟨bd.toArray⟩], blkI b5 [.string ⟨co.toArray⟩, .string ⟨cd.toArray⟩], blkI b22 [.string ⟨ao.toArray⟩, .string ⟨ad.toArray⟩, .string ⟨bo.toArray⟩, .string ⟨bd.toArray⟩, .string ⟨co.toArray⟩, .string ⟨cd.toArray⟩], blkI b9 [.string ⟨o.toArray⟩, .string ⟨d.toArray⟩]] wr)
      case atStart => exact ⟨0, by omega, by omega, rfl, st⟩
      case round =>
        obtain ⟨q, hq, rfl, rfl, st'⟩ := hrel
        clear st hc
        have st := st'
        clear st'
        (try simp only [Value.cells, List.cons_append, List.nil_append, List.set, spl, putIt, pick, List.map_cons, List.map_nil, List.getElem?_cons_zero, List.getElem?_cons_succ, Option.getD_some, List.drop_succ_cons, List.drop_zero, List.drop_nil, List.append_nil, unB] at st)
        (try clear hc); have hc := st.facts; (try simp only [factsOf, blkI, blkFacts, rowI, byI, datI, nullI, oldI, penI, rdI, rdAnyI, rdOverI, Nat.zero_add, Nat.reduceAdd, and_true, true_and, and_self] at hc)
        by_cases hqn : q < 3
        · have hF := fl_lit (st.blk (i := 4) get4) ([(ao, ad), (bo, bd), (co, cd)] : List Role) rfl
          have hql : q < ([(ao, ad), (bo, bd), (co, cd)] : List Role).length := hqn
          obtain ⟨y, hy⟩ : ∃ y, ([(ao, ad), (bo, bd), (co, cd)] : List Role)[q]? = some y := ⟨_, List.getElem?_eq_getElem hql⟩
          obtain ⟨b', off, hb, hcell⟩ := hF.role (by simp)
          cases hb
          have r0 := (hcell q y hy).1
          have r1 := (hcell q y hy).2
          obtain ⟨o', d'⟩ := y
          simp only at r0 r1
          unfold S at r0 r1
          clear hF hql hcell hy
          rw [Nat.zero_add] at r0 r1
          go_wp2_with (first
              | ((with_reducible refine wl_store ?_ (fun K hK => ?_)); (rfl); ((refine owp_store rfl st ?_; apply Exists.intro; apply Exists.intro; refine ⟨?_, ?_, ?_⟩; (focus (go_simp; try rfl)); (focus (go_simp; try rfl)); (first | with_reducible refine ⟨0, _, _, _, _, get0, rfl, rfl, ?_, ?_, ?_, ?_⟩ | with_reducible refine ⟨1, _, _, _, _, get1, rfl, rfl, ?_, ?_, ?_, ?_⟩ | with_reducible refine ⟨2, _, _, _, _, get2, rfl, rfl, ?_, ?_, ?_, ?_⟩ | with_reducible refine ⟨3, _, _, _, _, get3, rfl, rfl, ?_, ?_, ?_, ?_⟩ | with_reducible refine ⟨4, _, _, _, _, get4, rfl, rfl, ?_, ?_, ?_, ?_⟩ | with_reducible refine ⟨5, _, _, _, _, get5, rfl, rfl, ?_, ?_, ?_, ?_⟩ | with_reducible refine ⟨6, _, _, _, _, get6, rfl, rfl, ?_, ?_, ?_, ?_⟩ | with_reducible refine ⟨7, _, _, _, _, get7, rfl, rfl, ?_, ?_, ?_, ?_⟩); (kernel_rfl); (simp [Value.cells]); (rfl); (clear st; intro w st)); (try simp only [Value.cells, List.cons_append, List.nil_append, List.set, spl, putIt, pick, List.map_cons, List.map_nil, List.getElem?_cons_zero, List.getElem?_cons_succ, Option.getD_some, List.drop_succ_cons, List.drop_zero, List.drop_nil, List.append_nil, unB] at st); (try clear hc); have hc := st.facts; (try simp only [factsOf, blkI, blkFacts, rowI, byI, datI, nullI, oldI, penI, rdI, rdAnyI, rdOverI, Nat.zero_add, Nat.reduceAdd, and_true, true_and, and_self] at hc)))
              | ((with_reducible refine wl_alloc ?_ (fun K hK => ?_)); (rfl); ((refine owp_alloc (o := ⟨some 11, _, _, _, _, _⟩) rfl st ?_; apply Exists.intro; apply Exists.intro; refine ⟨?_, ?_⟩; (focus (first | (go_simp; done) | (go_simp; rfl))); (clear st; intro b11 w hb st; clear hb)); (try simp only [Value.cells, List.cons_append, List.nil_append, List.set, spl, putIt, pick, List.map_cons, List.map_nil, List.getElem?_cons_zero, List.getElem?_cons_succ, Option.getD_some, List.drop_succ_cons, List.drop_zero, List.drop_nil, List.append_nil, unB] at st); (try clear hc); have hc := st.facts; (try simp only [factsOf, blkI, blkFacts, rowI, byI, datI, nullI, oldI, penI, rdI, rdAnyI, rdOverI, Nat.zero_add, Nat.reduceAdd, and_true, true_and, and_self] at hc))))
          clear r0 r1
          rcases roleCmp_tri (o, d) (o', d') with ⟨t1, t2, t3⟩ | ⟨t1, t2, t3⟩ | ⟨t1, t2, t3⟩
          · have HT := Lib.hid (And.intro t1 t2)
            clear t1 t2
            refine Rg4.wp_region4 (Rel := Ext) #[0, 0, 3, 0, 0, 31, 63, 127, 255, 511, 511, 2047, 4095, 511, 511, 25087, 65535, 131071]
              [(2, .val (.int .i64 (-1))), (5, .val (.int .i64 1)), (11, .val (.int .i64 (-1)))] [] [0, 1, 3, 4, 9, 10, 13, 14] (fun _ => True) [0, 1, 2, 3, 4, 5, 6, 7, 8, 9, 10, 11, 12, 13, 14, 15, 16, 17] (by kernel_rfl) (by kernel_rfl) (by kernel_rfl) (by kernel_rfl) Ext.refl (fun _ _ _ => Ext.trans) (show Rg4.PB _ by repeat (first | with_reducible exact Rg4.pb_body | with_reducible exact Rg4.pb_bodyD rfl | with_reducible refine Rg4.pb_then ?_ | with_reducible refine Rg4.pb_inBlock ?_ | with_reducible refine Rg4.pb_noGoto ?_)) (trivial) ?_
            replace st := st.drew
            change Rg4.wp4 _ _ _ _ _ _ _ _ _ (World.drew _) _ _
            generalize World.drew _ = w at st ⊢
            (try clear hc); have hc := st.facts; (try simp only [factsOf, blkI, blkFacts, rowI, byI, datI, nullI, oldI, penI, rdI, rdAnyI, rdOverI, Nat.zero_add, Nat.reduceAdd, and_true, true_and, and_self] at hc)
            (refine Rg4.w4_read (Rg4.want_none rfl) rfl rfl ?_; apply Exists.intro; refine ⟨fun w' hw' hcl' => ?_, ?_⟩; focus (have st' := st.ext hw'; have hc' := st'.facts; (try simp only [factsOf, blkI, blkFacts, rowI, byI, datI, nullI, oldI, penI, rdI, rdAnyI, rdOverI, Nat.zero_add, Nat.reduceAdd, and_true, true_and, and_self] at hc'); (focus (first | (go_simp; done) | (go_simp; first | rfl | (rw [if_neg] <;> first | rfl | omega) | (rw [if_pos] <;> first | rfl | omega))))); (try simp only [Act.put, List.setIfInBounds_toArray, List.set]))
            (refine Rg4.w4_read (Rg4.want_none rfl) rfl rfl ?_; apply Exists.intro; refine ⟨fun w' hw' hcl' => ?_, ?_⟩; focus (have st' := st.ext hw'; have hc' := st'.facts; (try simp only [factsOf, blkI, blkFacts, rowI, byI, datI, nullI, oldI, penI, rdI, rdAnyI, rdOverI, Nat.zero_add, Nat.reduceAdd, and_true, true_and, and_self] at hc'); (focus (first | (go_simp; done) | (go_simp; first | rfl | (rw [if_neg] <;> first | rfl | omega) | (rw [if_pos] <;> first | rfl | omega))))); (try simp only [Act.put, List.setIfInBounds_toArray, List.set]))
            refine Rg4.w4_some (Rg4.want_none rfl) rfl (fun w' hw' hcl' _ => ?_) ?_
            · refine Rg.relAt_call (by go_simp; exact ⟨rfl, rfl⟩) ?_
              refine (roleCompare_any (o, d) (o', d') _).mono ?_
              rintro en w'' ⟨rfl, hx⟩
              exact ⟨_, by rw [HT.out.1], hx, trivial, rfl⟩
            rintro v ⟨_, _, _, rfl⟩
            (try simp only [Act.put, List.setIfInBounds_toArray, List.set])
            (refine Rg4.w4_read (Rg4.want_none rfl) rfl rfl ?_; apply Exists.intro; refine ⟨fun w' hw' hcl' => ?_, ?_⟩; focus (have st' := st.ext hw'; have hc' := st'.facts; (try simp only [factsOf, blkI, blkFacts, rowI, byI, datI, nullI, oldI, penI, rdI, rdAnyI, rdOverI, Nat.zero_add, Nat.reduceAdd, and_true, true_and, and_self] at hc'); (focus (first | (go_simp; done) | (go_simp; first | rfl | (rw [if_neg] <;> first | rfl | omega) | (rw [if_pos] <;> first | rfl | omega))))); (try simp only [Act.put, List.setIfInBounds_toArray, List.set]))
            (refine Rg4.w4_read (Rg4.want_none rfl) rfl rfl ?_; apply Exists.intro; refine ⟨fun w' hw' hcl' => ?_, ?_⟩; focus (have st' := st.ext hw'; have hc' := st'.facts; (try simp only [factsOf, blkI, blkFacts, rowI, byI, datI, nullI, oldI, penI, rdI, rdAnyI, rdOverI, Nat.zero_add, Nat.reduceAdd, and_true, true_and, and_self] at hc'); (focus (first | (go_simp; done) | (go_simp; first | rfl | (rw [if_neg] <;> first | rfl | omega) | (rw [if_pos] <;> first | rfl | omega))))); (try simp only [Act.put, List.setIfInBounds_toArray, List.set]))
            refine Rg4.w4_some (Rg4.want_none rfl) rfl (fun w' hw' hcl' _ => ?_) ?_
            · refine Rg.relAt_call (by go_simp; exact ⟨rfl, rfl⟩) ?_
              refine (roleCompare_any (o', d') (o, d) _).mono ?_
              rintro en w'' ⟨rfl, hx⟩
              exact ⟨_, by rw [HT.out.2], hx, trivial, rfl⟩
            rintro v ⟨_, _, _, rfl⟩
            (try simp only [Act.put, List.setIfInBounds_toArray, List.set])
            (refine Rg4.w4_any (Rg4.want_none rfl) rfl ?_; apply Exists.intro; refine ⟨fun w' => ?_, ?_⟩; (focus (first | (go_simp; done) | (go_simp; first | rfl | (rw [if_neg] <;> first | rfl | omega) | (rw [if_pos] <;> first | rfl | omega)))); (try simp only [Act.put, List.setIfInBounds_toArray, List.set]))
            (refine Rg4.w4_any (Rg4.want_none rfl) rfl ?_; apply Exists.intro; refine ⟨fun w' => ?_, ?_⟩; (focus (first | (go_simp; done) | (go_simp; first | rfl | (rw [if_neg] <;> first | rfl | omega) | (rw [if_pos] <;> first | rfl | omega)))); (try simp only [Act.put, List.setIfInBounds_toArray, List.set]))
            (refine Rg4.w4_any (Rg4.want_none rfl) rfl ?_; apply Exists.intro; refine ⟨fun w' => ?_, ?_⟩; (focus (first | (go_simp; done) | (go_simp; first | rfl | (rw [if_neg] <;> first | rfl | omega) | (rw [if_pos] <;> first | rfl | omega)))); (try simp only [Act.put, List.setIfInBounds_toArray, List.set]))
            (first | (refine Rg4.w4_read (Rg4.want_of 8 45 false rfl rfl rfl) rfl rfl ?_; apply Exists.intro; refine ⟨fun w' hw' hcl' => ?_, ?_⟩; focus (have st' := st.ext hw'; have hc' := st'.facts; (try simp only [factsOf, blkI, blkFacts, rowI, byI, datI, nullI, oldI, penI, rdI, rdAnyI, rdOverI, Nat.zero_add, Nat.reduceAdd, and_true, true_and, and_self] at hc'); (focus (first | (go_simp; done) | (go_simp; first | rfl | (rw [if_neg] <;> first | rfl | omega) | (rw [if_pos] <;> first | rfl | omega))))); (try simp only [Act.put, List.setIfInBounds_toArray, List.set])) | (refine Rg4.w4_skip (Rg4.unwant_of 8 45 false rfl rfl rfl) ?_; (try simp only [Act.put, List.setIfInBounds_toArray, List.set])) | (refine Rg4.w4_skip (Rg4.unwant_nil 8 45 false rfl rfl rfl) ?_; (try simp only [Act.put, List.setIfInBounds_toArray, List.set])))
            (first | (refine Rg4.w4_read (Rg4.want_of 8 45 false rfl rfl rfl) rfl rfl ?_; apply Exists.intro; refine ⟨fun w' hw' hcl' => ?_, ?_⟩; focus (have st' := st.ext hw'; have hc' := st'.facts; (try simp only [factsOf, blkI, blkFacts, rowI, byI, datI, nullI, oldI, penI, rdI, rdAnyI, rdOverI, Nat.zero_add, Nat.reduceAdd, and_true, true_and, and_self] at hc'); (focus (first | (go_simp; done) | (go_simp; first | rfl | (rw [if_neg] <;> first | rfl | omega) | (rw [if_pos] <;> first | rfl | omega))))); (try simp only [Act.put, List.setIfInBounds_toArray, List.set])) | (refine Rg4.w4_skip (Rg4.unwant_of 8 45 false rfl rfl rfl) ?_; (try simp only [Act.put, List.setIfInBounds_toArray, List.set])) | (refine Rg4.w4_skip (Rg4.unwant_nil 8 45 false rfl rfl rfl) ?_; (try simp only [Act.put, List.setIfInBounds_toArray, List.set])))
            refine Rg4.w4_some (Rg4.want_of 8 45 false rfl rfl rfl) rfl (fun w' hw' hcl' _ => ?_) ?_
            · refine Rg.relAt_call (by go_simp; exact ⟨rfl, rfl⟩) ?_
              refine (roleCompare_any (o, d) (o', d') _).mono ?_
              rintro en w'' ⟨rfl, hx⟩
              exact ⟨_, by rw [HT.out.1], hx, trivial, rfl⟩
            rintro v ⟨_, _, _, rfl⟩
            (try simp only [Act.put, List.setIfInBounds_toArray, List.set])
            (first | (refine Rg4.w4_any (Rg4.want_of 8 45 false rfl rfl rfl) rfl ?_; apply Exists.intro; refine ⟨fun w' => ?_, ?_⟩; (focus (first | (go_simp; done) | (go_simp; first | rfl | (rw [if_neg] <;> first | rfl | omega) | (rw [if_pos] <;> first | rfl | omega)))); (try simp only [Act.put, List.setIfInBounds_toArray, List.set])) | (refine Rg4.w4_skip (Rg4.unwant_of 8 45 false rfl rfl rfl) ?_; (try simp only [Act.put, List.setIfInBounds_toArray, List.set])) | (refine Rg4.w4_skip (Rg4.unwant_nil 8 45 false rfl rfl rfl) ?_; (try simp only [Act.put, List.setIfInBounds_toArray, List.set])))
            (first | (refine Rg4.w4_read (Rg4.want_of 8 45 false rfl rfl rfl) rfl rfl ?_; apply Exists.intro; refine ⟨fun w' hw' hcl' => ?_, ?_⟩; focus (have st' := st.ext hw'; have hc' := st'.facts; (try simp only [factsOf, blkI, blkFacts, rowI, byI, datI, nullI, oldI, penI, rdI, rdAnyI, rdOverI, Nat.zero_add, Nat.reduceAdd, and_true, true_and, and_self] at hc'); (focus (first | (go_simp; done) | (go_simp; first | rfl | (rw [if_neg] <;> first | rfl | omega) | (rw [if_pos] <;> first | rfl | omega))))); (try simp only [Act.put, List.setIfInBounds_toArray, List.set])) | (refine Rg4.w4_skip (Rg4.unwant_of 8 45 false rfl rfl rfl) ?_; (try simp only [Act.put, List.setIfInBounds_toArray, List.set])) | (refine Rg4.w4_skip (Rg4.unwant_nil 8 45 false rfl rfl rfl) ?_; (try simp only [Act.put, List.setIfInBounds_toArray, List.set])))
            (first | (refine Rg4.w4_read (Rg4.want_of 8 45 false rfl rfl rfl) rfl rfl ?_; apply Exists.intro; refine ⟨fun w' hw' hcl' => ?_, ?_⟩; focus (have st' := st.ext hw'; have hc' := st'.facts; (try simp only [factsOf, blkI, blkFacts, rowI, byI, datI, nullI, oldI, penI, rdI, rdAnyI, rdOverI, Nat.zero_add, Nat.reduceAdd, and_true, true_and, and_self] at hc'); (focus (first | (go_simp; done) | (go_simp; first | rfl | (rw [if_neg] <;> first | rfl | omega) | (rw [if_pos] <;> first | rfl | omega))))); (try simp only [Act.put, List.setIfInBounds_toArray, List.set])) | (refine Rg4.w4_skip (Rg4.unwant_of 8 45 false rfl rfl rfl) ?_; (try simp only [Act.put, List.setIfInBounds_toArray, List.set])) | (refine Rg4.w4_skip (Rg4.unwant_nil 8 45 false rfl rfl rfl) ?_; (try simp only [Act.put, List.setIfInBounds_toArray, List.set])))
            (first | (refine Rg4.w4_any (Rg4.want_of 8 45 false rfl rfl rfl) rfl ?_; apply Exists.intro; refine ⟨fun w' => ?_, ?_⟩; (focus (first | (go_simp; done) | (go_simp; first | rfl | (rw [if_neg] <;> first | rfl | omega) | (rw [if_pos] <;> first | rfl | omega)))); (try simp only [Act.put, List.setIfInBounds_toArray, List.set])) | (refine Rg4.w4_skip (Rg4.unwant_of 8 45 false rfl rfl rfl) ?_; (try simp only [Act.put, List.setIfInBounds_toArray, List.set])) | (refine Rg4.w4_skip (Rg4.unwant_nil 8 45 false rfl rfl rfl) ?_; (try simp only [Act.put, List.setIfInBounds_toArray, List.set])))
            (first | (refine Rg4.w4_any (Rg4.want_of 8 45 false rfl rfl rfl) rfl ?_; apply Exists.intro; refine ⟨fun w' => ?_, ?_⟩; (focus (first | (go_simp; done) | (go_simp; first | rfl | (rw [if_neg] <;> first | rfl | omega) | (rw [if_pos] <;> first | rfl | omega)))); (try simp only [Act.put, List.setIfInBounds_toArray, List.set])) | (refine Rg4.w4_skip (Rg4.unwant_of 8 45 false rfl rfl rfl) ?_; (try simp only [Act.put, List.setIfInBounds_toArray, List.set])) | (refine Rg4.w4_skip (Rg4.unwant_nil 8 45 false rfl rfl rfl) ?_; (try simp only [Act.put, List.setIfInBounds_toArray, List.set])))
            (refine Rg4.w4_any (Rg4.want_none rfl) rfl ?_; apply Exists.intro; refine ⟨fun w' => ?_, ?_⟩; (focus (first | (go_simp; done) | (go_simp; first | rfl | (rw [if_neg] <;> first | rfl | omega) | (rw [if_pos] <;> first | rfl | omega)))); (try simp only [Act.put, List.setIfInBounds_toArray, List.set]))
            refine Rg4.w4_nil (fun w' hw' hcl' _ => ?_); replace st := st.ext hw'; clear hw' hcl'; (try clear hc); have hc := st.facts; (try simp only [factsOf, blkI, blkFacts, rowI, byI, datI, nullI, oldI, penI, rdI, rdAnyI, rdOverI, Nat.zero_add, Nat.reduceAdd, and_true, true_and, and_self] at hc)
            go_wp2_with fail
            have st' := st.keep [0, 1, 2, 3, 4, 5] (by decide) (by simp)
            go_roundg (3 - (q + 1))
            case measure => omega
            case rel => exact ⟨q + 1, by omega, by omega, by go_num, by simpa [pick] using st'⟩
          · have HT := Lib.hid (And.intro t1 t2)
            clear t1 t2
            refine Rg4.wp_region4 (Rel := Ext) #[0, 0, 3, 0, 0, 31, 63, 127, 255, 511, 511, 2047, 4095, 511, 511, 25087, 65535, 131071]
              [(2, .val (.int .i64 0)), (5, .val (.int .i64 0)), (11, .val (.int .i64 0))] [] [0, 1, 3, 4, 9, 10, 13, 14] (fun _ => True) [0, 1, 2, 3, 4, 5, 6, 7, 8, 9, 10, 11, 12, 13, 14, 15, 16, 17] (by kernel_rfl) (by kernel_rfl) (by kernel_rfl) (by kernel_rfl) Ext.refl (fun _ _ _ => Ext.trans) (show Rg4.PB _ by repeat (first | with_reducible exact Rg4.pb_body | with_reducible exact Rg4.pb_bodyD rfl | with_reducible refine Rg4.pb_then ?_ | with_reducible refine Rg4.pb_inBlock ?_ | with_reducible refine Rg4.pb_noGoto ?_)) (trivial) ?_
            replace st := st.drew
            change Rg4.wp4 _ _ _ _ _ _ _ _ _ (World.drew _) _ _
            generalize World.drew _ = w at st ⊢
            (try clear hc); have hc := st.facts; (try simp only [factsOf, blkI, blkFacts, rowI, byI, datI, nullI, oldI, penI, rdI, rdAnyI, rdOverI, Nat.zero_add, Nat.reduceAdd, and_true, true_and, and_self] at hc)
            (refine Rg4.w4_read (Rg4.want_none rfl) rfl rfl ?_; apply Exists.intro; refine ⟨fun w' hw' hcl' => ?_, ?_⟩; focus (have st' := st.ext hw'; have hc' := st'.facts; (try simp only [factsOf, blkI, blkFacts, rowI, byI, datI, nullI, oldI, penI, rdI, rdAnyI, rdOverI, Nat.zero_add, Nat.reduceAdd, and_true, true_and, and_self] at hc'); (focus (first | (go_simp; done) | (go_simp; first | rfl | (rw [if_neg] <;> first | rfl | omega) | (rw [if_pos] <;> first | rfl | omega))))); (try simp only [Act.put, List.setIfInBounds_toArray, List.set]))
            (refine Rg4.w4_read (Rg4.want_none rfl) rfl rfl ?_; apply Exists.intro; refine ⟨fun w' hw' hcl' => ?_, ?_⟩; focus (have st' := st.ext hw'; have hc' := st'.facts; (try simp only [factsOf, blkI, blkFacts, rowI, byI, datI, nullI, oldI, penI, rdI, rdAnyI, rdOverI, Nat.zero_add, Nat.reduceAdd, and_true, true_and, and_self] at hc'); (focus (first | (go_simp; done) | (go_simp; first | rfl | (rw [if_neg] <;> first | rfl | omega) | (rw [if_pos] <;> first | rfl | omega))))); (try simp only [Act.put, List.setIfInBounds_toArray, List.set]))
            refine Rg4.w4_some (Rg4.want_none rfl) rfl (fun w' hw' hcl' _ => ?_) ?_
            · refine Rg.relAt_call (by go_simp; exact ⟨rfl, rfl⟩) ?_
              refine (roleCompare_any (o, d) (o', d') _).mono ?_
              rintro en w'' ⟨rfl, hx⟩
              exact ⟨_, by rw [HT.out.1], hx, trivial, rfl⟩
            rintro v ⟨_, _, _, rfl⟩
            (try simp only [Act.put, List.setIfInBounds_toArray, List.set])
            (refine Rg4.w4_read (Rg4.want_none rfl) rfl rfl ?_; apply Exists.intro; refine ⟨fun w' hw' hcl' => ?_, ?_⟩; focus (have st' := st.ext hw'; have hc' := st'.facts; (try simp only [factsOf, blkI, blkFacts, rowI, byI, datI, nullI, oldI, penI, rdI, rdAnyI, rdOverI, Nat.zero_add, Nat.reduceAdd, and_true, true_and, and_self] at hc'); (focus (first | (go_simp; done) | (go_simp; first | rfl | (rw [if_neg] <;> first | rfl | omega) | (rw [if_pos] <;> first | rfl | omega))))); (try simp only [Act.put, List.setIfInBounds_toArray, List.set]))
            (refine Rg4.w4_read (Rg4.want_none rfl) rfl rfl ?_; apply Exists.intro; refine ⟨fun w' hw' hcl' => ?_, ?_⟩; focus (have st' := st.ext hw'; have hc' := st'.facts; (try simp only [factsOf, blkI, blkFacts, rowI, byI, datI, nullI, oldI, penI, rdI, rdAnyI, rdOverI, Nat.zero_add, Nat.reduceAdd, and_true, true_and, and_self] at hc'); (focus (first | (go_simp; done) | (go_simp; first | rfl | (rw [if_neg] <;> first | rfl | omega) | (rw [if_pos] <;> first | rfl | omega))))); (try simp only [Act.put, List.setIfInBounds_toArray, List.set]))
            refine Rg4.w4_some (Rg4.want_none rfl) rfl (fun w' hw' hcl' _ => ?_) ?_
            · refine Rg.relAt_call (by go_simp; exact ⟨rfl, rfl⟩) ?_
              refine (roleCompare_any (o', d') (o, d) _).mono ?_
              rintro en w'' ⟨rfl, hx⟩
              exact ⟨_, by rw [HT.out.2], hx, trivial, rfl⟩
            rintro v ⟨_, _, _, rfl⟩
            (try simp only [Act.put, List.setIfInBounds_toArray, List.set])
            (refine Rg4.w4_any (Rg4.want_none rfl) rfl ?_; apply Exists.intro; refine ⟨fun w' => ?_, ?_⟩; (focus (first | (go_simp; done) | (go_simp; first | rfl | (rw [if_neg] <;> first | rfl | omega) | (rw [if_pos] <;> first | rfl | omega)))); (try simp only [Act.put, List.setIfInBounds_toArray, List.set]))
            (refine Rg4.w4_any (Rg4.want_none rfl) rfl ?_; apply Exists.intro; refine ⟨fun w' => ?_, ?_⟩; (focus (first | (go_simp; done) | (go_simp; first | rfl | (rw [if_neg] <;> first | rfl | omega) | (rw [if_pos] <;> first | rfl | omega)))); (try simp only [Act.put, List.setIfInBounds_toArray, List.set]))
            (refine Rg4.w4_any (Rg4.want_none rfl) rfl ?_; apply Exists.intro; refine ⟨fun w' => ?_, ?_⟩; (focus (first | (go_simp; done) | (go_simp; first | rfl | (rw [if_neg] <;> first | rfl | omega) | (rw [if_pos] <;> first | rfl | omega)))); (try simp only [Act.put, List.setIfInBounds_toArray, List.set]))
            (first | (refine Rg4.w4_read (Rg4.want_of 8 45 false rfl rfl rfl) rfl rfl ?_; apply Exists.intro; refine ⟨fun w' hw' hcl' => ?_, ?_⟩; focus (have st' := st.ext hw'; have hc' := st'.facts; (try simp only [factsOf, blkI, blkFacts, rowI, byI, datI, nullI, oldI, penI, rdI, rdAnyI, rdOverI, Nat.zero_add, Nat.reduceAdd, and_true, true_and, and_self] at hc'); (focus (first | (go_simp; done) | (go_simp; first | rfl | (rw [if_neg] <;> first | rfl | omega) | (rw [if_pos] <;> first | rfl | omega))))); (try simp only [Act.put, List.setIfInBounds_toArray, List.set])) | (refine Rg4.w4_skip (Rg4.unwant_of 8 45 false rfl rfl rfl) ?_; (try simp only [Act.put, List.setIfInBounds_toArray, List.set])) | (refine Rg4.w4_skip (Rg4.unwant_nil 8 45 false rfl rfl rfl) ?_; (try simp only [Act.put, List.setIfInBounds_toArray, List.set])))
            (first | (refine Rg4.w4_read (Rg4.want_of 8 45 false rfl rfl rfl) rfl rfl ?_; apply Exists.intro; refine ⟨fun w' hw' hcl' => ?_, ?_⟩; focus (have st' := st.ext hw'; have hc' := st'.facts; (try simp only [factsOf, blkI, blkFacts, rowI, byI, datI, nullI, oldI, penI, rdI, rdAnyI, rdOverI, Nat.zero_add, Nat.reduceAdd, and_true, true_and, and_self] at hc'); (focus (first | (go_simp; done) | (go_simp; first | rfl | (rw [if_neg] <;> first | rfl | omega) | (rw [if_pos] <;> first | rfl | omega))))); (try simp only [Act.put, List.setIfInBounds_toArray, List.set])) | (refine Rg4.w4_skip (Rg4.unwant_of 8 45 false rfl rfl rfl) ?_; (try simp only [Act.put, List.setIfInBounds_toArray, List.set])) | (refine Rg4.w4_skip (Rg4.unwant_nil 8 45 false rfl rfl rfl) ?_; (try simp only [Act.put, List.setIfInBounds_toArray, List.set])))
            refine Rg4.w4_some (Rg4.want_of 8 45 false rfl rfl rfl) rfl (fun w' hw' hcl' _ => ?_) ?_
            · refine Rg.relAt_call (by go_simp; exact ⟨rfl, rfl⟩) ?_
              refine (roleCompare_any (o, d) (o', d') _).mono ?_
              rintro en w'' ⟨rfl, hx⟩
              exact ⟨_, by rw [HT.out.1], hx, trivial, rfl⟩
            rintro v ⟨_, _, _, rfl⟩
            (try simp only [Act.put, List.setIfInBounds_toArray, List.set])
            (first | (refine Rg4.w4_any (Rg4.want_of 8 45 false rfl rfl rfl) rfl ?_; apply Exists.intro; refine ⟨fun w' => ?_, ?_⟩; (focus (first | (go_simp; done) | (go_simp; first | rfl | (rw [if_neg] <;> first | rfl | omega) | (rw [if_pos] <;> first | rfl | omega)))); (try simp only [Act.put, List.setIfInBounds_toArray, List.set])) | (refine Rg4.w4_skip (Rg4.unwant_of 8 45 false rfl rfl rfl) ?_; (try simp only [Act.put, List.setIfInBounds_toArray, List.set])) | (refine Rg4.w4_skip (Rg4.unwant_nil 8 45 false rfl rfl rfl) ?_; (try simp only [Act.put, List.setIfInBounds_toArray, List.set])))
            (first | (refine Rg4.w4_read (Rg4.want_of 8 45 false rfl rfl rfl) rfl rfl ?_; apply Exists.intro; refine ⟨fun w' hw' hcl' => ?_, ?_⟩; focus (have st' := st.ext hw'; have hc' := st'.facts; (try simp only [factsOf, blkI, blkFacts, rowI, byI, datI, nullI, oldI, penI, rdI, rdAnyI, rdOverI, Nat.zero_add, Nat.reduceAdd, and_true, true_and, and_self] at hc'); (focus (first | (go_simp; done) | (go_simp; first | rfl | (rw [if_neg] <;> first | rfl | omega) | (rw [if_pos] <;> first | rfl | omega))))); (try simp only [Act.put, List.setIfInBounds_toArray, List.set])) | (refine Rg4.w4_skip (Rg4.unwant_of 8 45 false rfl rfl rfl) ?_; (try simp only [Act.put, List.setIfInBounds_toArray, List.set])) | (refine Rg4.w4_skip (Rg4.unwant_nil 8 45 false rfl rfl rfl) ?_; (try simp only [Act.put, List.setIfInBounds_toArray, List.set])))
            (first | (refine Rg4.w4_read (Rg4.want_of 8 45 false rfl rfl rfl) rfl rfl ?_; apply Exists.intro; refine ⟨fun w' hw' hcl' => ?_, ?_⟩; focus (have st' := st.ext hw'; have hc' := st'.facts; (try simp only [factsOf, blkI, blkFacts, rowI, byI, datI, nullI, oldI, penI, rdI, rdAnyI, rdOverI, Nat.zero_add, Nat.reduceAdd, and_true, true_and, and_self] at hc'); (focus (first | (go_simp; done) | (go_simp; first | rfl | (rw [if_neg] <;> first | rfl | omega) | (rw [if_pos] <;> first | rfl | omega))))); (try simp only [Act.put, List.setIfInBounds_toArray, List.set])) | (refine Rg4.w4_skip (Rg4.unwant_of 8 45 false rfl rfl rfl) ?_; (try simp only [Act.put, List.setIfInBounds_toArray, List.set])) | (refine Rg4.w4_skip (Rg4.unwant_nil 8 45 false rfl rfl rfl) ?_; (try simp only [Act.put, List.setIfInBounds_toArray, List.set])))
            (first | (refine Rg4.w4_any (Rg4.want_of 8 45 false rfl rfl rfl) rfl ?_; apply Exists.intro; refine ⟨fun w' => ?_, ?_⟩; (focus (first | (go_simp; done) | (go_simp; first | rfl | (rw [if_neg] <;> first | rfl | omega) | (rw [if_pos] <;> first | rfl | omega)))); (try simp only [Act.put, List.setIfInBounds_toArray, List.set])) | (refine Rg4.w4_skip (Rg4.unwant_of 8 45 false rfl rfl rfl) ?_; (try simp only [Act.put, List.setIfInBounds_toArray, List.set])) | (refine Rg4.w4_skip (Rg4.unwant_nil 8 45 false rfl rfl rfl) ?_; (try simp only [Act.put, List.setIfInBounds_toArray, List.set])))
            (first | (refine Rg4.w4_any (Rg4.want_of 8 45 false rfl rfl rfl) rfl ?_; apply Exists.intro; refine ⟨fun w' => ?_, ?_⟩; (focus (first | (go_simp; done) | (go_simp; first | rfl | (rw [if_neg] <;> first | rfl | omega) | (rw [if_pos] <;> first | rfl | omega)))); (try simp only [Act.put, List.setIfInBounds_toArray, List.set])) | (refine Rg4.w4_skip (Rg4.unwant_of 8 45 false rfl rfl rfl) ?_; (try simp only [Act.put, List.setIfInBounds_toArray, List.set])) | (refine Rg4.w4_skip (Rg4.unwant_nil 8 45 false rfl rfl rfl) ?_; (try simp only [Act.put, List.setIfInBounds_toArray, List.set])))
            (refine Rg4.w4_any (Rg4.want_none rfl) rfl ?_; apply Exists.intro; refine ⟨fun w' => ?_, ?_⟩; (focus (first | (go_simp; done) | (go_simp; first | rfl | (rw [if_neg] <;> first | rfl | omega) | (rw [if_pos] <;> first | rfl | omega)))); (try simp only [Act.put, List.setIfInBounds_toArray, List.set]))
            refine Rg4.w4_nil (fun w' hw' hcl' _ => ?_); replace st := st.ext hw'; clear hw' hcl'; (try clear hc); have hc := st.facts; (try simp only [factsOf, blkI, blkFacts, rowI, byI, datI, nullI, oldI, penI, rdI, rdAnyI, rdOverI, Nat.zero_add, Nat.reduceAdd, and_true, true_and, and_self] at hc)
            go_wp2_with fail
            have st' := st.keep [0, 1, 2, 3, 4, 5] (by decide) (by simp)
            go_roundg (3 - (q + 1))
            case measure => omega
            case rel => exact ⟨q + 1, by omega, by omega, by go_num, by simpa [pick] using st'⟩
          · have HT := Lib.hid (And.intro t1 t2)
            clear t1 t2
            refine Rg4.wp_region4 (Rel := Ext) #[0, 0, 3, 0, 0, 31, 63, 127, 255, 511, 511, 2047, 4095, 511, 511, 25087, 65535, 131071]
              [(2, .val (.int .i64 1)), (5, .val (.int .i64 (-1))), (11, .val (.int .i64 1))] [] [0, 1, 3, 4, 9, 10, 13, 14] (fun _ => True) [0, 1, 2, 3, 4, 5, 6, 7, 8, 9, 10, 11, 12, 13, 14, 15, 16, 17] (by kernel_rfl) (by kernel_rfl) (by kernel_rfl) (by kernel_rfl) Ext.refl (fun _ _ _ => Ext.trans) (show Rg4.PB _ by repeat (first | with_reducible exact Rg4.pb_body | with_reducible exact Rg4.pb_bodyD rfl | with_reducible refine Rg4.pb_then ?_ | with_reducible refine Rg4.pb_inBlock ?_ | with_reducible refine Rg4.pb_noGoto ?_)) (trivial) ?_
            replace st := st.drew
            change Rg4.wp4 _ _ _ _ _ _ _ _ _ (World.drew _) _ _
            generalize World.drew _ = w at st ⊢
            (try clear hc); have hc := st.facts; (try simp only [factsOf, blkI, blkFacts, rowI, byI, datI, nullI, oldI, penI, rdI, rdAnyI, rdOverI, Nat.zero_add, Nat.reduceAdd, and_true, true_and, and_self] at hc)
            (refine Rg4.w4_read (Rg4.want_none rfl) rfl rfl ?_; apply Exists.intro; refine ⟨fun w' hw' hcl' => ?_, ?_⟩; focus (have st' := st.ext hw'; have hc' := st'.facts; (try simp only [factsOf, blkI, blkFacts, rowI, byI, datI, nullI, oldI, penI, rdI, rdAnyI, rdOverI, Nat.zero_add, Nat.reduceAdd, and_true, true_and, and_self] at hc'); (focus (first | (go_simp; done) | (go_simp; first | rfl | (rw [if_neg] <;> first | rfl | omega) | (rw [if_pos] <;> first | rfl | omega))))); (try simp only [Act.put, List.setIfInBounds_toArray, List.set]))
            (refine Rg4.w4_read (Rg4.want_none rfl) rfl rfl ?_; apply Exists.intro; refine ⟨fun w' hw' hcl' => ?_, ?_⟩; focus (have st' := st.ext hw'; have hc' := st'.facts; (try simp only [factsOf, blkI, blkFacts, rowI, byI, datI, nullI, oldI, penI, rdI, rdAnyI, rdOverI, Nat.zero_add, Nat.reduceAdd, and_true, true_and, and_self] at hc'); (focus (first | (go_simp; done) | (go_simp; first | rfl | (rw [if_neg] <;> first | rfl | omega) | (rw [if_pos] <;> first | rfl | omega))))); (try simp only [Act.put, List.setIfInBounds_toArray, List.set]))
            refine Rg4.w4_some (Rg4.want_none rfl) rfl (fun w' hw' hcl' _ => ?_) ?_
            · refine Rg.relAt_call (by go_simp; exact ⟨rfl, rfl⟩) ?_
              refine (roleCompare_any (o, d) (o', d') _).mono ?_
              rintro en w'' ⟨rfl, hx⟩
              exact ⟨_, by rw [HT.out.1], hx, trivial, rfl⟩
            rintro v ⟨_, _, _, rfl⟩
            (try simp only [Act.put, List.setIfInBounds_toArray, List.set])
            (refine Rg4.w4_read (Rg4.want_none rfl) rfl rfl ?_; apply Exists.intro; refine ⟨fun w' hw' hcl' => ?_, ?_⟩; focus (have st' := st.ext hw'; have hc' := st'.facts; (try simp only [factsOf, blkI, blkFacts, rowI, byI, datI, nullI, oldI, penI, rdI, rdAnyI, rdOverI, Nat.zero_add, Nat.reduceAdd, and_true, true_and, and_self] at hc'); (focus (first | (go_simp; done) | (go_simp; first | rfl | (rw [if_neg] <;> first | rfl | omega) | (rw [if_pos] <;> first | rfl | omega))))); (try simp only [Act.put, List.setIfInBounds_toArray, List.set]))
            (refine Rg4.w4_read (Rg4.want_none rfl) rfl rfl ?_; apply Exists.intro; refine ⟨fun w' hw' hcl' => ?_, ?_⟩; focus (have st' := st.ext hw'; have hc' := st'.facts; (try simp only [factsOf, blkI, blkFacts, rowI, byI, datI, nullI, oldI, penI, rdI, rdAnyI, rdOverI, Nat.zero_add, Nat.reduceAdd, and_true, true_and, and_self] at hc'); (focus (first | (go_simp; done) | (go_simp; first | rfl | (rw [if_neg] <;> first | rfl | omega) | (rw [if_pos] <;> first | rfl | omega))))); (try simp only [Act.put, List.setIfInBounds_toArray, List.set]))
            refine Rg4.w4_some (Rg4.want_none rfl) rfl (fun w' hw' hcl' _ => ?_) ?_
            · refine Rg.relAt_call (by go_simp; exact ⟨rfl, rfl⟩) ?_
              refine (roleCompare_any (o', d') (o, d) _).mono ?_
              rintro en w'' ⟨rfl, hx⟩
              exact ⟨_, by rw [HT.out.2], hx, trivial, rfl⟩
            rintro v ⟨_, _, _, rfl⟩
            (try simp only [Act.put, List.setIfInBounds_toArray, List.set])
            (refine Rg4.w4_any (Rg4.want_none rfl) rfl ?_; apply Exists.intro; refine ⟨fun w' => ?_, ?_⟩; (focus (first | (go_simp; done) | (go_simp; first | rfl | (rw [if_neg] <;> first | rfl | omega) | (rw [if_pos] <;> first | rfl | omega)))); (try simp only [Act.put, List.setIfInBounds_toArray, List.set]))
            (refine Rg4.w4_any (Rg4.want_none rfl) rfl ?_; apply Exists.intro; refine ⟨fun w' => ?_, ?_⟩; (focus (first | (go_simp; done) | (go_simp; first | rfl | (rw [if_neg] <;> first | rfl | omega) | (rw [if_pos] <;> first | rfl | omega)))); (try simp only [Act.put, List.setIfInBounds_toArray, List.set]))
            (refine Rg4.w4_any (Rg4.want_none rfl) rfl ?_; apply Exists.intro; refine ⟨fun w' => ?_, ?_⟩; (focus (first | (go_simp; done) | (go_simp; first | rfl | (rw [if_neg] <;> first | rfl | omega) | (rw [if_pos] <;> first | rfl | omega)))); (try simp only [Act.put, List.setIfInBounds_toArray, List.set]))
            (first | (refine Rg4.w4_read (Rg4.want_of 8 45 false rfl rfl rfl) rfl rfl ?_; apply Exists.intro; refine ⟨fun w' hw' hcl' => ?_, ?_⟩; focus (have st' := st.ext hw'; have hc' := st'.facts; (try simp only [factsOf, blkI, blkFacts, rowI, byI, datI, nullI, oldI, penI, rdI, rdAnyI, rdOverI, Nat.zero_add, Nat.reduceAdd, and_true, true_and, and_self] at hc'); (focus (first | (go_simp; done) | (go_simp; first | rfl | (rw [if_neg] <;> first | rfl | omega) | (rw [if_pos] <;> first | rfl | omega))))); (try simp only [Act.put, List.setIfInBounds_toArray, List.set])) | (refine Rg4.w4_skip (Rg4.unwant_of 8 45 false rfl rfl rfl) ?_; (try simp only [Act.put, List.setIfInBounds_toArray, List.set])) | (refine Rg4.w4_skip (Rg4.unwant_nil 8 45 false rfl rfl rfl) ?_; (try simp only [Act.put, List.setIfInBounds_toArray, List.set])))
            (first | (refine Rg4.w4_read (Rg4.want_of 8 45 false rfl rfl rfl) rfl rfl ?_; apply Exists.intro; refine ⟨fun w' hw' hcl' => ?_, ?_⟩; focus (have st' := st.ext hw'; have hc' := st'.facts; (try simp only [factsOf, blkI, blkFacts, rowI, byI, datI, nullI, oldI, penI, rdI, rdAnyI, rdOverI, Nat.zero_add, Nat.reduceAdd, and_true, true_and, and_self] at hc'); (focus (first | (go_simp; done) | (go_simp; first | rfl | (rw [if_neg] <;> first | rfl | omega) | (rw [if_pos] <;> first | rfl | omega))))); (try simp only [Act.put, List.setIfInBounds_toArray, List.set])) | (refine Rg4.w4_skip (Rg4.unwant_of 8 45 false rfl rfl rfl) ?_; (try simp only [Act.put, List.setIfInBounds_toArray, List.set])) | (refine Rg4.w4_skip (Rg4.unwant_nil 8 45 false rfl rfl rfl) ?_; (try simp only [Act.put, List.setIfInBounds_toArray, List.set])))
            refine Rg4.w4_some (Rg4.want_of 8 45 false rfl rfl rfl) rfl (fun w' hw' hcl' _ => ?_) ?_
            · refine Rg.relAt_call (by go_simp; exact ⟨rfl, rfl⟩) ?_
              refine (roleCompare_any (o, d) (o', d') _).mono ?_
              rintro en w'' ⟨rfl, hx⟩
              exact ⟨_, by rw [HT.out.1], hx, trivial, rfl⟩
            rintro v ⟨_, _, _, rfl⟩
            (try simp only [Act.put, List.setIfInBounds_toArray, List.set])
            (first | (refine Rg4.w4_any (Rg4.want_of 8 45 false rfl rfl rfl) rfl ?_; apply Exists.intro; refine ⟨fun w' => ?_, ?_⟩; (focus (first | (go_simp; done) | (go_simp; first | rfl | (rw [if_neg] <;> first | rfl | omega) | (rw [if_pos] <;> first | rfl | omega)))); (try simp only [Act.put, List.setIfInBounds_toArray, List.set])) | (refine Rg4.w4_skip (Rg4.unwant_of 8 45 false rfl rfl rfl) ?_; (try simp only [Act.put, List.setIfInBounds_toArray, List.set])) | (refine Rg4.w4_skip (Rg4.unwant_nil 8 45 false rfl rfl rfl) ?_; (try simp only [Act.put, List.setIfInBounds_toArray, List.set])))
            (first | (refine Rg4.w4_read (Rg4.want_of 8 45 false rfl rfl rfl) rfl rfl ?_; apply Exists.intro; refine ⟨fun w' hw' hcl' => ?_, ?_⟩; focus (have st' := st.ext hw'; have hc' := st'.facts; (try simp only [factsOf, blkI, blkFacts, rowI, byI, datI, nullI, oldI, penI, rdI, rdAnyI, rdOverI, Nat.zero_add, Nat.reduceAdd, and_true, true_and, and_self] at hc'); (focus (first | (go_simp; done) | (go_simp; first | rfl | (rw [if_neg] <;> first | rfl | omega) | (rw [if_pos] <;> first | rfl | omega))))); (try simp only [Act.put, List.setIfInBounds_toArray, List.set])) | (refine Rg4.w4_skip (Rg4.unwant_of 8 45 false rfl rfl rfl) ?_; (try simp only [Act.put, List.setIfInBounds_toArray, List.set])) | (refine Rg4.w4_skip (Rg4.unwant_nil 8 45 false rfl rfl rfl) ?_; (try simp only [Act.put, List.setIfInBounds_toArray, List.set])))
            (first | (refine Rg4.w4_read (Rg4.want_of 8 45 false rfl rfl rfl) rfl rfl ?_; apply Exists.intro; refine ⟨fun w' hw' hcl' => ?_, ?_⟩; focus (have st' := st.ext hw'; have hc' := st'.facts; (try simp only [factsOf, blkI, blkFacts, rowI, byI, datI, nullI, oldI, penI, rdI, rdAnyI, rdOverI, Nat.zero_add, Nat.reduceAdd, and_true, true_and, and_self] at hc'); (focus (first | (go_simp; done) | (go_simp; first | rfl | (rw [if_neg] <;> first | rfl | omega) | (rw [if_pos] <;> first | rfl | omega))))); (try simp only [Act.put, List.setIfInBounds_toArray, List.set])) | (refine Rg4.w4_skip (Rg4.unwant_of 8 45 false rfl rfl rfl) ?_; (try simp only [Act.put, List.setIfInBounds_toArray, List.set])) | (refine Rg4.w4_skip (Rg4.unwant_nil 8 45 false rfl rfl rfl) ?_; (try simp only [Act.put, List.setIfInBounds_toArray, List.set])))
            (first | (refine Rg4.w4_any (Rg4.want_of 8 45 false rfl rfl rfl) rfl ?_; apply Exists.intro; refine ⟨fun w' => ?_, ?_⟩; (focus (first | (go_simp; done) | (go_simp; first | rfl | (rw [if_neg] <;> first | rfl | omega) | (rw [if_pos] <;> first | rfl | omega)))); (try simp only [Act.put, List.setIfInBounds_toArray, List.set])) | (refine Rg4.w4_skip (Rg4.unwant_of 8 45 false rfl rfl rfl) ?_; (try simp only [Act.put, List.setIfInBounds_toArray, List.set])) | (refine Rg4.w4_skip (Rg4.unwant_nil 8 45 false rfl rfl rfl) ?_; (try simp only [Act.put, List.setIfInBounds_toArray, List.set])))
            (first | (refine Rg4.w4_any (Rg4.want_of 8 45 false rfl rfl rfl) rfl ?_; apply Exists.intro; refine ⟨fun w' => ?_, ?_⟩; (focus (first | (go_simp; done) | (go_simp; first | rfl | (rw [if_neg] <;> first | rfl | omega) | (rw [if_pos] <;> first | rfl | omega)))); (try simp only [Act.put, List.setIfInBounds_toArray, List.set])) | (refine Rg4.w4_skip (Rg4.unwant_of 8 45 false rfl rfl rfl) ?_; (try simp only [Act.put, List.setIfInBounds_toArray, List.set])) | (refine Rg4.w4_skip (Rg4.unwant_nil 8 45 false rfl rfl rfl) ?_; (try simp only [Act.put, List.setIfInBounds_toArray, List.set])))
            (refine Rg4.w4_any (Rg4.want_none rfl) rfl ?_; apply Exists.intro; refine ⟨fun w' => ?_, ?_⟩; (focus (first | (go_simp; done) | (go_simp; first | rfl | (rw [if_neg] <;> first | rfl | omega) | (rw [if_pos] <;> first | rfl | omega)))); (try simp only [Act.put, List.setIfInBounds_toArray, List.set]))
            refine Rg4.w4_nil (fun w' hw' hcl' _ => ?_); replace st := st.ext hw'; clear hw' hcl'; (try clear hc); have hc := st.facts; (try simp only [factsOf, blkI, blkFacts, rowI, byI, datI, nullI, oldI, penI, rdI, rdAnyI, rdOverI, Nat.zero_add, Nat.reduceAdd, and_true, true_and, and_self] at hc)
            go_wp2_with fail
            have st' := st.keep [0, 1, 2, 3, 4, 5] (by decide) (by simp)
            go_roundg (3 - (q + 1))
            case measure => omega
            case rel => exact ⟨q + 1, by omega, by omega, by go_num, by simpa [pick] using st'⟩
        · obtain rfl : q = 3 := by omega
          go_wp2_with (first
              | ((with_reducible refine wl_store ?_ (fun K hK => ?_)); (rfl); ((refine owp_store rfl st ?_; apply Exists.intro; apply Exists.intro; refine ⟨?_, ?_, ?_⟩; (focus (go_simp; try rfl)); (focus (go_simp; try rfl)); (first | with_reducible refine ⟨0, _, _, _, _, get0, rfl, rfl, ?_, ?_, ?_, ?_⟩ | with_reducible refine ⟨1, _, _, _, _, get1, rfl, rfl, ?_, ?_, ?_, ?_⟩ | with_reducible refine ⟨2, _, _, _, _, get2, rfl, rfl, ?_, ?_, ?_, ?_⟩ | with_reducible refine ⟨3, _, _, _, _, get3, rfl, rfl, ?_, ?_, ?_, ?_⟩ | with_reducible refine ⟨4, _, _, _, _, get4, rfl, rfl, ?_, ?_, ?_, ?_⟩ | with_reducible refine ⟨5, _, _, _, _, get5, rfl, rfl, ?_, ?_, ?_, ?_⟩ | with_reducible refine ⟨6, _, _, _, _, get6, rfl, rfl, ?_, ?_, ?_, ?_⟩ | with_reducible refine ⟨7, _, _, _, _, get7, rfl, rfl, ?_, ?_, ?_, ?_⟩); (kernel_rfl); (simp [Value.cells]); (rfl); (clear st; intro w st)); (try simp only [Value.cells, List.cons_append, List.nil_append, List.set, spl, putIt, pick, List.map_cons, List.map_nil, List.getElem?_cons_zero, List.getElem?_cons_succ, Option.getD_some, List.drop_succ_cons, List.drop_zero, List.drop_nil, List.append_nil, unB] at st); (try clear hc); have hc := st.facts; (try simp only [factsOf, blkI, blkFacts, rowI, byI, datI, nullI, oldI, penI, rdI, rdAnyI, rdOverI, Nat.zero_add, Nat.reduceAdd, and_true, true_and, and_self] at hc)))
              | ((with_reducible refine wl_alloc ?_ (fun K hK => ?_)); (rfl); ((refine owp_alloc (o := ⟨some 11, _, _, _, _, _⟩) rfl st ?_; apply Exists.intro; apply Exists.intro; refine ⟨?_, ?_⟩; (focus (first | (go_simp; done) | (go_simp; rfl))); (clear st; intro b11 w hb st; clear hb)); (try simp only [Value.cells, List.cons_append, List.nil_append, List.set, spl, putIt, pick, List.map_cons, List.map_nil, List.getElem?_cons_zero, List.getElem?_cons_succ, Option.getD_some, List.drop_succ_cons, List.drop_zero, List.drop_nil, List.append_nil, unB] at st); (try clear hc); have hc := st.facts; (try simp only [factsOf, blkI, blkFacts, rowI, byI, datI, nullI, oldI, penI, rdI, rdAnyI, rdOverI, Nat.zero_add, Nat.reduceAdd, and_true, true_and, and_self] at hc))))
          refine (roleRight_any (o, d) _ (by simp only; omega) (by simp only; omega)).mono ?_
          rintro en w ⟨rfl, hx⟩
          replace st := st.ext hx
          clear hx
          (try clear hc); have hc := st.facts; (try simp only [factsOf, blkI, blkFacts, rowI, byI, datI, nullI, oldI, penI, rdI, rdAnyI, rdOverI, Nat.zero_add, Nat.reduceAdd, and_true, true_and, and_self] at hc)
          cases hr : roleR (o, d) with
          | false =>
            clear hr
            go_wp2_with (first
                | ((with_reducible refine wl_store ?_ (fun K hK => ?_)); (rfl); ((refine owp_store rfl st ?_; apply Exists.intro; apply Exists.intro; refine ⟨?_, ?_, ?_⟩; (focus (go_simp; try rfl)); (focus (go_simp; try rfl)); (first | with_reducible refine ⟨0, _, _, _, _, get0, rfl, rfl, ?_, ?_, ?_, ?_⟩ | with_reducible refine ⟨1, _, _, _, _, get1, rfl, rfl, ?_, ?_, ?_, ?_⟩ | with_reducible refine ⟨2, _, _, _, _, get2, rfl, rfl, ?_, ?_, ?_, ?_⟩ | with_reducible refine ⟨3, _, _, _, _, get3, rfl, rfl, ?_, ?_, ?_, ?_⟩ | with_reducible refine ⟨4, _, _, _, _, get4, rfl, rfl, ?_, ?_, ?_, ?_⟩ | with_reducible refine ⟨5, _, _, _, _, get5, rfl, rfl, ?_, ?_, ?_, ?_⟩ | with_reducible refine ⟨6, _, _, _, _, get6, rfl, rfl, ?_, ?_, ?_, ?_⟩ | with_reducible refine ⟨7, _, _, _, _, get7, rfl, rfl, ?_, ?_, ?_, ?_⟩); (kernel_rfl); (simp [Value.cells]); (rfl); (clear st; intro w st)); (try simp only [Value.cells, List.cons_append, List.nil_append, List.set, spl, putIt, pick, List.map_cons, List.map_nil, List.getElem?_cons_zero, List.getElem?_cons_succ, Option.getD_some, List.drop_succ_cons, List.drop_zero, List.drop_nil, List.append_nil, unB] at st); (try clear hc); have hc := st.facts; (try simp only [factsOf, blkI, blkFacts, rowI, byI, datI, nullI, oldI, penI, rdI, rdAnyI, rdOverI, Nat.zero_add, Nat.reduceAdd, and_true, true_and, and_self] at hc)))
                | ((with_reducible refine wl_alloc ?_ (fun K hK => ?_)); (rfl); ((refine owp_alloc (o := ⟨some 11, _, _, _, _, _⟩) rfl st ?_; apply Exists.intro; apply Exists.intro; refine ⟨?_, ?_⟩; (focus (first | (go_simp; done) | (go_simp; rfl))); (clear st; intro b11 w hb st; clear hb)); (try simp only [Value.cells, List.cons_append, List.nil_append, List.set, spl, putIt, pick, List.map_cons, List.map_nil, List.getElem?_cons_zero, List.getElem?_cons_succ, Option.getD_some, List.drop_succ_cons, List.drop_zero, List.drop_nil, List.append_nil, unB] at st); (try clear hc); have hc := st.facts; (try simp only [factsOf, blkI, blkFacts, rowI, byI, datI, nullI, oldI, penI, rdI, rdAnyI, rdOverI, Nat.zero_add, Nat.reduceAdd, and_true, true_and, and_self] at hc))))
            have st' := st.keep [0, 1, 2, 3, 4] (by decide) (by simp)
            go_roundg (3 - (j + 1))
            case measure => omega
            case rel => exact ⟨j + 1, by omega, by omega, by go_num, by simpa [pick] using st'⟩
          | true =>
            have HR := Lib.hid hr
            clear hr
            go_wp2_with (first
                | ((with_reducible refine wl_box ?_ (fun K hK => ?_)); (rfl); ((refine owp_box (o := ⟨some 60, _, _, _, _, _⟩) rfl st ?_; apply Exists.intro; refine ⟨?_, ?_⟩; (focus (go_simp; try rfl)); (clear st; intro b60 w hb st; clear hb)); (try simp only [Value.cells, List.cons_append, List.nil_append, List.set, spl, putIt, pick, List.map_cons, List.map_nil, List.getElem?_cons_zero, List.getElem?_cons_succ, Option.getD_some, List.drop_succ_cons, List.drop_zero, List.drop_nil, List.append_nil, unB] at st); (try clear hc); have hc := st.facts; (try simp only [factsOf, blkI, blkFacts, rowI, byI, datI, nullI, oldI, penI, rdI, rdAnyI, rdOverI, Nat.zero_add, Nat.reduceAdd, and_true, true_and, and_self] at hc))))
            replace st := st.newPen (i := 6) get6
            (try simp only [Value.cells, List.cons_append, List.nil_append, List.set, spl, putIt, pick, List.map_cons, List.map_nil, List.getElem?_cons_zero, List.getElem?_cons_succ, Option.getD_some, List.drop_succ_cons, List.drop_zero, List.drop_nil, List.append_nil, unB] at st)
            (try clear hc); have hc := st.facts; (try simp only [factsOf, blkI, blkFacts, rowI, byI, datI, nullI, oldI, penI, rdI, rdAnyI, rdOverI, Nat.zero_add, Nat.reduceAdd, and_true, true_and, and_self] at hc)
            obtain ⟨fr', al', st', back⟩ := st.sub [6] (by decide) (by simp)
            (try simp only [Value.cells, List.cons_append, List.nil_append, List.set, spl, putIt, pick, List.map_cons, List.map_nil, List.getElem?_cons_zero, List.getElem?_cons_succ, Option.getD_some, List.drop_succ_cons, List.drop_zero, List.drop_nil, List.append_nil, unB] at st')
            refine (rolePut_yes st' (o, d) HR.out (by simp)).mono ?_
            clear st'
            rintro en w ⟨rfl, st'⟩
            replace st := back _ _ (by simp) st'
            clear back st'
            (try simp only [Value.cells, List.cons_append, List.nil_append, List.set, spl, putIt, pick, List.map_cons, List.map_nil, List.getElem?_cons_zero, List.getElem?_cons_succ, Option.getD_some, List.drop_succ_cons, List.drop_zero, List.drop_nil, List.append_nil, unB] at st)
            (try clear hc); have hc := st.facts; (try simp only [factsOf, blkI, blkFacts, rowI, byI, datI, nullI, oldI, penI, rdI, rdAnyI, rdOverI, Nat.zero_add, Nat.reduceAdd, and_true, true_and, and_self] at hc)
            (try rw [List.nil_append] at st)
            obtain ⟨u, hu⟩ : ∃ u, roleB (o, d) = u := ⟨_, rfl⟩
            have hul : u.length ≤ 2000 := by have := numF_len 10 o.length; have := numF_len 10 d.length; rw [← hu]; simp [roleB, numB]; omega
            have HU : Hid (rdRole u = .ok ((o, d), [])) := Lib.hid (by rw [← hu]; exact rdRole_put (o, d) HR.out)
            rw [hu] at st
            clear hu
            go_wp2_with (first
                | ((with_reducible refine wl_alloc ?_ (fun K hK => ?_)); (rfl); ((refine owp_alloc (o := ⟨some 13, _, _, _, _, _⟩) rfl st ?_; apply Exists.intro; apply Exists.intro; refine ⟨?_, ?_⟩; (focus (first | (go_simp; done) | (go_simp; rfl))); (clear st; intro b13 w hb st; clear hb)); (try simp only [Value.cells, List.cons_append, List.nil_append, List.set, spl, putIt, pick, List.map_cons, List.map_nil, List.getElem?_cons_zero, List.getElem?_cons_succ, Option.getD_some, List.drop_succ_cons, List.drop_zero, List.drop_nil, List.append_nil, unB] at st); (try clear hc); have hc := st.facts; (try simp only [factsOf, blkI, blkFacts, rowI, byI, datI, nullI, oldI, penI, rdI, rdAnyI, rdOverI, Nat.zero_add, Nat.reduceAdd, and_true, true_and, and_self] at hc))))
            obtain ⟨fr', al', st', back⟩ := st.sub [6] (by decide) (by simp)
            (try simp only [Value.cells, List.cons_append, List.nil_append, List.set, spl, putIt, pick, List.map_cons, List.map_nil, List.getElem?_cons_zero, List.getElem?_cons_succ, Option.getD_some, List.drop_succ_cons, List.drop_zero, List.drop_nil, List.append_nil, unB] at st')
            refine (penBytes_c st' (by omega)).mono ?_
            clear st'
            rintro en w ⟨pa, pc, rfl, hpc, st'⟩
            replace st := back _ _ (by simp) st'
            clear back st'
            (try simp only [Value.cells, List.cons_append, List.nil_append, List.set, spl, putIt, pick, List.map_cons, List.map_nil, List.getElem?_cons_zero, List.getElem?_cons_succ, Option.getD_some, List.drop_succ_cons, List.drop_zero, List.drop_nil, List.append_nil, unB] at st)
            (try clear hc); have hc := st.facts; (try simp only [factsOf, blkI, blkFacts, rowI, byI, datI, nullI, oldI, penI, rdI, rdAnyI, rdOverI, Nat.zero_add, Nat.reduceAdd, and_true, true_and, and_self] at hc)
            have hul2 : u.length ≤ 100000 := by omega
            go_wp2_with (first
                | ((with_reducible refine wl_alloc ?_ (fun K hK => ?_)); (rfl); ((refine owp_alloc (o := ⟨some 13, _, _, _, _, _⟩) rfl st ?_; apply Exists.intro; apply Exists.intro; refine ⟨?_, ?_⟩; (focus (first | (go_simp; done) | (go_simp; rfl))); (clear st; intro b13 w hb st; clear hb)); (try simp only [Value.cells, List.cons_append, List.nil_append, List.set, spl, putIt, pick, List.map_cons, List.map_nil, List.getElem?_cons_zero, List.getElem?_cons_succ, Option.getD_some, List.drop_succ_cons, List.drop_zero, List.drop_nil, List.append_nil, unB] at st); (try clear hc); have hc := st.facts; (try simp only [factsOf, blkI, blkFacts, rowI, byI, datI, nullI, oldI, penI, rdI, rdAnyI, rdOverI, Nat.zero_add, Nat.reduceAdd, and_true, true_and, and_self] at hc))))
            refine (readGet_c (i := 7) (b := b13) (z := rC ([], [])) st get7 (st.by (i := 8) get8) hpc (by omega) 70 (fun _ _ => by kernel_rfl) (rdRole u) rC (fun fr al w r st => rbackGet_c ([], []) st hul2)).mono ?_
            rintro en w ⟨r1, rfl, st'⟩
            clear st
            have st := st'.keep [1, 2, 3, 4, 5, 6, 8] (by decide) (by simp)
            clear st'
            simp only [pick, List.map_cons, List.map_nil, List.set, List.getElem?_cons_zero, List.getElem?_cons_succ, Option.getD_some] at st
            rw [HU.out] at st ⊢
            simp only [gotE, gotZ, rC, S, if_true] at st ⊢
            (try simp only [Value.cells, List.cons_append, List.nil_append, List.set, spl, putIt, pick, List.map_cons, List.map_nil, List.getElem?_cons_zero, List.getElem?_cons_succ, Option.getD_some, List.drop_succ_cons, List.drop_zero, List.drop_nil, List.append_nil, unB] at st)
            (try clear hc); have hc := st.facts; (try simp only [factsOf, blkI, blkFacts, rowI, byI, datI, nullI, oldI, penI, rdI, rdAnyI, rdOverI, Nat.zero_add, Nat.reduceAdd, and_true, true_and, and_self] at hc)
            go_wp2_with (first
                | ((with_reducible refine wl_store ?_ (fun K hK => ?_)); (rfl); ((refine owp_store rfl st ?_; apply Exists.intro; apply Exists.intro; refine ⟨?_, ?_, ?_⟩; (focus (go_simp; try rfl)); (focus (go_simp; try rfl)); (first | with_reducible refine ⟨0, _, _, _, _, get0, rfl, rfl, ?_, ?_, ?_, ?_⟩ | with_reducible refine ⟨1, _, _, _, _, get1, rfl, rfl, ?_, ?_, ?_, ?_⟩ | with_reducible refine ⟨2, _, _, _, _, get2, rfl, rfl, ?_, ?_, ?_, ?_⟩ | with_reducible refine ⟨3, _, _, _, _, get3, rfl, rfl, ?_, ?_, ?_, ?_⟩ | with_reducible refine ⟨4, _, _, _, _, get4, rfl, rfl, ?_, ?_, ?_, ?_⟩ | with_reducible refine ⟨5, _, _, _, _, get5, rfl, rfl, ?_, ?_, ?_, ?_⟩ | with_reducible refine ⟨6, _, _, _, _, get6, rfl, rfl, ?_, ?_, ?_, ?_⟩ | with_reducible refine ⟨7, _, _, _, _, get7, rfl, rfl, ?_, ?_, ?_, ?_⟩); (kernel_rfl); (simp [Value.cells]); (rfl); (clear st; intro w st)); (try simp only [Value.cells, List.cons_append, List.nil_append, List.set, spl, putIt, pick, List.map_cons, List.map_nil, List.getElem?_cons_zero, List.getElem?_cons_succ, Option.getD_some, List.drop_succ_cons, List.drop_zero, List.drop_nil, List.append_nil, unB] at st); (try clear hc); have hc := st.facts; (try simp only [factsOf, blkI, blkFacts, rowI, byI, datI, nullI, oldI, penI, rdI, rdAnyI, rdOverI, Nat.zero_add, Nat.reduceAdd, and_true, true_and, and_self] at hc)))
                | ((with_reducible refine wl_alloc ?_ (fun K hK => ?_)); (rfl); ((refine owp_alloc (o := ⟨some 15, _, _, _, _, _⟩) rfl st ?_; apply Exists.intro; apply Exists.intro; refine ⟨?_, ?_⟩; (focus (first | (go_simp; done) | (go_simp; rfl))); (clear st; intro b15 w hb st; clear hb)); (try simp only [Value.cells, List.cons_append, List.nil_append, List.set, spl, putIt, pick, List.map_cons, List.map_nil, List.getElem?_cons_zero, List.getElem?_cons_succ, Option.getD_some, List.drop_succ_cons, List.drop_zero, List.drop_nil, List.append_nil, unB] at st); (try clear hc); have hc := st.facts; (try simp only [factsOf, blkI, blkFacts, rowI, byI, datI, nullI, oldI, penI, rdI, rdAnyI, rdOverI, Nat.zero_add, Nat.reduceAdd, and_true, true_and, and_self] at hc))))
            refine (roleText_any (o, d) _ (by simp only; omega)).mono ?_
            rintro en w ⟨rfl, hx⟩
            replace st := st.ext hx
            clear hx
            (try clear hc); have hc := st.facts; (try simp only [factsOf, blkI, blkFacts, rowI, byI, datI, nullI, oldI, penI, rdI, rdAnyI, rdOverI, Nat.zero_add, Nat.reduceAdd, and_true, true_and, and_self] at hc)
            have hrt := roleP_text (o, d) HR.out
            have htl : (roleT (o, d)).length ≤ 2000 := by simp [roleT]; omega
            generalize roleT (o, d) = v at *
            have HV : Hid (roleP v = some (o, d) ∧ roleP1 v = (o, d)) := Lib.hid ⟨hrt, by unfold roleP1; rw [hrt]; rfl⟩
            clear hrt
            go_wp2_with (first
                | ((with_reducible refine wl_store ?_ (fun K hK => ?_)); (rfl); ((refine owp_store rfl st ?_; apply Exists.intro; apply Exists.intro; refine ⟨?_, ?_, ?_⟩; (focus (go_simp; try rfl)); (focus (go_simp; try rfl)); (first | with_reducible refine ⟨0, _, _, _, _, get0, rfl, rfl, ?_, ?_, ?_, ?_⟩ | with_reducible refine ⟨1, _, _, _, _, get1, rfl, rfl, ?_, ?_, ?_, ?_⟩ | with_reducible refine ⟨2, _, _, _, _, get2, rfl, rfl, ?_, ?_, ?_, ?_⟩ | with_reducible refine ⟨3, _, _, _, _, get3, rfl, rfl, ?_, ?_, ?_, ?_⟩ | with_reducible refine ⟨4, _, _, _, _, get4, rfl, rfl, ?_, ?_, ?_, ?_⟩ | with_reducible refine ⟨5, _, _, _, _, get5, rfl, rfl, ?_, ?_, ?_, ?_⟩ | with_reducible refine ⟨6, _, _, _, _, get6, rfl, rfl, ?_, ?_, ?_, ?_⟩ | with_reducible refine ⟨7, _, _, _, _, get7, rfl, rfl, ?_, ?_, ?_, ?_⟩); (kernel_rfl); (simp [Value.cells]); (rfl); (clear st; intro w st)); (try simp only [Value.cells, List.cons_append, List.nil_append, List.set, spl, putIt, pick, List.map_cons, List.map_nil, List.getElem?_cons_zero, List.getElem?_cons_succ, Option.getD_some, List.drop_succ_cons, List.drop_zero, List.drop_nil, List.append_nil, unB] at st); (try clear hc); have hc := st.facts; (try simp only [factsOf, blkI, blkFacts, rowI, byI, datI, nullI, oldI, penI, rdI, rdAnyI, rdOverI, Nat.zero_add, Nat.reduceAdd, and_true, true_and, and_self] at hc)))
                | ((with_reducible refine wl_alloc ?_ (fun K hK => ?_)); (rfl); ((refine owp_alloc (o := ⟨some 15, _, _, _, _, _⟩) rfl st ?_; apply Exists.intro; apply Exists.intro; refine ⟨?_, ?_⟩; (focus (first | (go_simp; done) | (go_simp; rfl))); (clear st; intro b15 w hb st; clear hb)); (try simp only [Value.cells, List.cons_append, List.nil_append, List.set, spl, putIt, pick, List.map_cons, List.map_nil, List.getElem?_cons_zero, List.getElem?_cons_succ, Option.getD_some, List.drop_succ_cons, List.drop_zero, List.drop_nil, List.append_nil, unB] at st); (try clear hc); have hc := st.facts; (try simp only [factsOf, blkI, blkFacts, rowI, byI, datI, nullI, oldI, penI, rdI, rdAnyI, rdOverI, Nat.zero_add, Nat.reduceAdd, and_true, true_and, and_self] at hc))))
            refine (roleParse_any v _ (by omega)).mono ?_
            rintro en w ⟨rfl, hx⟩
            replace st := st.ext hx
            clear hx
            (try clear hc); have hc := st.facts; (try simp only [factsOf, blkI, blkFacts, rowI, byI, datI, nullI, oldI, penI, rdI, rdAnyI, rdOverI, Nat.zero_add, Nat.reduceAdd, and_true, true_and, and_self] at hc)
            rw [HV.out.1, HV.out.2]
            unfold rV S
            simp only [Option.isSome_some]
            go_wp2_with (first
                | ((with_reducible refine wl_store ?_ (fun K hK => ?_)); (rfl); ((refine owp_store rfl st ?_; apply Exists.intro; apply Exists.intro; refine ⟨?_, ?_, ?_⟩; (focus (go_simp; try rfl)); (focus (go_simp; try rfl)); (first | with_reducible refine ⟨0, _, _, _, _, get0, rfl, rfl, ?_, ?_, ?_, ?_⟩ | with_reducible refine ⟨1, _, _, _, _, get1, rfl, rfl, ?_, ?_, ?_, ?_⟩ | with_reducible refine ⟨2, _, _, _, _, get2, rfl, rfl, ?_, ?_, ?_, ?_⟩ | with_reducible refine ⟨3, _, _, _, _, get3, rfl, rfl, ?_, ?_, ?_, ?_⟩ | with_reducible refine ⟨4, _, _, _, _, get4, rfl, rfl, ?_, ?_, ?_, ?_⟩ | with_reducible refine ⟨5, _, _, _, _, get5, rfl, rfl, ?_, ?_, ?_, ?_⟩ | with_reducible refine ⟨6, _, _, _, _, get6, rfl, rfl, ?_, ?_, ?_, ?_⟩ | with_reducible refine ⟨7, _, _, _, _, get7, rfl, rfl, ?_, ?_, ?_, ?_⟩); (kernel_rfl); (simp [Value.cells]); (rfl); (clear st; intro w st)); (try simp only [Value.cells, List.cons_append, List.nil_append, List.set, spl, putIt, pick, List.map_cons, List.map_nil, List.getElem?_cons_zero, List.getElem?_cons_succ, Option.getD_some, List.drop_succ_cons, List.drop_zero, List.drop_nil, List.append_nil, unB] at st); (try clear hc); have hc := st.facts; (try simp only [factsOf, blkI, blkFacts, rowI, byI, datI, nullI, oldI, penI, rdI, rdAnyI, rdOverI, Nat.zero_add, Nat.reduceAdd, and_true, true_and, and_self] at hc)))
                | ((with_reducible refine wl_alloc ?_ (fun K hK => ?_)); (rfl); ((refine owp_alloc (o := ⟨some 15, _, _, _, _, _⟩) rfl st ?_; apply Exists.intro; apply Exists.intro; refine ⟨?_, ?_⟩; (focus (first | (go_simp; done) | (go_simp; rfl))); (clear st; intro b15 w hb st; clear hb)); (try simp only [Value.cells, List.cons_append, List.nil_append, List.set, spl, putIt, pick, List.map_cons, List.map_nil, List.getElem?_cons_zero, List.getElem?_cons_succ, Option.getD_some, List.drop_succ_cons, List.drop_zero, List.drop_nil, List.append_nil, unB] at st); (try clear hc); have hc := st.facts; (try simp only [factsOf, blkI, blkFacts, rowI, byI, datI, nullI, oldI, penI, rdI, rdAnyI, rdOverI, Nat.zero_add, Nat.reduceAdd, and_true, true_and, and_self] at hc))))
            have st' := st.keep [0, 1, 2, 3, 4] (by decide) (by simp)
            go_roundg (3 - (j + 1))
            case measure => omega
            case rel => exact ⟨j + 1, by omega, by omega, by go_num, by simpa [pick] using st'⟩
    · obtain rfl : j = 3 := by omega
      have htr := HTR.out
      obtain ⟨c1, hc1⟩ : ∃ c1, roleCmp (ao, ad) (bo, bd) = c1 := ⟨_, rfl⟩
      obtain ⟨c2, hc2⟩ : ∃ c2, roleCmp (bo, bd) (co, cd) = c2 := ⟨_, rfl⟩
      obtain ⟨c3, hc3⟩ : ∃ c3, roleCmp (ao, ad) (co, cd) = c3 := ⟨_, rfl⟩
      rw [hc1, hc2, hc3] at htr
      have HC1 := Lib.hid hc1
      have HC2 := Lib.hid hc2
      have HC3 := Lib.hid hc3
      clear hc1 hc2 hc3 HTR
      go_wp2_with fail
      by_cases k1 : c1 ≤ 0
      · have hb1 : decide (c1 ≤ 0) = true := by simpa using k1
        by_cases k2 : c2 ≤ 0
        · have k3 := htr k1 k2
          have hb2 : decide (c2 ≤ 0) = true := by simpa using k2
          have hb3 : decide (c3 ≤ 0) = true := by simpa using k3
          clear htr
          refine (roleCompare_any (ao, ad) (bo, bd) _).mono ?_
          rintro en w ⟨rfl, hx⟩
          replace st := st.ext hx
          clear hx
          (try clear hc); have hc := st.facts; (try simp only [factsOf, blkI, blkFacts, rowI, byI, datI, nullI, oldI, penI, rdI, rdAnyI, rdOverI, Nat.zero_add, Nat.reduceAdd, and_true, true_and, and_self] at hc)
          rw [HC1.out]
          go_wp2_with fail
          refine (roleCompare_any (bo, bd) (co, cd) _).mono ?_
          rintro en w ⟨rfl, hx⟩
          replace st := st.ext hx
          clear hx
          (try clear hc); have hc := st.facts; (try simp only [factsOf, blkI, blkFacts, rowI, byI, datI, nullI, oldI, penI, rdI, rdAnyI, rdOverI, Nat.zero_add, Nat.reduceAdd, and_true, true_and, and_self] at hc)
          rw [HC2.out]
          go_wp2_with fail
          refine (roleCompare_any (ao, ad) (co, cd) _).mono ?_
          rintro en w ⟨rfl, hx⟩
          replace st := st.ext hx
          clear hx
          (try clear hc); have hc := st.facts; (try simp only [factsOf, blkI, blkFacts, rowI, byI, datI, nullI, oldI, penI, rdI, rdAnyI, rdOverI, Nat.zero_add, Nat.reduceAdd, and_true, true_and, and_self] at hc)
          rw [HC3.out]
          go_wp2_with fail
          go_ret
          exact ⟨rfl, st.ext0⟩
        · have hb2 : decide (c2 ≤ 0) = false := by simpa using k2
          clear htr
          refine (roleCompare_any (ao, ad) (bo, bd) _).mono ?_
          rintro en w ⟨rfl, hx⟩
          replace st := st.ext hx
          clear hx
          (try clear hc); have hc := st.facts; (try simp only [factsOf, blkI, blkFacts, rowI, byI, datI, nullI, oldI, penI, rdI, rdAnyI, rdOverI, Nat.zero_add, Nat.reduceAdd, and_true, true_and, and_self] at hc)
          rw [HC1.out]
          go_wp2_with fail
          refine (roleCompare_any (bo, bd) (co, cd) _).mono ?_
          rintro en w ⟨rfl, hx⟩
          replace st := st.ext hx
          clear hx
          (try clear hc); have hc := st.facts; (try simp only [factsOf, blkI, blkFacts, rowI, byI, datI, nullI, oldI, penI, rdI, rdAnyI, rdOverI, Nat.zero_add, Nat.reduceAdd, and_true, true_and, and_self] at hc)
          rw [HC2.out]
          go_wp2_with fail
          go_ret
          exact ⟨rfl, st.ext0⟩
      · have hb1 : decide (c1 ≤ 0) = false := by simpa using k1
        clear htr
        refine (roleCompare_any (ao, ad) (bo, bd) _).mono ?_
        rintro en w ⟨rfl, hx⟩
        replace st := st.ext hx
        clear hx
        (try clear hc); have hc := st.facts; (try simp only [factsOf, blkI, blkFacts, rowI, byI, datI, nullI, oldI, penI, rdI, rdAnyI, rdOverI, Nat.zero_add, Nat.reduceAdd, and_true, true_and, and_self] at hc)
        rw [HC1.out]
        go_wp2_with fail
        go_ret
        exact ⟨rfl, st.ext0⟩
end Go.Proofs.Ytpenjnccdachaaa
