/- A sorted list without its doubles is a set. -/
import Derived.Test.YtpenjnccdachaaaSets
import Derived.Lib.SlicesCompact
namespace Go.Proofs.Ytpenjnccdachaaa
set_option linter.unusedSimpArgs false
set_option linter.unusedVariables false
open Go
section
variable {α : Type} [Inhabited α] [DecidableEq α] {lt : α → α → Bool} {P : α → Bool}
theorem compact_inv (tr : ∀ x y z, lt x y = true → lt y z = true → lt x z = true) (irr : ∀ x, lt x x = false) (xs : List α) (tri : ∀ x ∈ xs, ∀ y ∈ xs, lt x y = true ∨ x = y ∨ lt y x = true)
    (hs : xs.Pairwise (fun x y => lt y x = false)) : ∀ m, m ≤ xs.length → (Lib.compactUpTo xs.toArray m).Pairwise (fun x y => lt x y = true) ∧ (∀ x, x ∈ Lib.compactUpTo xs.toArray m ↔ x ∈ xs.take m) ∧ (0 < m → (Lib.compactUpTo xs.toArray m).getLast? = xs[m - 1]?) := by
  intro m
  induction m with
  | zero => intro _; exact ⟨by simp [Lib.compactUpTo], by simp [Lib.compactUpTo], by omega⟩
  | succ m ih =>
    intro hm
    obtain ⟨h1, h2, h3⟩ := ih (by omega)
    have hx : xs.toArray[m]! = xs[m] := by simp [show m < xs.length by omega]
    have ht : xs.take (m + 1) = xs.take m ++ [xs[m]] := (List.take_append_getElem (by omega)).symm
    rw [Lib.compactUpTo_succ, ht]
    by_cases hk : Lib.keeps xs.toArray m = true
    · rw [if_pos hk, hx]
      refine ⟨?_, fun x => ?_, fun _ => ?_⟩
      · rw [List.pairwise_append]
        refine ⟨h1, List.pairwise_singleton _ _, fun a ha b hb => ?_⟩
        rw [List.mem_singleton.1 hb]
        have hm0 : 0 < m := by
          rcases Nat.eq_zero_or_pos m with q | q
          · subst q; simp [Lib.compactUpTo] at ha
          · exact q
        have hl := h3 hm0
        rw [List.getElem?_eq_getElem (by omega)] at hl
        have hne : xs[m] ≠ xs[m - 1] := by
          simp only [Lib.keeps, decide_eq_true_eq] at hk
          rcases hk with q | q
          · omega
          · have e1 : xs.toArray[m - 1]! = xs[m - 1] := by simp [show m - 1 < xs.length by omega]
            rw [hx, e1] at q; exact q
        have hlt : lt xs[m - 1] xs[m] = true := by
          have hns := List.pairwise_iff_getElem.1 hs (m - 1) m (by omega) (by omega) (by omega)
          rcases tri xs[m - 1] (List.getElem_mem _) xs[m] (List.getElem_mem _) with q | q | q
          · exact q
          · exact absurd q.symm hne
          · rw [q] at hns; cases hns
        obtain ⟨pre, hpre⟩ := List.getLast?_eq_some_iff.1 hl
        rw [hpre] at ha h1
        rcases List.mem_append.1 ha with q | q
        · exact tr _ _ _ ((List.pairwise_append.1 h1).2.2 a q _ (by simp)) hlt
        · rw [List.mem_singleton.1 q]; exact hlt
      · rw [List.mem_append, List.mem_append, h2]
      · simp [show m < xs.length by omega]
    · have hk' : Lib.keeps xs.toArray m = false := by simpa using hk
      rw [if_neg hk, List.append_nil]
      simp only [Lib.keeps, decide_eq_false_iff_not, not_or, Decidable.not_not] at hk'
      obtain ⟨hm0, he⟩ := hk'
      have e1 : xs.toArray[m - 1]! = xs[m - 1] := by simp [show m - 1 < xs.length by omega]
      rw [hx, e1] at he
      refine ⟨h1, fun x => ?_, fun _ => ?_⟩
      · rw [h2, List.mem_append]
        refine ⟨.inl, fun q => ?_⟩
        rcases q with q | q
        · exact q
        · rw [List.mem_singleton.1 q, he]
          rw [List.mem_take_iff_getElem]
          exact ⟨m - 1, by omega, rfl⟩
      · rw [h3 (by omega), Nat.add_sub_cancel, List.getElem?_eq_getElem (by omega), List.getElem?_eq_getElem (by omega), he]
theorem compact_set (o : SOrd lt P) (xs l : List α) (hP : ∀ x, x ∈ xs ↔ x ∈ l ∧ P x = true) (hs : xs.Pairwise (fun x y => lt y x = false)) : SSet lt P l (Lib.compact xs) := by
  obtain ⟨h1, h2, _⟩ := compact_inv o.tr o.irr xs (fun x hx y hy => o.tri x y ((hP x).1 hx).2 ((hP y).1 hy).2) hs xs.length (Nat.le_refl _)
  refine ⟨h1, fun x => ?_⟩
  rw [show Lib.compact xs = Lib.compactUpTo xs.toArray xs.length from rfl, h2, List.take_length, hP]
end
end Go.Proofs.Ytpenjnccdachaaa
