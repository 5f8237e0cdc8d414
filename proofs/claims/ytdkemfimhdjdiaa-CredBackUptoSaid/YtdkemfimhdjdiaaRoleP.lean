/- Names and roles, put and read back; their texts: plain. -/
import Derived.Test.YtdkemfimhdjdiaaSlRoleA
namespace Go.Proofs.Ytdkemfimhdjdiaa
set_option linter.unusedSimpArgs false
set_option linter.unusedVariables false
open Go Go.RowKit
theorem rdName_put (s ys : List UInt8) (h : nameR s = true) : rdName (numB s.length ++ s ++ ys) = .ok (s, ys) := by
  unfold rdName
  rw [show (16 : Int) = ((16 : Nat) : Int) from rfl, rdText_put 16 s ys (nameR_len h).2 (by decide)]
  simp [h]
theorem rdRole_put (x : Role) (h : roleR x = true) : rdRole (roleB x) = .ok (x, []) := by
  obtain ⟨o, d⟩ := x
  have hr : nameR o = true ∧ nameR d = true := by simpa [roleR] using h
  unfold rdRole roleB
  simp only
  rw [show numB o.length ++ o ++ (numB d.length ++ d) = numB o.length ++ o ++ (numB d.length ++ d ++ []) by simp, rdName_put o _ hr.1]
  simp only
  rw [rdName_put d [] hr.2]
theorem nameR_dot {s : List UInt8} (h : nameR s = true) : ∀ x ∈ s, x ≠ 46 := by
  have key : ∀ c : UInt8, sgn c = true → c ≠ 46 := fun c hc e => by subst e; revert hc; decide
  cases s with
  | nil => intro x hx; simp at hx
  | cons c s =>
    have hl : (decide (s.length + 1 ≤ 16) && ltr c && (c :: s).all sgn) = true := h
    simp only [Bool.and_eq_true, List.all_eq_true] at hl
    intro x hx
    exact key x (hl.2 x hx)
theorem roleP_text (x : Role) (h : roleR x = true) : roleP (roleT x) = some x := by
  obtain ⟨o, d⟩ := x
  have hr : nameR o = true ∧ nameR d = true := by simpa [roleR] using h
  have h1 : (roleT (o, d))[o.length]? = some 46 := by simp [roleT]
  have h2 : (roleT (o, d)).take o.length = o := by simp [roleT]
  have h3 : (roleT (o, d)).drop (o.length + 1) = d := by simp [roleT]
  rw [roleP_at h1 (by rw [h2]; exact nameR_dot hr.1), h2, h3, if_pos h]
end Go.Proofs.Ytdkemfimhdjdiaa
