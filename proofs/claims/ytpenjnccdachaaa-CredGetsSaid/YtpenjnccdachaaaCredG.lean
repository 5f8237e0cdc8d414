/- The bytes of right credentials: read back; one to one. -/
import Derived.Test.YtpenjnccdachaaaCredD
import Derived.Test.YtpenjnccdachaaaRoleP
namespace Go.Proofs.Ytpenjnccdachaaa
set_option linter.unusedSimpArgs false
set_option linter.unusedVariables false
open Go Go.RowKit
theorem rdRole_puts (x : Role) (ys : List UInt8) (h : roleR x = true) : rdRole (roleB x ++ ys) = .ok (x, ys) := by
  obtain ⟨o, d⟩ := x
  have hr : nameR o = true ∧ nameR d = true := by simpa [roleR] using h
  unfold rdRole roleB
  simp only
  rw [show numB o.length ++ o ++ (numB d.length ++ d) ++ ys = numB o.length ++ o ++ (numB d.length ++ d ++ ys) by simp, rdName_put o _ hr.1]
  simp only
  rw [rdName_put d ys hr.2]
/-- A name behind which ys lies is read. -/
theorem roleB_inj {x y : Role} {p q : List UInt8} (hx : roleR x = true) (hy : roleR y = true) (h : roleB x ++ p = roleB y ++ q) : x = y ∧ p = q := by
  have h1 := rdRole_puts x p hx
  rw [h, rdRole_puts y q hy] at h1
  injection h1 with h1
  injection h1 with h2 h3
  exact ⟨h2.symm, h3.symm⟩
theorem textB_inj {s t p q : List UInt8} (hs : nameR s = true) (ht : nameR t = true) (h : numB s.length ++ s ++ p = numB t.length ++ t ++ q) : s = t ∧ p = q := by
  have h1 := rdName_put s p hs
  rw [h, rdName_put t q ht] at h1
  injection h1 with h1
  injection h1 with h2 h3
  exact ⟨h2.symm, h3.symm⟩
theorem numB_k (k : Int) (h : k = 1 ∨ k = 2 ∨ k = 3 ∨ k = 4) : numB k.toNat = [k.toNat.toUInt8] := by
  rcases h with rfl | rfl | rfl | rfl <;> decide +kernel
theorem k_inj (k k' : Int) (h : k = 1 ∨ k = 2 ∨ k = 3 ∨ k = 4) (h' : k' = 1 ∨ k' = 2 ∨ k' = 3 ∨ k' = 4) (e : k.toNat.toUInt8 = k'.toNat.toUInt8) : k = k' := by
  rcases h with rfl | rfl | rfl | rfl <;> rcases h' with rfl | rfl | rfl | rfl <;> first | rfl | (exact absurd e (by decide))
theorem credB_inj {x y : CredT} (hx : credR x = true) (hy : credR y = true) (h : credB x = credB y) : x = y := by
  obtain ⟨h1, hc⟩ := credR_cases hx
  obtain ⟨h2, hd⟩ := credR_cases hy
  obtain ⟨k, hh, w, b, c, e⟩ := x
  obtain ⟨k', hh', w', b', c', e'⟩ := y
  simp only at h1 h2 hc hd
  have hk : k = 1 ∨ k = 2 ∨ k = 3 ∨ k = 4 := by rcases hc with q | ⟨_, _, q | q | q⟩ <;> simp [q.1]
  have hk' : k' = 1 ∨ k' = 2 ∨ k' = 3 ∨ k' = 4 := by rcases hd with q | ⟨_, _, q | q | q⟩ <;> simp [q.1]
  unfold credB at h
  simp only at h
  rw [numB_k k hk, numB_k k' hk'] at h
  simp only [List.append_assoc, List.cons_append, List.nil_append, List.cons.injEq] at h
  obtain ⟨he, h⟩ := h
  have ek := k_inj k k' hk hk' he
  subst ek
  have tA := roleB_inj h1 h2 h
  clear h
  obtain ⟨e1, h⟩ := tA
  subst e1
  rcases hc with ⟨rfl, q1, q2, q3, q4⟩ | ⟨q1, q2, q3⟩
  · rcases hd with ⟨_, p1, p2, p3, p4⟩ | ⟨_, _, p | p | p⟩
    · simp only [if_true] at h
      have hw := textB_inj (p := []) (q := []) q1 p1 (by simpa using h)
      rw [hw.1, q2, q3, q4, p2, p3, p4]
    · exact absurd p.1 (by decide)
    · exact absurd p.1 (by decide)
    · exact absurd p.1 (by decide)
  · have hk1 : k ≠ 1 := by rcases q3 with q | q | q <;> rw [q.1] <;> decide
    rcases hd with ⟨rfl, _⟩ | ⟨p1, p2, p3⟩
    · exact absurd rfl hk1
    · rw [if_neg hk1, if_neg hk1] at h
      have tB := roleB_inj q2 p2 h
      clear h
      obtain ⟨e2, h⟩ := tB
      subst e2
      rw [q1, p1]
      rcases q3 with ⟨rfl, q4, q5⟩ | ⟨rfl, q4, _, q5⟩ | ⟨rfl, q4, q5, _⟩
      · rcases p3 with ⟨_, p4, p5⟩ | ⟨p, _⟩ | ⟨p, _⟩
        · rw [q4, q5, p4, p5]
        · exact absurd p (by decide)
        · exact absurd p (by decide)
      · rcases p3 with ⟨p, _⟩ | ⟨_, p4, _, p5⟩ | ⟨p, _⟩
        · exact absurd p (by decide)
        · simp only [if_true] at h
          have hw := textB_inj (p := []) (q := []) q5 p5 (by simpa using h)
          rw [hw.1, q4, p4]
        · exact absurd p (by decide)
      · rcases p3 with ⟨p, _⟩ | ⟨p, _⟩ | ⟨_, p4, p5, _⟩
        · exact absurd p (by decide)
        · exact absurd p (by decide)
        · simp only [if_true, show ((4 : Int) = 3) = False from by simp, if_false] at h
          have hw := roleB_inj (p := []) (q := []) q5 p5 (by simpa using h)
          rw [hw.1, q4, p4]
end Go.Proofs.Ytpenjnccdachaaa
