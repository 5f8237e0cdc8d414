/- Numbers and texts: what is written is read again, and is written so. No program in sight. -/
import Derived.Test.YtpenjnccdachaaaReaderC
namespace Go.Proofs.Ytpenjnccdachaaa
set_option linter.unusedSimpArgs false
set_option linter.unusedVariables false
open Go Go.RowKit
theorem B_toNat (c : UInt8) : UInt8.ofNat c.toNat = c := by simp
theorem rdNumF_canon (f : Nat) : ∀ (i acc : Nat) (xs : List UInt8) (n : Nat) (ys : List UInt8), f + i = 10 → rdNumF f i acc xs = .ok (n, ys) → ∃ m, n = acc + m * 128 ^ i ∧ xs = numF f m ++ ys ∧ (0 < i → 0 < m) := by
  induction f with
  | zero => intro i acc xs n ys _ h; simp [rdNumF] at h
  | succ f ih =>
    intro i acc xs n ys hf h
    unfold rdNumF rdNext at h
    by_cases h9 : i = 9
    · simp [h9] at h
    · rw [if_neg h9] at h
      cases xs with
      | nil => simp at h
      | cons c zs =>
        simp only at h
        by_cases h0 : c = 0 ∧ 0 < i
        · rw [if_pos h0] at h; simp at h
        · rw [if_neg h0] at h
          simp only at h
          by_cases hc : c.toNat < 128
          · rw [if_pos hc] at h
            simp at h
            obtain ⟨h1, rfl⟩ := h
            refine ⟨c.toNat, by rw [← h1, Nat.mod_eq_of_lt hc], by rw [numF_last _ _ (by omega)]; simp, fun hi => ?_⟩
            rcases Nat.eq_zero_or_pos c.toNat with q | q
            · exact absurd ⟨by apply UInt8.toNat_inj.1; simpa using q, hi⟩ h0
            · exact q
          · rw [if_neg hc] at h
            obtain ⟨m, h1, h2, h3⟩ := ih (i + 1) _ zs n ys (by omega) h
            have hm := h3 (by omega)
            have hlt := c.toNat_lt
            refine ⟨c.toNat % 128 + 128 * m, ?_, ?_, fun _ => by omega⟩
            · rw [h1, Nat.pow_succ, Nat.add_mul]
              rw [show 128 * m * 128 ^ i = m * (128 ^ i * 128) by rw [Nat.mul_comm 128 m, Nat.mul_assoc, Nat.mul_comm 128]]
              omega
            · rw [numF_more _ _ (by omega), h2, List.cons_append]
              have e1 : (128 + (c.toNat % 128 + 128 * m) % 128) = c.toNat := by omega
              have e2 : (c.toNat % 128 + 128 * m) / 128 = m := by omega
              rw [e1, e2, B_toNat]
theorem rdNum_canon {xs : List UInt8} {n : Nat} {ys : List UInt8} (h : rdNum xs = .ok (n, ys)) : xs = numB n ++ ys := by
  obtain ⟨m, h1, h2, _⟩ := rdNumF_canon 10 0 0 xs n ys rfl h
  simp at h1
  subst h1
  exact h2
theorem rdNumF_back (f : Nat) : ∀ (i acc m : Nat) (ys : List UInt8), f + i = 10 → m * 128 ^ i < 9223372036854775808 → (0 < i → 0 < m) → rdNumF f i acc (numF f m ++ ys) = .ok (acc + m * 128 ^ i, ys) := by
  induction f with
  | zero =>
    intro i acc m ys hf hm hi
    exfalso
    obtain rfl : i = 10 := by omega
    have := hi (by omega)
    have : (128 : Nat) ^ 10 ≤ m * 128 ^ 10 := Nat.le_mul_of_pos_left _ this
    have h3 : (128 : Nat) ^ 10 = 1180591620717411303424 := by decide
    omega
  | succ f ih =>
    intro i acc m ys hf hm hi
    have h9 : i ≠ 9 := by
      rintro rfl
      have := hi (by omega)
      have h1 : (128 : Nat) ^ 9 ≤ m * 128 ^ 9 := Nat.le_mul_of_pos_left _ this
      have h3 : (128 : Nat) ^ 9 = 9223372036854775808 := by decide
      omega
    by_cases hlt : 128 ≤ m
    · rw [numF_more _ _ hlt, List.cons_append]
      unfold rdNumF rdNext
      rw [if_neg h9]
      have hc : (UInt8.ofNat (128 + m % 128)).toNat = 128 + m % 128 := by simp; omega
      have hne : UInt8.ofNat (128 + m % 128) ≠ 0 := fun q => by have := congrArg UInt8.toNat q; rw [hc] at this; simp at this
      simp only [hne, false_and, if_false, hc]
      rw [if_neg (by omega), ih (i + 1) _ (m / 128) ys (by omega) ?_ (fun _ => by omega)]
      · congr 2
        have e1 : (128 + m % 128) % 128 = m % 128 := by omega
        rw [e1, Nat.pow_succ, Nat.add_assoc, ← Nat.mul_assoc, Nat.mul_right_comm, ← Nat.add_mul]
        congr 2
        omega
      · rw [Nat.pow_succ, Nat.mul_comm (128 ^ i), ← Nat.mul_assoc]
        exact Nat.lt_of_le_of_lt (Nat.mul_le_mul_right _ (Nat.div_mul_le_self m 128)) hm
    · rw [numF_last _ _ hlt, List.cons_append]
      unfold rdNumF rdNext
      rw [if_neg h9]
      have hc : (UInt8.ofNat m).toNat = m := by simp; omega
      have hne : ¬ (UInt8.ofNat m = 0 ∧ 0 < i) := fun ⟨q, q2⟩ => by have := congrArg UInt8.toNat q; rw [hc] at this; simp at this; have := hi q2; omega
      simp only [hne, if_false, hc]
      rw [if_pos (by omega), Nat.mod_eq_of_lt (by omega)]
      rfl
theorem rdNum_back (n : Nat) (ys : List UInt8) (hn : n < 9223372036854775808) : rdNum (numB n ++ ys) = .ok (n, ys) := by
  have := rdNumF_back 10 0 0 n ys rfl (by simpa using hn) (fun h => by omega)
  simpa [rdNum, numB] using this
theorem rdText_put (most : Nat) (b ys : List UInt8) (hb : b.length ≤ most) (hm : most < 9223372036854775808) : rdText (most : Int) (numB b.length ++ b ++ ys) = .ok (b, ys) := by
  unfold rdText
  rw [List.append_assoc, rdNum_back _ _ (by omega)]
  simp only
  rw [if_neg (by omega), if_neg (by simp)]
  simp
theorem rdNumber_put (most n : Nat) (ys : List UInt8) (hn : n ≤ most) (hm : most < 9223372036854775808) : rdNumber (most : Int) (numB n ++ ys) = .ok (n, ys) := by
  unfold rdNumber
  rw [rdNum_back _ _ (by omega)]
  simp only
  rw [if_neg (by omega)]
end Go.Proofs.Ytpenjnccdachaaa
