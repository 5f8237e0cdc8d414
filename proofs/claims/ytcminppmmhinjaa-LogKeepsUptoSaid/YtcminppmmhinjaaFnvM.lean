/- The sum: one unlike byte gives another sum. -/
import Derived.Test.YtcminppmmhinjaaTagC
import Derived.Laws.BitsAllLaws
namespace Go.Proofs.Ytcminppmmhinjaa
set_option linter.unusedSimpArgs false
set_option linter.unusedVariables false
open Go Go.RowKit
theorem wrap_u64 (n : Int) : IntKind.u64.wrap n = n % 18446744073709551616 := by
  unfold IntKind.wrap; simp [IntKind.signed, IntKind.bits]
theorem mul_inj (x y : Int) (hx : 0 ≤ x ∧ x < 18446744073709551616) (hy : 0 ≤ y ∧ y < 18446744073709551616) (h : (x * 1099511628211) % 18446744073709551616 = (y * 1099511628211) % 18446744073709551616) : x = y := by
  have e : ∀ z : Int, (((z * 1099511628211) % 18446744073709551616) * 14886173955864302971) % 18446744073709551616 = z % 18446744073709551616 := fun z => by
    rw [Int.mul_emod, Int.emod_emod_of_dvd _ (Int.dvd_refl _), ← Int.mul_emod, Int.mul_assoc, Int.mul_emod]
    rw [show (1099511628211 * 14886173955864302971 : Int) % 18446744073709551616 = 1 by decide +kernel]
    simp
  have h1 := e x
  have h2 := e y
  rw [h] at h1
  rw [h1] at h2
  rwa [Int.emod_eq_of_lt hx.1 hx.2, Int.emod_eq_of_lt hy.1 hy.2] at h2
theorem xor_lt (a b : Nat) (ha : a < 18446744073709551616) (hb : b < 18446744073709551616) : a ^^^ b < 18446744073709551616 := Nat.xor_lt_two_pow (n := 64) ha hb
theorem fnvStep_nat (h : Nat) (c : UInt8) (hh : h < 18446744073709551616) : fnvStep (h : Int) c = (((h ^^^ c.toNat : Nat) : Int) * 1099511628211) % 18446744073709551616 := by
  unfold fnvStep
  rw [wrap_u64, wrap_u64]
  have hc : c.toNat < 256 := c.toNat_lt
  have e1 : ((c.toNat : Int) % 18446744073709551616) = (c.toNat : Int) := Int.emod_eq_of_lt (by omega) (by omega)
  rw [e1, u64_xor_nat _ _ hh (by omega)]
theorem xor_cancel (a b c : Nat) (h : a ^^^ c = b ^^^ c) : a = b := by
  have := congrArg (· ^^^ c) h
  simpa [Nat.xor_assoc] using this
theorem mul_inj_nat (u v : Nat) (hu : u < 18446744073709551616) (hv : v < 18446744073709551616) (h : ((u : Int) * 1099511628211) % 18446744073709551616 = ((v : Int) * 1099511628211) % 18446744073709551616) : u = v := by
  have a1 : (0 : Int) ≤ u ∧ (u : Int) < 18446744073709551616 := by clear h; omega
  have a2 : (0 : Int) ≤ v ∧ (v : Int) < 18446744073709551616 := by clear h; omega
  have := mul_inj (u : Int) (v : Int) a1 a2 h
  clear h
  omega
theorem fnvStep_nat_inj (n1 n2 : Nat) (c1 c2 : UInt8) (l1 : n1 < 18446744073709551616) (l2 : n2 < 18446744073709551616) (h : fnvStep (n1 : Int) c1 = fnvStep (n2 : Int) c2) : n1 ^^^ c1.toNat = n2 ^^^ c2.toNat := by
  rw [fnvStep_nat _ _ l1, fnvStep_nat _ _ l2] at h
  have hc1 : c1.toNat < 18446744073709551616 := by have h9 : c1.toNat < 256 := c1.toNat_lt; omega
  have hc2 : c2.toNat < 18446744073709551616 := by have h9 : c2.toNat < 256 := c2.toNat_lt; omega
  exact mul_inj_nat _ _ (xor_lt _ _ l1 hc1) (xor_lt _ _ l2 hc2) h
theorem fnvStep_inj (h1 h2 : Int) (c1 c2 : UInt8) (b1 : 0 ≤ h1 ∧ h1 < 18446744073709551616) (b2 : 0 ≤ h2 ∧ h2 < 18446744073709551616) (h : fnvStep h1 c1 = fnvStep h2 c2) : h1.toNat ^^^ c1.toNat = h2.toNat ^^^ c2.toNat := by
  refine fnvStep_nat_inj _ _ _ _ (by omega) (by omega) ?_
  rw [Int.toNat_of_nonneg b1.1, Int.toNat_of_nonneg b2.1]
  exact h
theorem fnvStep_bd (h : Int) (c : UInt8) : 0 ≤ fnvStep h c ∧ fnvStep h c < 18446744073709551616 := by
  unfold fnvStep; rw [wrap_u64]
  exact ⟨Int.emod_nonneg _ (by decide), Int.emod_lt_of_pos _ (by decide)⟩
theorem fnv_bd (h : Int) (l : List UInt8) (b : 0 ≤ h ∧ h < 18446744073709551616) : 0 ≤ fnv h l ∧ fnv h l < 18446744073709551616 := by
  unfold fnv
  induction l generalizing h with
  | nil => exact b
  | cons c l ih => exact ih _ (fnvStep_bd h c)
theorem fnv_inj (h1 h2 : Int) (l : List UInt8) (b1 : 0 ≤ h1 ∧ h1 < 18446744073709551616) (b2 : 0 ≤ h2 ∧ h2 < 18446744073709551616) (h : fnv h1 l = fnv h2 l) : h1 = h2 := by
  unfold fnv at h
  induction l generalizing h1 h2 with
  | nil => exact h
  | cons c l ih =>
    have := ih _ _ (fnvStep_bd h1 c) (fnvStep_bd h2 c) h
    have := xor_cancel _ _ _ (fnvStep_inj h1 h2 c c b1 b2 this)
    omega
theorem fnv_one (h : Int) (xs ys : List UInt8) (c d : UInt8) (b : 0 ≤ h ∧ h < 18446744073709551616) (hh : fnv h (xs ++ c :: ys) = fnv h (xs ++ d :: ys)) : c = d := by
  rw [fnv_append, fnv_append] at hh
  have hb := fnv_bd h xs b
  have h1 : fnvStep (fnv h xs) c = fnvStep (fnv h xs) d := fnv_inj _ _ ys (fnvStep_bd _ _) (fnvStep_bd _ _) hh
  have h2 := fnvStep_inj _ _ _ _ hb hb h1
  rw [Nat.xor_comm _ c.toNat, Nat.xor_comm _ d.toNat] at h2
  exact UInt8.toNat.inj (xor_cancel _ _ _ h2)
theorem xor_ne (t : UInt8) (d : Nat) (h0 : 0 < d) (h1 : d < 256) : UInt8.ofNat (t.toNat ^^^ d) ≠ t := fun h => by
  have h2 : t.toNat ^^^ d < 256 := Nat.xor_lt_two_pow (n := 8) t.toNat_lt (by omega)
  have h3 := congrArg UInt8.toNat h
  simp [Nat.mod_eq_of_lt h2] at h3
  have h4 : d = 0 := by
    have := congrArg (t.toNat ^^^ ·) h3
    have h5 : d % 256 = 0 := by simpa [← Nat.xor_assoc] using this
    omega
  omega
end Go.Proofs.Ytcminppmmhinjaa
