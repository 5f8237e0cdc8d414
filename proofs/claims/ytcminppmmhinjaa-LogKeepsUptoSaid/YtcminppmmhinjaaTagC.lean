/- the reference's Make -/
import Derived.Test.YtcminppmmhinjaaTagB
namespace Go.Proofs.Ytcminppmmhinjaa
set_option linter.unusedSimpArgs false
set_option linter.unusedVariables false
open Go Go.RowKit
theorem byteAt_lo (h : Int) (i : Nat) (hi : i < 8) : byteAt h (7 - i) = UInt8.ofNat (h / 2 ^ (8 * i) % 256).toNat := by
  unfold byteAt
  rw [show 7 - (7 - i) = i by omega]
theorem div_next (h : Int) (i : Nat) : h / 2 ^ (8 * i) / 256 = h / 2 ^ (8 * (i + 1)) := by
  rw [Int.ediv_ediv_of_nonneg (by exact Int.le_of_lt (Int.pow_pos (by decide))), show 8 * (i + 1) = 8 * i + 8 by omega, Int.pow_add]
  rfl
theorem fnv_nonneg (h : Int) (l : List UInt8) (h0 : 0 ≤ h) : 0 ≤ fnv h l := by
  unfold fnv
  induction l generalizing h with
  | nil => exact h0
  | cons c l ih => exact ih _ (by unfold fnvStep IntKind.wrap; simp [IntKind.signed]; exact Int.emod_nonneg _ (by decide))
theorem fnv_lt (h : Int) (l : List UInt8) (h0 : h < 2 ^ 64) : fnv h l < 2 ^ 64 := by
  unfold fnv
  induction l generalizing h with
  | nil => exact h0
  | cons c l ih => exact ih _ (by unfold fnvStep IntKind.wrap; simp [IntKind.signed]; exact Int.emod_lt_of_pos _ (by decide))
theorem wrap_div (q : Int) (j : Nat) (h0 : 0 ≤ q) (h1 : q < 2 ^ 64) : IntKind.u64.wrap ((q / 2 ^ (8 * j)).tdiv 256) = q / 2 ^ (8 * (j + 1)) := by
  have hp : (0 : Int) < 2 ^ (8 * j) := Int.pow_pos (by decide)
  have hq : 0 ≤ q / 2 ^ (8 * j) := Int.ediv_nonneg h0 (Int.le_of_lt hp)
  have hq1 : q / 2 ^ (8 * j) ≤ q := Int.ediv_le_self _ h0
  rw [Int.tdiv_eq_ediv_of_nonneg hq, div_next]
  have hp' : (0 : Int) < 2 ^ (8 * (j + 1)) := Int.pow_pos (by decide)
  have h2 : 0 ≤ q / 2 ^ (8 * (j + 1)) := Int.ediv_nonneg h0 (Int.le_of_lt hp')
  have h3 : q / 2 ^ (8 * (j + 1)) ≤ q := Int.ediv_le_self _ h0
  generalize q / 2 ^ (8 * (j + 1)) = r at *
  unfold IntKind.wrap
  simp [IntKind.signed, IntKind.bits]
  exact Int.emod_eq_of_lt h2 (by have : (2 : Int) ^ 64 = 18446744073709551616 := by decide
                                 omega)
theorem lo_next (q : Int) (j : Nat) (hj : j < 8) : (List.range' (8 - (j + 1)) (j + 1)).map (byteAt q) = UInt8.ofNat (q / 2 ^ (8 * j) % 256).toNat :: (List.range' (8 - j) j).map (byteAt q) := by
  rw [List.range'_succ, List.map_cons, show 8 - (j + 1) = 7 - j by omega, byteAt_lo q j hj, show 7 - j + 1 = 8 - j by omega]
theorem be8_range (h : Int) : (List.range' (8 - 8) 8).map (byteAt h) = be8 h := by
  simp [be8, List.range_eq_range']
end Go.Proofs.Ytcminppmmhinjaa
