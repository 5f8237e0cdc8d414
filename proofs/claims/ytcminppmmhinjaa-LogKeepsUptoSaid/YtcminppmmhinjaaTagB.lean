/- tag.Make -/
import Derived.Test.YtcminppmmhinjaaTag
namespace Go.Proofs.Ytcminppmmhinjaa
set_option linter.unusedSimpArgs false
set_option linter.unusedVariables false
open Go Go.RowKit

/-- The bytes of a number, the highest first. -/
def byteAt (h : Int) (j : Nat) : UInt8 := UInt8.ofNat (h / 2 ^ (8 * (7 - j)) % 256).toNat
def be8 (h : Int) : List UInt8 := (List.range 8).map (byteAt h)
theorem B_mod (x : Int) : B (UInt8.ofNat (x % 256).toNat) = .int .u8 (x % 256) := by
  unfold B
  congr 1
  have h1 : 0 ≤ x % 256 := Int.emod_nonneg _ (by omega)
  have h2 : x % 256 < 256 := Int.emod_lt_of_pos _ (by omega)
  simp
  omega
theorem be8_fill (h : Int) (vs : List Value) (hl : vs.length = 8) (hv : ∀ i, i < 8 → vs[i]? = some (B (byteAt h i))) : vs = (be8 h).map B := by
  apply List.ext_getElem?
  intro i
  by_cases hi : i < 8
  · rw [hv i hi]; simp [be8, List.getElem?_range, hi]
  · rw [List.getElem?_eq_none (by omega), List.getElem?_eq_none (by simp [be8]; omega)]
def tagOf (k b : List UInt8) : List UInt8 := be8 (fnv fnv0 ([UInt8.ofNat k.length] ++ k ++ b ++ k))

end Go.Proofs.Ytcminppmmhinjaa
