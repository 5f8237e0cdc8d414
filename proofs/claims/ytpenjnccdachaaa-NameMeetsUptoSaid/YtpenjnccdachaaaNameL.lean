/- Names, in plain words. -/
import Derived.Test.YtpenjnccdachaaaFlat
namespace Go.Proofs.Ytpenjnccdachaaa
set_option linter.unusedSimpArgs false
set_option linter.unusedVariables false
open Go Go.RowKit
/-- A letter; a sign of a name. -/
def ltr (c : UInt8) : Bool := decide (97 ≤ c.toNat) && decide (c.toNat ≤ 122)
def sgn (c : UInt8) : Bool := ltr c || (decide (48 ≤ c.toNat) && decide (c.toNat ≤ 57)) || decide (c.toNat = 45)
/-- A right name. -/
def nameR : List UInt8 → Bool
  | [] => false
  | c :: s => decide (s.length + 1 ≤ 16) && ltr c && (c :: s).all sgn
end Go.Proofs.Ytpenjnccdachaaa
