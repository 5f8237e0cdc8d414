/-
  NARROWER THAN 'FOR EVERY INPUT', by the rows' own cells (each row's printed sentence says how): NormalTells: loops · NormalSays: loops · CapsCount: loops · CapsGrow: loops · SetsSuffice: loops · FormulaRises: loops.
  DERIVED. THE GIVEN ROWS OF THIS SEAT. 7 by the template 'for every input the law returns true; each argument reads behind the call as it read before'; 0 by the template 'total and deterministic' (their statements: YthjaopojlhdjpaaTotals.lean).
  GIVEN WITH THE SEED: the statements are not yours to turn. If you find one false, say at which input.
  Laid BY PROGRAM, IN A SANDBOX (cutbox-rows.mjs): the forced cells as the released guide's own fill.sh prints them over the translation ac5d5a97f78dea9b… (all of the seat's roots in one cut). By AI agents, Wed Nov 11 2026. No macro, syntax, notation, axiom, sorry.
-/
import Derived.Test.YthjaopojlhdjpaaChecked
import GoSem.Claim
import GoSem.ClaimJoined
import GoSem.ClaimMapViews
import Derived.JoinedTies
import Derived.KernelRfl
namespace Go.Proofs.Ythjaopojlhdjpaa
/- THE CELL 'sum', in the pinned program and in every row, IS THE sha256 OF THE DUMP (.gsa) THAT YthjaopojlhdjpaaProg.lean LOADS. Nothing in Lean hashes anything: it is a label: what it is worth is what the hold of that sum in a sandbox is worth. -/
noncomputable def Try.pinned : Pinned := { name := "ythjaopojlhdjpaa", sum := "ac5d5a97f78dea9bd974f25d8ec9630f0087051c0590b27c4aff78692db81a75", checked := Try.checked }
namespace Rows
def none {H : Type} : Left H := { results := [], args := [] }

/-- 'ententelaw13.NormalTells': WHATEVER THE INPUT: true; the input reads as it did. -/
def normalTellsSpec : ChangeSpec := { name := "normalTells", fn := fun _ => fun
  | [d1, d2] => { results := [.lit (.bool true)], args := [d1, d2] }
  | _ => none }
def normalTellsRow : OpenClaim := { program := "ythjaopojlhdjpaa", sum := "ac5d5a97f78dea9bd974f25d8ec9630f0087051c0590b27c4aff78692db81a75", func := "entente/ententelaw13.NormalTells", spec := "normalTells", inPlace := ["internal/bytealg.IndexByteString", "internal/bytealg.Compare"], unfollowed := true, recurses := true, loops := true, apart := false }
def NormalTellsSaid : Prop := normalTellsRow.holds Try.pinned (OpenSpec.ofChange normalTellsSpec)

/-- ITS FALSE NEIGHBOUR: 'it returns false'. Refute it at one input. -/
def normalTellsWrong : ChangeSpec := { name := "normalTells", fn := fun _ => fun
  | [d1, d2] => { results := [.lit (.bool false)], args := [d1, d2] }
  | _ => none }
def NormalTellsWrongFalsely : Prop := normalTellsRow.holds Try.pinned (OpenSpec.ofChange normalTellsWrong)

/-- 'ententelaw13.NormalSays': WHATEVER THE INPUT: true; the input reads as it did. -/
def normalSaysSpec : ChangeSpec := { name := "normalSays", fn := fun _ => fun
  | [d1, d2, d3] => { results := [.lit (.bool true)], args := [d1, d2, d3] }
  | _ => none }
def normalSaysRow : OpenClaim := { program := "ythjaopojlhdjpaa", sum := "ac5d5a97f78dea9bd974f25d8ec9630f0087051c0590b27c4aff78692db81a75", func := "entente/ententelaw13.NormalSays", spec := "normalSays", inPlace := ["internal/bytealg.IndexByteString", "internal/bytealg.Compare"], unfollowed := true, recurses := true, loops := true, apart := false }
def NormalSaysSaid : Prop := normalSaysRow.holds Try.pinned (OpenSpec.ofChange normalSaysSpec)

/-- ITS FALSE NEIGHBOUR: 'it returns false'. Refute it at one input. -/
def normalSaysWrong : ChangeSpec := { name := "normalSays", fn := fun _ => fun
  | [d1, d2, d3] => { results := [.lit (.bool false)], args := [d1, d2, d3] }
  | _ => none }
def NormalSaysWrongFalsely : Prop := normalSaysRow.holds Try.pinned (OpenSpec.ofChange normalSaysWrong)

/-- 'ententelaw24.CapsTell': WHATEVER THE INPUT: true; the input reads as it did. -/
def capsTellSpec : ChangeSpec := { name := "capsTell", fn := fun _ => fun
  | [d1, d2] => { results := [.lit (.bool true)], args := [d1, d2] }
  | _ => none }
def capsTellRow : OpenClaim := { program := "ythjaopojlhdjpaa", sum := "ac5d5a97f78dea9bd974f25d8ec9630f0087051c0590b27c4aff78692db81a75", func := "entente/ententelaw24.CapsTell", spec := "capsTell", inPlace := ["internal/bytealg.IndexByteString", "internal/bytealg.abigen_runtime_cmpstring"], unfollowed := true, recurses := true, apart := false }
def CapsTellSaid : Prop := capsTellRow.holds Try.pinned (OpenSpec.ofChange capsTellSpec)

/-- ITS FALSE NEIGHBOUR: 'it returns false'. Refute it at one input. -/
def capsTellWrong : ChangeSpec := { name := "capsTell", fn := fun _ => fun
  | [d1, d2] => { results := [.lit (.bool false)], args := [d1, d2] }
  | _ => none }
def CapsTellWrongFalsely : Prop := capsTellRow.holds Try.pinned (OpenSpec.ofChange capsTellWrong)

/-- 'ententelaw24.CapsCount': WHATEVER THE INPUT: true; the input reads as it did. -/
def capsCountSpec : ChangeSpec := { name := "capsCount", fn := fun _ => fun
  | [d1, d2, d3] => { results := [.lit (.bool true)], args := [d1, d2, d3] }
  | _ => none }
def capsCountRow : OpenClaim := { program := "ythjaopojlhdjpaa", sum := "ac5d5a97f78dea9bd974f25d8ec9630f0087051c0590b27c4aff78692db81a75", func := "entente/ententelaw24.CapsCount", spec := "capsCount", inPlace := ["internal/bytealg.IndexByteString", "internal/bytealg.abigen_runtime_cmpstring"], unfollowed := true, recurses := true, loops := true, apart := false }
def CapsCountSaid : Prop := capsCountRow.holds Try.pinned (OpenSpec.ofChange capsCountSpec)

/-- ITS FALSE NEIGHBOUR: 'it returns false'. Refute it at one input. -/
def capsCountWrong : ChangeSpec := { name := "capsCount", fn := fun _ => fun
  | [d1, d2, d3] => { results := [.lit (.bool false)], args := [d1, d2, d3] }
  | _ => none }
def CapsCountWrongFalsely : Prop := capsCountRow.holds Try.pinned (OpenSpec.ofChange capsCountWrong)

/-- 'ententelaw24.CapsGrow': WHATEVER THE INPUT: true; the input reads as it did. -/
def capsGrowSpec : ChangeSpec := { name := "capsGrow", fn := fun _ => fun
  | [d] => { results := [.lit (.bool true)], args := [d] }
  | _ => none }
def capsGrowRow : OpenClaim := { program := "ythjaopojlhdjpaa", sum := "ac5d5a97f78dea9bd974f25d8ec9630f0087051c0590b27c4aff78692db81a75", func := "entente/ententelaw24.CapsGrow", spec := "capsGrow", inPlace := ["internal/bytealg.IndexByteString", "internal/bytealg.abigen_runtime_cmpstring"], unfollowed := true, recurses := true, loops := true, apart := false }
def CapsGrowSaid : Prop := capsGrowRow.holds Try.pinned (OpenSpec.ofChange capsGrowSpec)

/-- ITS FALSE NEIGHBOUR: 'it returns false'. Refute it at one input. -/
def capsGrowWrong : ChangeSpec := { name := "capsGrow", fn := fun _ => fun
  | [d] => { results := [.lit (.bool false)], args := [d] }
  | _ => none }
def CapsGrowWrongFalsely : Prop := capsGrowRow.holds Try.pinned (OpenSpec.ofChange capsGrowWrong)

/-- 'ententelaw14.SetsSuffice': WHATEVER THE INPUT: true; the input reads as it did. -/
def setsSufficeSpec : ChangeSpec := { name := "setsSuffice", fn := fun _ => fun
  | [d1, d2] => { results := [.lit (.bool true)], args := [d1, d2] }
  | _ => none }
def setsSufficeRow : OpenClaim := { program := "ythjaopojlhdjpaa", sum := "ac5d5a97f78dea9bd974f25d8ec9630f0087051c0590b27c4aff78692db81a75", func := "entente/ententelaw14.SetsSuffice", spec := "setsSuffice", inPlace := ["internal/bytealg.IndexByteString", "internal/bytealg.abigen_runtime_cmpstring"], unfollowed := true, recurses := true, loops := true, apart := false }
def SetsSufficeSaid : Prop := setsSufficeRow.holds Try.pinned (OpenSpec.ofChange setsSufficeSpec)

/-- ITS FALSE NEIGHBOUR: 'it returns false'. Refute it at one input. -/
def setsSufficeWrong : ChangeSpec := { name := "setsSuffice", fn := fun _ => fun
  | [d1, d2] => { results := [.lit (.bool false)], args := [d1, d2] }
  | _ => none }
def SetsSufficeWrongFalsely : Prop := setsSufficeRow.holds Try.pinned (OpenSpec.ofChange setsSufficeWrong)

/-- 'ententelaw11.FormulaRises': WHATEVER THE INPUT: true; the input reads as it did. -/
def formulaRisesSpec : ChangeSpec := { name := "formulaRises", fn := fun _ => fun
  | [d1, d2, d3] => { results := [.lit (.bool true)], args := [d1, d2, d3] }
  | _ => none }
def formulaRisesRow : OpenClaim := { program := "ythjaopojlhdjpaa", sum := "ac5d5a97f78dea9bd974f25d8ec9630f0087051c0590b27c4aff78692db81a75", func := "entente/ententelaw11.FormulaRises", spec := "formulaRises", inPlace := ["internal/bytealg.IndexByteString", "internal/bytealg.abigen_runtime_cmpstring", "internal/bytealg.Compare"], unfollowed := true, recurses := true, loops := true, apart := false }
def FormulaRisesSaid : Prop := formulaRisesRow.holds Try.pinned (OpenSpec.ofChange formulaRisesSpec)

/-- ITS FALSE NEIGHBOUR: 'it returns false'. Refute it at one input. -/
def formulaRisesWrong : ChangeSpec := { name := "formulaRises", fn := fun _ => fun
  | [d1, d2, d3] => { results := [.lit (.bool false)], args := [d1, d2, d3] }
  | _ => none }
def FormulaRisesWrongFalsely : Prop := formulaRisesRow.holds Try.pinned (OpenSpec.ofChange formulaRisesWrong)

/- THE SECOND FORM. 'bulk': how many values and letters a reading holds, each counted each time it is reached (what is shared counts as often as it is met; a slice's spare places count too). A statement '..UptoSaid' is the law's where the arguments, and the package variables that the reading takes, are together of bulk at most 1048576: NARROWER than '..Said'. Prove '..Said' where nothing that the law and all that it calls make is longer than what came in: it says more and counts as full. Else prove '..UptoSaid'. A law counts once. -/
mutual
def uptoBulk {H : Type} : DataW H → Nat
  | .lit (.string bytes) => bytes.length + 1
  | .lit _ => 1
  | .nil => 1
  | .ptr d => uptoBulk d + 1
  | .slice elems spare => uptoBulkAll elems + uptoBulkAll spare + 1
  | .agg parts => uptoBulkAll parts + 1
  | .iface _ d => uptoBulk d + 1
  | .map entries => uptoBulkEntries entries + 1
  | .held _ => 1
def uptoBulkAll {H : Type} : List (DataW H) → Nat
  | [] => 0
  | d :: r => uptoBulk d + uptoBulkAll r
def uptoBulkEntries {H : Type} : List (Lit × DataW H) → Nat
  | [] => 0
  | x :: r => uptoBulkEntry x + uptoBulkEntries r
def uptoBulkEntry {H : Type} : Lit × DataW H → Nat
  | (.string bytes, d) => bytes.length + uptoBulk d + 1
  | (_, d) => uptoBulk d + 1
 end
def uptoSmall : (H : Type) → List (DataW H) → Bool := fun _ ds => decide (uptoBulkAll ds ≤ 1048576)
def OpenSpec.upto (s : _root_.Go.ChangeSpec) : _root_.Go.OpenSpec := { _root_.Go.OpenSpec.ofChange s with cond := some uptoSmall }

/-- 'ententelaw13.NormalTells', WHERE WHAT IT READS IS OF BULK AT MOST 1048576: true; the input reads as it did. -/
def normalTellsUptoRow : OpenClaim := { program := "ythjaopojlhdjpaa", sum := "ac5d5a97f78dea9bd974f25d8ec9630f0087051c0590b27c4aff78692db81a75", func := "entente/ententelaw13.NormalTells", spec := "normalTells", inPlace := ["internal/bytealg.IndexByteString", "internal/bytealg.Compare"], unfollowed := true, recurses := true, loops := true, apart := false, narrowed := true }
def NormalTellsUptoSaid : Prop := normalTellsUptoRow.holds Try.pinned (OpenSpec.upto normalTellsSpec)

/-- 'ententelaw13.NormalSays', WHERE WHAT IT READS IS OF BULK AT MOST 1048576: true; the input reads as it did. -/
def normalSaysUptoRow : OpenClaim := { program := "ythjaopojlhdjpaa", sum := "ac5d5a97f78dea9bd974f25d8ec9630f0087051c0590b27c4aff78692db81a75", func := "entente/ententelaw13.NormalSays", spec := "normalSays", inPlace := ["internal/bytealg.IndexByteString", "internal/bytealg.Compare"], unfollowed := true, recurses := true, loops := true, apart := false, narrowed := true }
def NormalSaysUptoSaid : Prop := normalSaysUptoRow.holds Try.pinned (OpenSpec.upto normalSaysSpec)

/-- 'ententelaw24.CapsTell', WHERE WHAT IT READS IS OF BULK AT MOST 1048576: true; the input reads as it did. -/
def capsTellUptoRow : OpenClaim := { program := "ythjaopojlhdjpaa", sum := "ac5d5a97f78dea9bd974f25d8ec9630f0087051c0590b27c4aff78692db81a75", func := "entente/ententelaw24.CapsTell", spec := "capsTell", inPlace := ["internal/bytealg.IndexByteString", "internal/bytealg.abigen_runtime_cmpstring"], unfollowed := true, recurses := true, apart := false, narrowed := true }
def CapsTellUptoSaid : Prop := capsTellUptoRow.holds Try.pinned (OpenSpec.upto capsTellSpec)

/-- 'ententelaw24.CapsCount', WHERE WHAT IT READS IS OF BULK AT MOST 1048576: true; the input reads as it did. -/
def capsCountUptoRow : OpenClaim := { program := "ythjaopojlhdjpaa", sum := "ac5d5a97f78dea9bd974f25d8ec9630f0087051c0590b27c4aff78692db81a75", func := "entente/ententelaw24.CapsCount", spec := "capsCount", inPlace := ["internal/bytealg.IndexByteString", "internal/bytealg.abigen_runtime_cmpstring"], unfollowed := true, recurses := true, loops := true, apart := false, narrowed := true }
def CapsCountUptoSaid : Prop := capsCountUptoRow.holds Try.pinned (OpenSpec.upto capsCountSpec)

/-- 'ententelaw24.CapsGrow', WHERE WHAT IT READS IS OF BULK AT MOST 1048576: true; the input reads as it did. -/
def capsGrowUptoRow : OpenClaim := { program := "ythjaopojlhdjpaa", sum := "ac5d5a97f78dea9bd974f25d8ec9630f0087051c0590b27c4aff78692db81a75", func := "entente/ententelaw24.CapsGrow", spec := "capsGrow", inPlace := ["internal/bytealg.IndexByteString", "internal/bytealg.abigen_runtime_cmpstring"], unfollowed := true, recurses := true, loops := true, apart := false, narrowed := true }
def CapsGrowUptoSaid : Prop := capsGrowUptoRow.holds Try.pinned (OpenSpec.upto capsGrowSpec)

/-- 'ententelaw14.SetsSuffice', WHERE WHAT IT READS IS OF BULK AT MOST 1048576: true; the input reads as it did. -/
def setsSufficeUptoRow : OpenClaim := { program := "ythjaopojlhdjpaa", sum := "ac5d5a97f78dea9bd974f25d8ec9630f0087051c0590b27c4aff78692db81a75", func := "entente/ententelaw14.SetsSuffice", spec := "setsSuffice", inPlace := ["internal/bytealg.IndexByteString", "internal/bytealg.abigen_runtime_cmpstring"], unfollowed := true, recurses := true, loops := true, apart := false, narrowed := true }
def SetsSufficeUptoSaid : Prop := setsSufficeUptoRow.holds Try.pinned (OpenSpec.upto setsSufficeSpec)

/-- 'ententelaw11.FormulaRises', WHERE WHAT IT READS IS OF BULK AT MOST 1048576: true; the input reads as it did. -/
def formulaRisesUptoRow : OpenClaim := { program := "ythjaopojlhdjpaa", sum := "ac5d5a97f78dea9bd974f25d8ec9630f0087051c0590b27c4aff78692db81a75", func := "entente/ententelaw11.FormulaRises", spec := "formulaRises", inPlace := ["internal/bytealg.IndexByteString", "internal/bytealg.abigen_runtime_cmpstring", "internal/bytealg.Compare"], unfollowed := true, recurses := true, loops := true, apart := false, narrowed := true }
def FormulaRisesUptoSaid : Prop := formulaRisesUptoRow.holds Try.pinned (OpenSpec.upto formulaRisesSpec)

end Rows
end Go.Proofs.Ythjaopojlhdjpaa
