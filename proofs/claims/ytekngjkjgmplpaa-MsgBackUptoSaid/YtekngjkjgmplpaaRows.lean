/-
  No cell of these rows narrows 'for every input' (looked for: loops, veiled, ifaces, maps, wideKeys, modest, calm, conditions, laid).
  DERIVED. THE GIVEN ROWS OF THIS SEAT. 9 by the template 'for every input the law returns true; each argument reads behind the call as it read before'; 0 by the template 'total and deterministic' (their statements: YtekngjkjgmplpaaTotals.lean).
  GIVEN WITH THE SEED: the statements are not yours to turn. If you find one false, say at which input.
  Laid BY PROGRAM, IN A SANDBOX (cutbox-rows.mjs): the forced cells as the released guide's own fill.sh prints them over the translation 511e380b8621b4c1… (all of the seat's roots in one cut). By AI agents, Wed Nov 11 2026. No macro, syntax, notation, axiom, sorry.
-/
import Derived.Test.YtekngjkjgmplpaaChecked
import GoSem.Claim
import GoSem.ClaimJoined
import GoSem.ClaimMapViews
import Derived.JoinedTies
import Derived.KernelRfl
namespace Go.Proofs.Ytekngjkjgmplpaa
/- THE CELL 'sum', in the pinned program and in every row, IS THE sha256 OF THE DUMP (.gsa) THAT YtekngjkjgmplpaaProg.lean LOADS. Nothing in Lean hashes anything: it is a label: what it is worth is what the hold of that sum in a sandbox is worth. -/
noncomputable def Try.pinned : Pinned := { name := "ytekngjkjgmplpaa", sum := "511e380b8621b4c198f4ccf0008632624364c9b2b32bd95482a65e3671f593d2", checked := Try.checked }
namespace Rows
def none {H : Type} : Left H := { results := [], args := [] }

/-- 'ententelaw07.VaultPlays': WHATEVER THE INPUT: true; the input reads as it did. -/
def vaultPlaysSpec : ChangeSpec := { name := "vaultPlays", fn := fun _ => fun
  | [d1, d2, d3] => { results := [.lit (.bool true)], args := [d1, d2, d3] }
  | _ => none }
def vaultPlaysRow : OpenClaim := { program := "ytekngjkjgmplpaa", sum := "511e380b8621b4c198f4ccf0008632624364c9b2b32bd95482a65e3671f593d2", func := "entente/ententelaw07.VaultPlays", spec := "vaultPlays", inPlace := ["internal/bytealg.IndexByteString", "internal/bytealg.abigen_runtime_cmpstring", "internal/bytealg.Compare", "slices.overlaps[entente/api.Signed]"], unfollowed := true, recurses := true, plainKeys := false, apart := false }
def VaultPlaysSaid : Prop := vaultPlaysRow.holds Try.pinned (OpenSpec.ofChange vaultPlaysSpec)

/-- ITS FALSE NEIGHBOUR: 'it returns false'. Refute it at one input. -/
def vaultPlaysWrong : ChangeSpec := { name := "vaultPlays", fn := fun _ => fun
  | [d1, d2, d3] => { results := [.lit (.bool false)], args := [d1, d2, d3] }
  | _ => none }
def VaultPlaysWrongFalsely : Prop := vaultPlaysRow.holds Try.pinned (OpenSpec.ofChange vaultPlaysWrong)

/-- 'ententelaw09.CheckTells': WHATEVER THE INPUT: true; the input reads as it did. -/
def checkTellsSpec : ChangeSpec := { name := "checkTells", fn := fun _ => fun
  | [d1, d2, d3] => { results := [.lit (.bool true)], args := [d1, d2, d3] }
  | _ => none }
def checkTellsRow : OpenClaim := { program := "ytekngjkjgmplpaa", sum := "511e380b8621b4c198f4ccf0008632624364c9b2b32bd95482a65e3671f593d2", func := "entente/ententelaw09.CheckTells", spec := "checkTells", inPlace := ["internal/bytealg.IndexByteString", "internal/bytealg.abigen_runtime_cmpstring"], unfollowed := true, recurses := true, plainKeys := false, apart := false }
def CheckTellsSaid : Prop := checkTellsRow.holds Try.pinned (OpenSpec.ofChange checkTellsSpec)

/-- ITS FALSE NEIGHBOUR: 'it returns false'. Refute it at one input. -/
def checkTellsWrong : ChangeSpec := { name := "checkTells", fn := fun _ => fun
  | [d1, d2, d3] => { results := [.lit (.bool false)], args := [d1, d2, d3] }
  | _ => none }
def CheckTellsWrongFalsely : Prop := checkTellsRow.holds Try.pinned (OpenSpec.ofChange checkTellsWrong)

/-- 'ententelaw09.CheckTight': WHATEVER THE INPUT: true; the input reads as it did. -/
def checkTightSpec : ChangeSpec := { name := "checkTight", fn := fun _ => fun
  | [d] => { results := [.lit (.bool true)], args := [d] }
  | _ => none }
def checkTightRow : OpenClaim := { program := "ytekngjkjgmplpaa", sum := "511e380b8621b4c198f4ccf0008632624364c9b2b32bd95482a65e3671f593d2", func := "entente/ententelaw09.CheckTight", spec := "checkTight", inPlace := ["internal/bytealg.IndexByteString", "internal/bytealg.abigen_runtime_cmpstring"], unfollowed := true, recurses := true, plainKeys := false, apart := false }
def CheckTightSaid : Prop := checkTightRow.holds Try.pinned (OpenSpec.ofChange checkTightSpec)

/-- ITS FALSE NEIGHBOUR: 'it returns false'. Refute it at one input. -/
def checkTightWrong : ChangeSpec := { name := "checkTight", fn := fun _ => fun
  | [d] => { results := [.lit (.bool false)], args := [d] }
  | _ => none }
def CheckTightWrongFalsely : Prop := checkTightRow.holds Try.pinned (OpenSpec.ofChange checkTightWrong)

/-- 'ententelaw09.CheckGets': WHATEVER THE INPUT: true; the input reads as it did. -/
def checkGetsSpec : ChangeSpec := { name := "checkGets", fn := fun _ => fun
  | [d1, d2, d3] => { results := [.lit (.bool true)], args := [d1, d2, d3] }
  | _ => none }
def checkGetsRow : OpenClaim := { program := "ytekngjkjgmplpaa", sum := "511e380b8621b4c198f4ccf0008632624364c9b2b32bd95482a65e3671f593d2", func := "entente/ententelaw09.CheckGets", spec := "checkGets", inPlace := ["internal/bytealg.IndexByteString", "internal/bytealg.abigen_runtime_cmpstring"], unfollowed := true, recurses := true, plainKeys := false, apart := false }
def CheckGetsSaid : Prop := checkGetsRow.holds Try.pinned (OpenSpec.ofChange checkGetsSpec)

/-- ITS FALSE NEIGHBOUR: 'it returns false'. Refute it at one input. -/
def checkGetsWrong : ChangeSpec := { name := "checkGets", fn := fun _ => fun
  | [d1, d2, d3] => { results := [.lit (.bool false)], args := [d1, d2, d3] }
  | _ => none }
def CheckGetsWrongFalsely : Prop := checkGetsRow.holds Try.pinned (OpenSpec.ofChange checkGetsWrong)

/-- 'ententelaw45.SieveTells': WHATEVER THE INPUT: true; the input reads as it did. -/
def sieveTellsSpec : ChangeSpec := { name := "sieveTells", fn := fun _ => fun
  | [d1, d2, d3] => { results := [.lit (.bool true)], args := [d1, d2, d3] }
  | _ => none }
def sieveTellsRow : OpenClaim := { program := "ytekngjkjgmplpaa", sum := "511e380b8621b4c198f4ccf0008632624364c9b2b32bd95482a65e3671f593d2", func := "entente/ententelaw45.SieveTells", spec := "sieveTells", inPlace := ["internal/bytealg.IndexByteString", "internal/bytealg.abigen_runtime_cmpstring", "internal/bytealg.Compare"], unfollowed := true, recurses := true, plainKeys := false, apart := false }
def SieveTellsSaid : Prop := sieveTellsRow.holds Try.pinned (OpenSpec.ofChange sieveTellsSpec)

/-- ITS FALSE NEIGHBOUR: 'it returns false'. Refute it at one input. -/
def sieveTellsWrong : ChangeSpec := { name := "sieveTells", fn := fun _ => fun
  | [d1, d2, d3] => { results := [.lit (.bool false)], args := [d1, d2, d3] }
  | _ => none }
def SieveTellsWrongFalsely : Prop := sieveTellsRow.holds Try.pinned (OpenSpec.ofChange sieveTellsWrong)

/-- 'ententelaw45.SieveHolds': WHATEVER THE INPUT: true; the input reads as it did. -/
def sieveHoldsSpec : ChangeSpec := { name := "sieveHolds", fn := fun _ => fun
  | [d1, d2, d3] => { results := [.lit (.bool true)], args := [d1, d2, d3] }
  | _ => none }
def sieveHoldsRow : OpenClaim := { program := "ytekngjkjgmplpaa", sum := "511e380b8621b4c198f4ccf0008632624364c9b2b32bd95482a65e3671f593d2", func := "entente/ententelaw45.SieveHolds", spec := "sieveHolds", inPlace := ["internal/bytealg.IndexByteString", "internal/bytealg.abigen_runtime_cmpstring", "internal/bytealg.Compare"], unfollowed := true, recurses := true, plainKeys := false, apart := false }
def SieveHoldsSaid : Prop := sieveHoldsRow.holds Try.pinned (OpenSpec.ofChange sieveHoldsSpec)

/-- ITS FALSE NEIGHBOUR: 'it returns false'. Refute it at one input. -/
def sieveHoldsWrong : ChangeSpec := { name := "sieveHolds", fn := fun _ => fun
  | [d1, d2, d3] => { results := [.lit (.bool false)], args := [d1, d2, d3] }
  | _ => none }
def SieveHoldsWrongFalsely : Prop := sieveHoldsRow.holds Try.pinned (OpenSpec.ofChange sieveHoldsWrong)

/-- 'ententelaw17.MsgTells': WHATEVER THE INPUT: true; the input reads as it did. -/
def msgTellsSpec : ChangeSpec := { name := "msgTells", fn := fun _ => fun
  | [d1, d2] => { results := [.lit (.bool true)], args := [d1, d2] }
  | _ => none }
def msgTellsRow : OpenClaim := { program := "ytekngjkjgmplpaa", sum := "511e380b8621b4c198f4ccf0008632624364c9b2b32bd95482a65e3671f593d2", func := "entente/ententelaw17.MsgTells", spec := "msgTells", inPlace := ["internal/bytealg.IndexByteString", "internal/bytealg.abigen_runtime_cmpstring", "internal/bytealg.Compare"], unfollowed := true, recurses := true, plainKeys := false, apart := false }
def MsgTellsSaid : Prop := msgTellsRow.holds Try.pinned (OpenSpec.ofChange msgTellsSpec)

/-- ITS FALSE NEIGHBOUR: 'it returns false'. Refute it at one input. -/
def msgTellsWrong : ChangeSpec := { name := "msgTells", fn := fun _ => fun
  | [d1, d2] => { results := [.lit (.bool false)], args := [d1, d2] }
  | _ => none }
def MsgTellsWrongFalsely : Prop := msgTellsRow.holds Try.pinned (OpenSpec.ofChange msgTellsWrong)

/-- 'ententelaw17.MsgBack': WHATEVER THE INPUT: true; the input reads as it did. -/
def msgBackSpec : ChangeSpec := { name := "msgBack", fn := fun _ => fun
  | [d1, d2] => { results := [.lit (.bool true)], args := [d1, d2] }
  | _ => none }
def msgBackRow : OpenClaim := { program := "ytekngjkjgmplpaa", sum := "511e380b8621b4c198f4ccf0008632624364c9b2b32bd95482a65e3671f593d2", func := "entente/ententelaw17.MsgBack", spec := "msgBack", inPlace := ["internal/bytealg.IndexByteString", "internal/bytealg.abigen_runtime_cmpstring", "internal/bytealg.Compare"], unfollowed := true, recurses := true, plainKeys := false, apart := false }
def MsgBackSaid : Prop := msgBackRow.holds Try.pinned (OpenSpec.ofChange msgBackSpec)

/-- ITS FALSE NEIGHBOUR: 'it returns false'. Refute it at one input. -/
def msgBackWrong : ChangeSpec := { name := "msgBack", fn := fun _ => fun
  | [d1, d2] => { results := [.lit (.bool false)], args := [d1, d2] }
  | _ => none }
def MsgBackWrongFalsely : Prop := msgBackRow.holds Try.pinned (OpenSpec.ofChange msgBackWrong)

/-- 'ententelaw09.CheckSound': WHATEVER THE INPUT: true; the input reads as it did. -/
def checkSoundSpec : ChangeSpec := { name := "checkSound", fn := fun _ => fun
  | [d1, d2] => { results := [.lit (.bool true)], args := [d1, d2] }
  | _ => none }
def checkSoundRow : OpenClaim := { program := "ytekngjkjgmplpaa", sum := "511e380b8621b4c198f4ccf0008632624364c9b2b32bd95482a65e3671f593d2", func := "entente/ententelaw09.CheckSound", spec := "checkSound", inPlace := ["internal/bytealg.IndexByteString", "internal/bytealg.abigen_runtime_cmpstring"], unfollowed := true, recurses := true, plainKeys := false, apart := false }
def CheckSoundSaid : Prop := checkSoundRow.holds Try.pinned (OpenSpec.ofChange checkSoundSpec)

/-- ITS FALSE NEIGHBOUR: 'it returns false'. Refute it at one input. -/
def checkSoundWrong : ChangeSpec := { name := "checkSound", fn := fun _ => fun
  | [d1, d2] => { results := [.lit (.bool false)], args := [d1, d2] }
  | _ => none }
def CheckSoundWrongFalsely : Prop := checkSoundRow.holds Try.pinned (OpenSpec.ofChange checkSoundWrong)

/- THE SECOND FORM. 'bulk': how many values and letters a reading holds, each counted each time it is reached (what is shared counts as often as it is met; a slice's spare places count too). A statement '..UptoSaid' is the law's where the arguments, and the package variables that the reading takes, are together of bulk at most 1048576: NARROWER than '..Said'. Prove '..Said' where nothing that the law and all that it calls make is longer than what came in: it says more and counts as full. Else prove '..UptoSaid'. A law counts once. -/
mutual
def uptoBulk {H : Type} : DataW H → Nat
  | .lit (.string bytes) => bytes.length + 1
  | .lit _ => 1
  | .nil => 1
  | .ptr d => uptoBulk d + 1
  | .slice elems spare => uptoBulkAll elems + uptoBulkAll spare + 1
  | .agg parts => uptoBulkAll parts + 1
  | .iface _ d => uptoBulk d + 1
  | .map entries => uptoBulkEntries entries + 1
  | .held _ => 1
def uptoBulkAll {H : Type} : List (DataW H) → Nat
  | [] => 0
  | d :: r => uptoBulk d + uptoBulkAll r
def uptoBulkEntries {H : Type} : List (Lit × DataW H) → Nat
  | [] => 0
  | x :: r => uptoBulkEntry x + uptoBulkEntries r
def uptoBulkEntry {H : Type} : Lit × DataW H → Nat
  | (.string bytes, d) => bytes.length + uptoBulk d + 1
  | (_, d) => uptoBulk d + 1
 end
def uptoSmall : (H : Type) → List (DataW H) → Bool := fun _ ds => decide (uptoBulkAll ds ≤ 1048576)
def OpenSpec.upto (s : _root_.Go.ChangeSpec) : _root_.Go.OpenSpec := { _root_.Go.OpenSpec.ofChange s with cond := some uptoSmall }

/-- 'ententelaw07.VaultPlays', WHERE WHAT IT READS IS OF BULK AT MOST 1048576: true; the input reads as it did. -/
def vaultPlaysUptoRow : OpenClaim := { program := "ytekngjkjgmplpaa", sum := "511e380b8621b4c198f4ccf0008632624364c9b2b32bd95482a65e3671f593d2", func := "entente/ententelaw07.VaultPlays", spec := "vaultPlays", inPlace := ["internal/bytealg.IndexByteString", "internal/bytealg.abigen_runtime_cmpstring", "internal/bytealg.Compare", "slices.overlaps[entente/api.Signed]"], unfollowed := true, recurses := true, plainKeys := false, apart := false, narrowed := true }
def VaultPlaysUptoSaid : Prop := vaultPlaysUptoRow.holds Try.pinned (OpenSpec.upto vaultPlaysSpec)

/-- 'ententelaw09.CheckTells', WHERE WHAT IT READS IS OF BULK AT MOST 1048576: true; the input reads as it did. -/
def checkTellsUptoRow : OpenClaim := { program := "ytekngjkjgmplpaa", sum := "511e380b8621b4c198f4ccf0008632624364c9b2b32bd95482a65e3671f593d2", func := "entente/ententelaw09.CheckTells", spec := "checkTells", inPlace := ["internal/bytealg.IndexByteString", "internal/bytealg.abigen_runtime_cmpstring"], unfollowed := true, recurses := true, plainKeys := false, apart := false, narrowed := true }
def CheckTellsUptoSaid : Prop := checkTellsUptoRow.holds Try.pinned (OpenSpec.upto checkTellsSpec)

/-- 'ententelaw09.CheckTight', WHERE WHAT IT READS IS OF BULK AT MOST 1048576: true; the input reads as it did. -/
def checkTightUptoRow : OpenClaim := { program := "ytekngjkjgmplpaa", sum := "511e380b8621b4c198f4ccf0008632624364c9b2b32bd95482a65e3671f593d2", func := "entente/ententelaw09.CheckTight", spec := "checkTight", inPlace := ["internal/bytealg.IndexByteString", "internal/bytealg.abigen_runtime_cmpstring"], unfollowed := true, recurses := true, plainKeys := false, apart := false, narrowed := true }
def CheckTightUptoSaid : Prop := checkTightUptoRow.holds Try.pinned (OpenSpec.upto checkTightSpec)

/-- 'ententelaw09.CheckGets', WHERE WHAT IT READS IS OF BULK AT MOST 1048576: true; the input reads as it did. -/
def checkGetsUptoRow : OpenClaim := { program := "ytekngjkjgmplpaa", sum := "511e380b8621b4c198f4ccf0008632624364c9b2b32bd95482a65e3671f593d2", func := "entente/ententelaw09.CheckGets", spec := "checkGets", inPlace := ["internal/bytealg.IndexByteString", "internal/bytealg.abigen_runtime_cmpstring"], unfollowed := true, recurses := true, plainKeys := false, apart := false, narrowed := true }
def CheckGetsUptoSaid : Prop := checkGetsUptoRow.holds Try.pinned (OpenSpec.upto checkGetsSpec)

/-- 'ententelaw45.SieveTells', WHERE WHAT IT READS IS OF BULK AT MOST 1048576: true; the input reads as it did. -/
def sieveTellsUptoRow : OpenClaim := { program := "ytekngjkjgmplpaa", sum := "511e380b8621b4c198f4ccf0008632624364c9b2b32bd95482a65e3671f593d2", func := "entente/ententelaw45.SieveTells", spec := "sieveTells", inPlace := ["internal/bytealg.IndexByteString", "internal/bytealg.abigen_runtime_cmpstring", "internal/bytealg.Compare"], unfollowed := true, recurses := true, plainKeys := false, apart := false, narrowed := true }
def SieveTellsUptoSaid : Prop := sieveTellsUptoRow.holds Try.pinned (OpenSpec.upto sieveTellsSpec)

/-- 'ententelaw45.SieveHolds', WHERE WHAT IT READS IS OF BULK AT MOST 1048576: true; the input reads as it did. -/
def sieveHoldsUptoRow : OpenClaim := { program := "ytekngjkjgmplpaa", sum := "511e380b8621b4c198f4ccf0008632624364c9b2b32bd95482a65e3671f593d2", func := "entente/ententelaw45.SieveHolds", spec := "sieveHolds", inPlace := ["internal/bytealg.IndexByteString", "internal/bytealg.abigen_runtime_cmpstring", "internal/bytealg.Compare"], unfollowed := true, recurses := true, plainKeys := false, apart := false, narrowed := true }
def SieveHoldsUptoSaid : Prop := sieveHoldsUptoRow.holds Try.pinned (OpenSpec.upto sieveHoldsSpec)

/-- 'ententelaw17.MsgTells', WHERE WHAT IT READS IS OF BULK AT MOST 1048576: true; the input reads as it did. -/
def msgTellsUptoRow : OpenClaim := { program := "ytekngjkjgmplpaa", sum := "511e380b8621b4c198f4ccf0008632624364c9b2b32bd95482a65e3671f593d2", func := "entente/ententelaw17.MsgTells", spec := "msgTells", inPlace := ["internal/bytealg.IndexByteString", "internal/bytealg.abigen_runtime_cmpstring", "internal/bytealg.Compare"], unfollowed := true, recurses := true, plainKeys := false, apart := false, narrowed := true }
def MsgTellsUptoSaid : Prop := msgTellsUptoRow.holds Try.pinned (OpenSpec.upto msgTellsSpec)

/-- 'ententelaw17.MsgBack', WHERE WHAT IT READS IS OF BULK AT MOST 1048576: true; the input reads as it did. -/
def msgBackUptoRow : OpenClaim := { program := "ytekngjkjgmplpaa", sum := "511e380b8621b4c198f4ccf0008632624364c9b2b32bd95482a65e3671f593d2", func := "entente/ententelaw17.MsgBack", spec := "msgBack", inPlace := ["internal/bytealg.IndexByteString", "internal/bytealg.abigen_runtime_cmpstring", "internal/bytealg.Compare"], unfollowed := true, recurses := true, plainKeys := false, apart := false, narrowed := true }
def MsgBackUptoSaid : Prop := msgBackUptoRow.holds Try.pinned (OpenSpec.upto msgBackSpec)

/-- 'ententelaw09.CheckSound', WHERE WHAT IT READS IS OF BULK AT MOST 1048576: true; the input reads as it did. -/
def checkSoundUptoRow : OpenClaim := { program := "ytekngjkjgmplpaa", sum := "511e380b8621b4c198f4ccf0008632624364c9b2b32bd95482a65e3671f593d2", func := "entente/ententelaw09.CheckSound", spec := "checkSound", inPlace := ["internal/bytealg.IndexByteString", "internal/bytealg.abigen_runtime_cmpstring"], unfollowed := true, recurses := true, plainKeys := false, apart := false, narrowed := true }
def CheckSoundUptoSaid : Prop := checkSoundUptoRow.holds Try.pinned (OpenSpec.upto checkSoundSpec)

end Rows
end Go.Proofs.Ytekngjkjgmplpaa
