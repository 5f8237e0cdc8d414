/-
  No cell of these rows narrows 'for every input' (looked for: loops, veiled, ifaces, maps, wideKeys, modest, calm, conditions, laid).
  DERIVED. THE GIVEN ROWS OF THIS SEAT. 11 by the template 'for every input the law returns true; each argument reads behind the call as it read before'; 0 by the template 'total and deterministic' (their statements: YtpenjnccdachaaaTotals.lean).
  GIVEN WITH THE SEED: the statements are not yours to turn. If you find one false, say at which input.
  Laid BY PROGRAM, IN A SANDBOX (cutbox-rows.mjs): the forced cells as the released guide's own fill.sh prints them over the translation 8f533a812115620d… (all of the seat's roots in one cut). By AI agents, Wed Nov 11 2026. No macro, syntax, notation, axiom, sorry.
-/
import Derived.Test.YtpenjnccdachaaaChecked
import GoSem.Claim
import GoSem.ClaimJoined
import GoSem.ClaimMapViews
import Derived.JoinedTies
import Derived.KernelRfl
namespace Go.Proofs.Ytpenjnccdachaaa
/- THE CELL 'sum', in the pinned program and in every row, IS THE sha256 OF THE DUMP (.gsa) THAT YtpenjnccdachaaaProg.lean LOADS. Nothing in Lean hashes anything: it is a label: what it is worth is what the hold of that sum in a sandbox is worth. -/
noncomputable def Try.pinned : Pinned := { name := "ytpenjnccdachaaa", sum := "8f533a812115620d165d8ed367428462e3fac3ba3cdb76355eaa797f96668287", checked := Try.checked }
namespace Rows
def none {H : Type} : Left H := { results := [], args := [] }

/-- 'ententelaw42.TicketChecks': WHATEVER THE INPUT: true; the input reads as it did. -/
def ticketChecksSpec : ChangeSpec := { name := "ticketChecks", fn := fun _ => fun
  | [d1, d2] => { results := [.lit (.bool true)], args := [d1, d2] }
  | _ => none }
def ticketChecksRow : OpenClaim := { program := "ytpenjnccdachaaa", sum := "8f533a812115620d165d8ed367428462e3fac3ba3cdb76355eaa797f96668287", func := "entente/ententelaw42.TicketChecks", spec := "ticketChecks", inPlace := ["internal/bytealg.IndexByteString"], unfollowed := true, recurses := true, apart := false }
def TicketChecksSaid : Prop := ticketChecksRow.holds Try.pinned (OpenSpec.ofChange ticketChecksSpec)

/-- ITS FALSE NEIGHBOUR: 'it returns false'. Refute it at one input. -/
def ticketChecksWrong : ChangeSpec := { name := "ticketChecks", fn := fun _ => fun
  | [d1, d2] => { results := [.lit (.bool false)], args := [d1, d2] }
  | _ => none }
def TicketChecksWrongFalsely : Prop := ticketChecksRow.holds Try.pinned (OpenSpec.ofChange ticketChecksWrong)

/-- 'ententelaw42.TicketGets': WHATEVER THE INPUT: true; the input reads as it did. -/
def ticketGetsSpec : ChangeSpec := { name := "ticketGets", fn := fun _ => fun
  | [d1, d2] => { results := [.lit (.bool true)], args := [d1, d2] }
  | _ => none }
def ticketGetsRow : OpenClaim := { program := "ytpenjnccdachaaa", sum := "8f533a812115620d165d8ed367428462e3fac3ba3cdb76355eaa797f96668287", func := "entente/ententelaw42.TicketGets", spec := "ticketGets", inPlace := ["internal/bytealg.IndexByteString"], unfollowed := true, recurses := true, apart := false }
def TicketGetsSaid : Prop := ticketGetsRow.holds Try.pinned (OpenSpec.ofChange ticketGetsSpec)

/-- ITS FALSE NEIGHBOUR: 'it returns false'. Refute it at one input. -/
def ticketGetsWrong : ChangeSpec := { name := "ticketGets", fn := fun _ => fun
  | [d1, d2] => { results := [.lit (.bool false)], args := [d1, d2] }
  | _ => none }
def TicketGetsWrongFalsely : Prop := ticketGetsRow.holds Try.pinned (OpenSpec.ofChange ticketGetsWrong)

/-- 'ententelaw42.TicketHolds': WHATEVER THE INPUT: true; the input reads as it did. -/
def ticketHoldsSpec : ChangeSpec := { name := "ticketHolds", fn := fun _ => fun
  | [d] => { results := [.lit (.bool true)], args := [d] }
  | _ => none }
def ticketHoldsRow : OpenClaim := { program := "ytpenjnccdachaaa", sum := "8f533a812115620d165d8ed367428462e3fac3ba3cdb76355eaa797f96668287", func := "entente/ententelaw42.TicketHolds", spec := "ticketHolds", inPlace := ["internal/bytealg.IndexByteString"], unfollowed := true, recurses := true, apart := false }
def TicketHoldsSaid : Prop := ticketHoldsRow.holds Try.pinned (OpenSpec.ofChange ticketHoldsSpec)

/-- ITS FALSE NEIGHBOUR: 'it returns false'. Refute it at one input. -/
def ticketHoldsWrong : ChangeSpec := { name := "ticketHolds", fn := fun _ => fun
  | [d] => { results := [.lit (.bool false)], args := [d] }
  | _ => none }
def TicketHoldsWrongFalsely : Prop := ticketHoldsRow.holds Try.pinned (OpenSpec.ofChange ticketHoldsWrong)

/-- 'ententelaw03.NameSets': WHATEVER THE INPUT: true; the input reads as it did. -/
def nameSetsSpec : ChangeSpec := { name := "nameSets", fn := fun _ => fun
  | [d1, d2, d3] => { results := [.lit (.bool true)], args := [d1, d2, d3] }
  | _ => none }
def nameSetsRow : OpenClaim := { program := "ytpenjnccdachaaa", sum := "8f533a812115620d165d8ed367428462e3fac3ba3cdb76355eaa797f96668287", func := "entente/ententelaw03.NameSets", spec := "nameSets", inPlace := ["internal/bytealg.IndexByteString"], unfollowed := true, recurses := true, apart := false }
def NameSetsSaid : Prop := nameSetsRow.holds Try.pinned (OpenSpec.ofChange nameSetsSpec)

/-- ITS FALSE NEIGHBOUR: 'it returns false'. Refute it at one input. -/
def nameSetsWrong : ChangeSpec := { name := "nameSets", fn := fun _ => fun
  | [d1, d2, d3] => { results := [.lit (.bool false)], args := [d1, d2, d3] }
  | _ => none }
def NameSetsWrongFalsely : Prop := nameSetsRow.holds Try.pinned (OpenSpec.ofChange nameSetsWrong)

/-- 'ententelaw03.NameGets': WHATEVER THE INPUT: true; the input reads as it did. -/
def nameGetsSpec : ChangeSpec := { name := "nameGets", fn := fun _ => fun
  | [d1, d2] => { results := [.lit (.bool true)], args := [d1, d2] }
  | _ => none }
def nameGetsRow : OpenClaim := { program := "ytpenjnccdachaaa", sum := "8f533a812115620d165d8ed367428462e3fac3ba3cdb76355eaa797f96668287", func := "entente/ententelaw03.NameGets", spec := "nameGets", inPlace := ["internal/bytealg.IndexByteString"], unfollowed := true, recurses := true, apart := false }
def NameGetsSaid : Prop := nameGetsRow.holds Try.pinned (OpenSpec.ofChange nameGetsSpec)

/-- ITS FALSE NEIGHBOUR: 'it returns false'. Refute it at one input. -/
def nameGetsWrong : ChangeSpec := { name := "nameGets", fn := fun _ => fun
  | [d1, d2] => { results := [.lit (.bool false)], args := [d1, d2] }
  | _ => none }
def NameGetsWrongFalsely : Prop := nameGetsRow.holds Try.pinned (OpenSpec.ofChange nameGetsWrong)

/-- 'ententelaw03.NameMeets': WHATEVER THE INPUT: true; the input reads as it did. -/
def nameMeetsSpec : ChangeSpec := { name := "nameMeets", fn := fun _ => fun
  | [d1, d2] => { results := [.lit (.bool true)], args := [d1, d2] }
  | _ => none }
def nameMeetsRow : OpenClaim := { program := "ytpenjnccdachaaa", sum := "8f533a812115620d165d8ed367428462e3fac3ba3cdb76355eaa797f96668287", func := "entente/ententelaw03.NameMeets", spec := "nameMeets", inPlace := ["internal/bytealg.IndexByteString"], unfollowed := true, recurses := true, apart := false }
def NameMeetsSaid : Prop := nameMeetsRow.holds Try.pinned (OpenSpec.ofChange nameMeetsSpec)

/-- ITS FALSE NEIGHBOUR: 'it returns false'. Refute it at one input. -/
def nameMeetsWrong : ChangeSpec := { name := "nameMeets", fn := fun _ => fun
  | [d1, d2] => { results := [.lit (.bool false)], args := [d1, d2] }
  | _ => none }
def NameMeetsWrongFalsely : Prop := nameMeetsRow.holds Try.pinned (OpenSpec.ofChange nameMeetsWrong)

/-- 'ententelaw04.RoleTells': WHATEVER THE INPUT: true; the input reads as it did. -/
def roleTellsSpec : ChangeSpec := { name := "roleTells", fn := fun _ => fun
  | [d1, d2, d3] => { results := [.lit (.bool true)], args := [d1, d2, d3] }
  | _ => none }
def roleTellsRow : OpenClaim := { program := "ytpenjnccdachaaa", sum := "8f533a812115620d165d8ed367428462e3fac3ba3cdb76355eaa797f96668287", func := "entente/ententelaw04.RoleTells", spec := "roleTells", inPlace := ["internal/bytealg.IndexByteString", "internal/bytealg.IndexString", "internal/bytealg.abigen_runtime_cmpstring"], unfollowed := true, recurses := true, named := ["internal/bytealg.MaxLen"], apart := false }
def RoleTellsSaid : Prop := roleTellsRow.holds Try.pinned (OpenSpec.ofChange roleTellsSpec)

/-- ITS FALSE NEIGHBOUR: 'it returns false'. Refute it at one input. -/
def roleTellsWrong : ChangeSpec := { name := "roleTells", fn := fun _ => fun
  | [d1, d2, d3] => { results := [.lit (.bool false)], args := [d1, d2, d3] }
  | _ => none }
def RoleTellsWrongFalsely : Prop := roleTellsRow.holds Try.pinned (OpenSpec.ofChange roleTellsWrong)

/-- 'ententelaw04.RoleGets': WHATEVER THE INPUT: true; the input reads as it did. -/
def roleGetsSpec : ChangeSpec := { name := "roleGets", fn := fun _ => fun
  | [d1, d2] => { results := [.lit (.bool true)], args := [d1, d2] }
  | _ => none }
def roleGetsRow : OpenClaim := { program := "ytpenjnccdachaaa", sum := "8f533a812115620d165d8ed367428462e3fac3ba3cdb76355eaa797f96668287", func := "entente/ententelaw04.RoleGets", spec := "roleGets", inPlace := ["internal/bytealg.IndexByteString", "internal/bytealg.IndexString", "internal/bytealg.abigen_runtime_cmpstring"], unfollowed := true, recurses := true, named := ["internal/bytealg.MaxLen"], apart := false }
def RoleGetsSaid : Prop := roleGetsRow.holds Try.pinned (OpenSpec.ofChange roleGetsSpec)

/-- ITS FALSE NEIGHBOUR: 'it returns false'. Refute it at one input. -/
def roleGetsWrong : ChangeSpec := { name := "roleGets", fn := fun _ => fun
  | [d1, d2] => { results := [.lit (.bool false)], args := [d1, d2] }
  | _ => none }
def RoleGetsWrongFalsely : Prop := roleGetsRow.holds Try.pinned (OpenSpec.ofChange roleGetsWrong)

/-- 'ententelaw04.RoleBack': WHATEVER THE INPUT: true; the input reads as it did. -/
def roleBackSpec : ChangeSpec := { name := "roleBack", fn := fun _ => fun
  | [d1, d2, d3] => { results := [.lit (.bool true)], args := [d1, d2, d3] }
  | _ => none }
def roleBackRow : OpenClaim := { program := "ytpenjnccdachaaa", sum := "8f533a812115620d165d8ed367428462e3fac3ba3cdb76355eaa797f96668287", func := "entente/ententelaw04.RoleBack", spec := "roleBack", inPlace := ["internal/bytealg.IndexByteString", "internal/bytealg.IndexString", "internal/bytealg.abigen_runtime_cmpstring"], unfollowed := true, recurses := true, named := ["internal/bytealg.MaxLen"], apart := false }
def RoleBackSaid : Prop := roleBackRow.holds Try.pinned (OpenSpec.ofChange roleBackSpec)

/-- ITS FALSE NEIGHBOUR: 'it returns false'. Refute it at one input. -/
def roleBackWrong : ChangeSpec := { name := "roleBack", fn := fun _ => fun
  | [d1, d2, d3] => { results := [.lit (.bool false)], args := [d1, d2, d3] }
  | _ => none }
def RoleBackWrongFalsely : Prop := roleBackRow.holds Try.pinned (OpenSpec.ofChange roleBackWrong)

/-- 'ententelaw05.CredGets': WHATEVER THE INPUT: true; the input reads as it did. -/
def credGetsSpec : ChangeSpec := { name := "credGets", fn := fun _ => fun
  | [d] => { results := [.lit (.bool true)], args := [d] }
  | _ => none }
def credGetsRow : OpenClaim := { program := "ytpenjnccdachaaa", sum := "8f533a812115620d165d8ed367428462e3fac3ba3cdb76355eaa797f96668287", func := "entente/ententelaw05.CredGets", spec := "credGets", inPlace := ["internal/bytealg.IndexByteString", "internal/bytealg.IndexString", "internal/bytealg.CountString", "internal/bytealg.abigen_runtime_cmpstring", "internal/bytealg.Compare"], unfollowed := true, recurses := true, named := ["internal/bytealg.MaxLen"], apart := false }
def CredGetsSaid : Prop := credGetsRow.holds Try.pinned (OpenSpec.ofChange credGetsSpec)

/-- ITS FALSE NEIGHBOUR: 'it returns false'. Refute it at one input. -/
def credGetsWrong : ChangeSpec := { name := "credGets", fn := fun _ => fun
  | [d] => { results := [.lit (.bool false)], args := [d] }
  | _ => none }
def CredGetsWrongFalsely : Prop := credGetsRow.holds Try.pinned (OpenSpec.ofChange credGetsWrong)

/-- 'ententelaw05.CredSets': WHATEVER THE INPUT: true; the input reads as it did. -/
def credSetsSpec : ChangeSpec := { name := "credSets", fn := fun _ => fun
  | [d1, d2] => { results := [.lit (.bool true)], args := [d1, d2] }
  | _ => none }
def credSetsRow : OpenClaim := { program := "ytpenjnccdachaaa", sum := "8f533a812115620d165d8ed367428462e3fac3ba3cdb76355eaa797f96668287", func := "entente/ententelaw05.CredSets", spec := "credSets", inPlace := ["internal/bytealg.IndexByteString", "internal/bytealg.IndexString", "internal/bytealg.CountString", "internal/bytealg.abigen_runtime_cmpstring", "internal/bytealg.Compare"], unfollowed := true, recurses := true, named := ["internal/bytealg.MaxLen"], apart := false }
def CredSetsSaid : Prop := credSetsRow.holds Try.pinned (OpenSpec.ofChange credSetsSpec)

/-- ITS FALSE NEIGHBOUR: 'it returns false'. Refute it at one input. -/
def credSetsWrong : ChangeSpec := { name := "credSets", fn := fun _ => fun
  | [d1, d2] => { results := [.lit (.bool false)], args := [d1, d2] }
  | _ => none }
def CredSetsWrongFalsely : Prop := credSetsRow.holds Try.pinned (OpenSpec.ofChange credSetsWrong)

/- THE SECOND FORM. 'bulk': how many values and letters a reading holds, each counted each time it is reached (what is shared counts as often as it is met; a slice's spare places count too). A statement '..UptoSaid' is the law's where the arguments, and the package variables that the reading takes, are together of bulk at most 1048576: NARROWER than '..Said'. Prove '..Said' where nothing that the law and all that it calls make is longer than what came in: it says more and counts as full. Else prove '..UptoSaid'. A law counts once. -/
mutual
def uptoBulk {H : Type} : DataW H → Nat
  | .lit (.string bytes) => bytes.length + 1
  | .lit _ => 1
  | .nil => 1
  | .ptr d => uptoBulk d + 1
  | .slice elems spare => uptoBulkAll elems + uptoBulkAll spare + 1
  | .agg parts => uptoBulkAll parts + 1
  | .iface _ d => uptoBulk d + 1
  | .map entries => uptoBulkEntries entries + 1
  | .held _ => 1
def uptoBulkAll {H : Type} : List (DataW H) → Nat
  | [] => 0
  | d :: r => uptoBulk d + uptoBulkAll r
def uptoBulkEntries {H : Type} : List (Lit × DataW H) → Nat
  | [] => 0
  | x :: r => uptoBulkEntry x + uptoBulkEntries r
def uptoBulkEntry {H : Type} : Lit × DataW H → Nat
  | (.string bytes, d) => bytes.length + uptoBulk d + 1
  | (_, d) => uptoBulk d + 1
 end
def uptoSmall : (H : Type) → List (DataW H) → Bool := fun _ ds => decide (uptoBulkAll ds ≤ 1048576)
def OpenSpec.upto (s : _root_.Go.ChangeSpec) : _root_.Go.OpenSpec := { _root_.Go.OpenSpec.ofChange s with cond := some uptoSmall }

/-- 'ententelaw42.TicketChecks', WHERE WHAT IT READS IS OF BULK AT MOST 1048576: true; the input reads as it did. -/
def ticketChecksUptoRow : OpenClaim := { program := "ytpenjnccdachaaa", sum := "8f533a812115620d165d8ed367428462e3fac3ba3cdb76355eaa797f96668287", func := "entente/ententelaw42.TicketChecks", spec := "ticketChecks", inPlace := ["internal/bytealg.IndexByteString"], unfollowed := true, recurses := true, apart := false, narrowed := true }
def TicketChecksUptoSaid : Prop := ticketChecksUptoRow.holds Try.pinned (OpenSpec.upto ticketChecksSpec)

/-- 'ententelaw42.TicketGets', WHERE WHAT IT READS IS OF BULK AT MOST 1048576: true; the input reads as it did. -/
def ticketGetsUptoRow : OpenClaim := { program := "ytpenjnccdachaaa", sum := "8f533a812115620d165d8ed367428462e3fac3ba3cdb76355eaa797f96668287", func := "entente/ententelaw42.TicketGets", spec := "ticketGets", inPlace := ["internal/bytealg.IndexByteString"], unfollowed := true, recurses := true, apart := false, narrowed := true }
def TicketGetsUptoSaid : Prop := ticketGetsUptoRow.holds Try.pinned (OpenSpec.upto ticketGetsSpec)

/-- 'ententelaw42.TicketHolds', WHERE WHAT IT READS IS OF BULK AT MOST 1048576: true; the input reads as it did. -/
def ticketHoldsUptoRow : OpenClaim := { program := "ytpenjnccdachaaa", sum := "8f533a812115620d165d8ed367428462e3fac3ba3cdb76355eaa797f96668287", func := "entente/ententelaw42.TicketHolds", spec := "ticketHolds", inPlace := ["internal/bytealg.IndexByteString"], unfollowed := true, recurses := true, apart := false, narrowed := true }
def TicketHoldsUptoSaid : Prop := ticketHoldsUptoRow.holds Try.pinned (OpenSpec.upto ticketHoldsSpec)

/-- 'ententelaw03.NameSets', WHERE WHAT IT READS IS OF BULK AT MOST 1048576: true; the input reads as it did. -/
def nameSetsUptoRow : OpenClaim := { program := "ytpenjnccdachaaa", sum := "8f533a812115620d165d8ed367428462e3fac3ba3cdb76355eaa797f96668287", func := "entente/ententelaw03.NameSets", spec := "nameSets", inPlace := ["internal/bytealg.IndexByteString"], unfollowed := true, recurses := true, apart := false, narrowed := true }
def NameSetsUptoSaid : Prop := nameSetsUptoRow.holds Try.pinned (OpenSpec.upto nameSetsSpec)

/-- 'ententelaw03.NameGets', WHERE WHAT IT READS IS OF BULK AT MOST 1048576: true; the input reads as it did. -/
def nameGetsUptoRow : OpenClaim := { program := "ytpenjnccdachaaa", sum := "8f533a812115620d165d8ed367428462e3fac3ba3cdb76355eaa797f96668287", func := "entente/ententelaw03.NameGets", spec := "nameGets", inPlace := ["internal/bytealg.IndexByteString"], unfollowed := true, recurses := true, apart := false, narrowed := true }
def NameGetsUptoSaid : Prop := nameGetsUptoRow.holds Try.pinned (OpenSpec.upto nameGetsSpec)

/-- 'ententelaw03.NameMeets', WHERE WHAT IT READS IS OF BULK AT MOST 1048576: true; the input reads as it did. -/
def nameMeetsUptoRow : OpenClaim := { program := "ytpenjnccdachaaa", sum := "8f533a812115620d165d8ed367428462e3fac3ba3cdb76355eaa797f96668287", func := "entente/ententelaw03.NameMeets", spec := "nameMeets", inPlace := ["internal/bytealg.IndexByteString"], unfollowed := true, recurses := true, apart := false, narrowed := true }
def NameMeetsUptoSaid : Prop := nameMeetsUptoRow.holds Try.pinned (OpenSpec.upto nameMeetsSpec)

/-- 'ententelaw04.RoleTells', WHERE WHAT IT READS IS OF BULK AT MOST 1048576: true; the input reads as it did. -/
def roleTellsUptoRow : OpenClaim := { program := "ytpenjnccdachaaa", sum := "8f533a812115620d165d8ed367428462e3fac3ba3cdb76355eaa797f96668287", func := "entente/ententelaw04.RoleTells", spec := "roleTells", inPlace := ["internal/bytealg.IndexByteString", "internal/bytealg.IndexString", "internal/bytealg.abigen_runtime_cmpstring"], unfollowed := true, recurses := true, named := ["internal/bytealg.MaxLen"], apart := false, narrowed := true }
def RoleTellsUptoSaid : Prop := roleTellsUptoRow.holds Try.pinned (OpenSpec.upto roleTellsSpec)

/-- 'ententelaw04.RoleGets', WHERE WHAT IT READS IS OF BULK AT MOST 1048576: true; the input reads as it did. -/
def roleGetsUptoRow : OpenClaim := { program := "ytpenjnccdachaaa", sum := "8f533a812115620d165d8ed367428462e3fac3ba3cdb76355eaa797f96668287", func := "entente/ententelaw04.RoleGets", spec := "roleGets", inPlace := ["internal/bytealg.IndexByteString", "internal/bytealg.IndexString", "internal/bytealg.abigen_runtime_cmpstring"], unfollowed := true, recurses := true, named := ["internal/bytealg.MaxLen"], apart := false, narrowed := true }
def RoleGetsUptoSaid : Prop := roleGetsUptoRow.holds Try.pinned (OpenSpec.upto roleGetsSpec)

/-- 'ententelaw04.RoleBack', WHERE WHAT IT READS IS OF BULK AT MOST 1048576: true; the input reads as it did. -/
def roleBackUptoRow : OpenClaim := { program := "ytpenjnccdachaaa", sum := "8f533a812115620d165d8ed367428462e3fac3ba3cdb76355eaa797f96668287", func := "entente/ententelaw04.RoleBack", spec := "roleBack", inPlace := ["internal/bytealg.IndexByteString", "internal/bytealg.IndexString", "internal/bytealg.abigen_runtime_cmpstring"], unfollowed := true, recurses := true, named := ["internal/bytealg.MaxLen"], apart := false, narrowed := true }
def RoleBackUptoSaid : Prop := roleBackUptoRow.holds Try.pinned (OpenSpec.upto roleBackSpec)

/-- 'ententelaw05.CredGets', WHERE WHAT IT READS IS OF BULK AT MOST 1048576: true; the input reads as it did. -/
def credGetsUptoRow : OpenClaim := { program := "ytpenjnccdachaaa", sum := "8f533a812115620d165d8ed367428462e3fac3ba3cdb76355eaa797f96668287", func := "entente/ententelaw05.CredGets", spec := "credGets", inPlace := ["internal/bytealg.IndexByteString", "internal/bytealg.IndexString", "internal/bytealg.CountString", "internal/bytealg.abigen_runtime_cmpstring", "internal/bytealg.Compare"], unfollowed := true, recurses := true, named := ["internal/bytealg.MaxLen"], apart := false, narrowed := true }
def CredGetsUptoSaid : Prop := credGetsUptoRow.holds Try.pinned (OpenSpec.upto credGetsSpec)

/-- 'ententelaw05.CredSets', WHERE WHAT IT READS IS OF BULK AT MOST 1048576: true; the input reads as it did. -/
def credSetsUptoRow : OpenClaim := { program := "ytpenjnccdachaaa", sum := "8f533a812115620d165d8ed367428462e3fac3ba3cdb76355eaa797f96668287", func := "entente/ententelaw05.CredSets", spec := "credSets", inPlace := ["internal/bytealg.IndexByteString", "internal/bytealg.IndexString", "internal/bytealg.CountString", "internal/bytealg.abigen_runtime_cmpstring", "internal/bytealg.Compare"], unfollowed := true, recurses := true, named := ["internal/bytealg.MaxLen"], apart := false, narrowed := true }
def CredSetsUptoSaid : Prop := credSetsUptoRow.holds Try.pinned (OpenSpec.upto credSetsSpec)

end Rows
end Go.Proofs.Ytpenjnccdachaaa
