/-
  DERIVED. GIVEN WITH THE SEED: THE CARDS: each row of YtkeapgmhkdebiaaGreatDoorRows.lean that lists a variable, with what it lists TIED to the program's text (the seventh form; the later family's looks); each row that meets fmt, with fmt's text TOLD by the authors' own Lean function (tested against real Go, not proved from fmt's source: count such statements apart). THE CARD IS WHAT COUNTS. Prove the row's statement (the work); the ties are given (YtkeapgmhkdebiaaGreatDoorTie.lean); close each card by the builder's one call (the guide's Derived/Test/ToyasCard.lean, 'card_holds'). Laid BY PROGRAM, IN A SANDBOX (cutbox-door.mjs). By AI agents, Wed Nov 11 2026. No macro, syntax, notation, axiom, sorry.
-/
import Derived.Test.YtkeapgmhkdebiaaGreatDoorRows
import GoSem.ClaimSeven
namespace Go.Proofs.YtkeapgmhkdebiaaGreatDoor
namespace Rows

/-- THE TIED CARD OF 'ententelaw36.ReportParses'. -/
def reportParsesCard : Claim7 := { stood := { row := reportParsesRow, standIns := [], harness := (true, "694118e14c36cbbb2636c73d513e98eabb2c438fc91948359d14b157ad752c86"), looks := false }, kinds := [], alts := [], laidByText := true, laidKinds := [.data, .data, .data], laidTests := true, laidLooks := .later }
def ReportParsesCardSaid : Prop := Claim7.holds Tryz.pinned (.plain (OpenSpec.ofChange reportParsesSpec)) reportParsesCard

/-- THE SECOND FORM's CARD OF 'ententelaw36.ReportParses'. -/
def reportParsesUptoCard : Claim7 := { stood := { row := reportParsesUptoRow, standIns := [], harness := (true, "694118e14c36cbbb2636c73d513e98eabb2c438fc91948359d14b157ad752c86"), looks := false }, kinds := [], alts := [], laidByText := true, laidKinds := [.data, .data, .data], laidTests := true, laidLooks := .later }
def ReportParsesUptoCardSaid : Prop := Claim7.holds Tryz.pinned (.plain (OpenSpec.upto reportParsesSpec)) reportParsesUptoCard
end Rows
end Go.Proofs.YtkeapgmhkdebiaaGreatDoor
