/-
  No cell of these rows narrows 'for every input' (looked for: loops, veiled, ifaces, maps, wideKeys, modest, calm, conditions, laid).
  DERIVED. THE GIVEN ROWS OF THIS SEAT. 7 by the template 'for every input the law returns true; each argument reads behind the call as it read before'; 0 by the template 'total and deterministic' (their statements: YtdkemfimhdjdiaaTotals.lean).
  GIVEN WITH THE SEED: the statements are not yours to turn. If you find one false, say at which input.
  Laid BY PROGRAM, IN A SANDBOX (cutbox-rows.mjs): the forced cells as the released guide's own fill.sh prints them over the translation 01f9102d869ab191… (all of the seat's roots in one cut). By AI agents, Wed Nov 11 2026. No macro, syntax, notation, axiom, sorry.
-/
import Derived.Test.YtdkemfimhdjdiaaChecked
import GoSem.Claim
import GoSem.ClaimJoined
import GoSem.ClaimMapViews
import Derived.JoinedTies
import Derived.KernelRfl
namespace Go.Proofs.Ytdkemfimhdjdiaa
/- THE CELL 'sum', in the pinned program and in every row, IS THE sha256 OF THE DUMP (.gsa) THAT YtdkemfimhdjdiaaProg.lean LOADS. Nothing in Lean hashes anything: it is a label: what it is worth is what the hold of that sum in a sandbox is worth. -/
noncomputable def Try.pinned : Pinned := { name := "ytdkemfimhdjdiaa", sum := "01f9102d869ab19126de3cedcbc4eef7a0bd0ce48e5ad28db2a504b97c3baaf8", checked := Try.checked }
namespace Rows
def none {H : Type} : Left H := { results := [], args := [] }

/-- 'ententelaw26.NetPlays': WHATEVER THE INPUT: true; the input reads as it did. -/
def netPlaysSpec : ChangeSpec := { name := "netPlays", fn := fun _ => fun
  | [d] => { results := [.lit (.bool true)], args := [d] }
  | _ => none }
def netPlaysRow : OpenClaim := { program := "ytdkemfimhdjdiaa", sum := "01f9102d869ab19126de3cedcbc4eef7a0bd0ce48e5ad28db2a504b97c3baaf8", func := "entente/ententelaw26.NetPlays", spec := "netPlays", apart := false }
def NetPlaysSaid : Prop := netPlaysRow.holds Try.pinned (OpenSpec.ofChange netPlaysSpec)

/-- ITS FALSE NEIGHBOUR: 'it returns false'. Refute it at one input. -/
def netPlaysWrong : ChangeSpec := { name := "netPlays", fn := fun _ => fun
  | [d] => { results := [.lit (.bool false)], args := [d] }
  | _ => none }
def NetPlaysWrongFalsely : Prop := netPlaysRow.holds Try.pinned (OpenSpec.ofChange netPlaysWrong)

/-- 'ententelaw26.NetOrder': WHATEVER THE INPUT: true; the input reads as it did. -/
def netOrderSpec : ChangeSpec := { name := "netOrder", fn := fun _ => fun
  | [d1, d2] => { results := [.lit (.bool true)], args := [d1, d2] }
  | _ => none }
def netOrderRow : OpenClaim := { program := "ytdkemfimhdjdiaa", sum := "01f9102d869ab19126de3cedcbc4eef7a0bd0ce48e5ad28db2a504b97c3baaf8", func := "entente/ententelaw26.NetOrder", spec := "netOrder", apart := false }
def NetOrderSaid : Prop := netOrderRow.holds Try.pinned (OpenSpec.ofChange netOrderSpec)

/-- ITS FALSE NEIGHBOUR: 'it returns false'. Refute it at one input. -/
def netOrderWrong : ChangeSpec := { name := "netOrder", fn := fun _ => fun
  | [d1, d2] => { results := [.lit (.bool false)], args := [d1, d2] }
  | _ => none }
def NetOrderWrongFalsely : Prop := netOrderRow.holds Try.pinned (OpenSpec.ofChange netOrderWrong)

/-- 'ententelaw46.LogKeeps': WHATEVER THE INPUT: true; the input reads as it did. -/
def logKeepsSpec : ChangeSpec := { name := "logKeeps", fn := fun _ => fun
  | [d1, d2, d3] => { results := [.lit (.bool true)], args := [d1, d2, d3] }
  | _ => none }
def logKeepsRow : OpenClaim := { program := "ytdkemfimhdjdiaa", sum := "01f9102d869ab19126de3cedcbc4eef7a0bd0ce48e5ad28db2a504b97c3baaf8", func := "entente/ententelaw46.LogKeeps", spec := "logKeeps", apart := false }
def LogKeepsSaid : Prop := logKeepsRow.holds Try.pinned (OpenSpec.ofChange logKeepsSpec)

/-- ITS FALSE NEIGHBOUR: 'it returns false'. Refute it at one input. -/
def logKeepsWrong : ChangeSpec := { name := "logKeeps", fn := fun _ => fun
  | [d1, d2, d3] => { results := [.lit (.bool false)], args := [d1, d2, d3] }
  | _ => none }
def LogKeepsWrongFalsely : Prop := logKeepsRow.holds Try.pinned (OpenSpec.ofChange logKeepsWrong)

/-- 'ententelaw46.LogSpoils': WHATEVER THE INPUT: true; the input reads as it did. -/
def logSpoilsSpec : ChangeSpec := { name := "logSpoils", fn := fun _ => fun
  | [d1, d2, d3] => { results := [.lit (.bool true)], args := [d1, d2, d3] }
  | _ => none }
def logSpoilsRow : OpenClaim := { program := "ytdkemfimhdjdiaa", sum := "01f9102d869ab19126de3cedcbc4eef7a0bd0ce48e5ad28db2a504b97c3baaf8", func := "entente/ententelaw46.LogSpoils", spec := "logSpoils", apart := false }
def LogSpoilsSaid : Prop := logSpoilsRow.holds Try.pinned (OpenSpec.ofChange logSpoilsSpec)

/-- ITS FALSE NEIGHBOUR: 'it returns false'. Refute it at one input. -/
def logSpoilsWrong : ChangeSpec := { name := "logSpoils", fn := fun _ => fun
  | [d1, d2, d3] => { results := [.lit (.bool false)], args := [d1, d2, d3] }
  | _ => none }
def LogSpoilsWrongFalsely : Prop := logSpoilsRow.holds Try.pinned (OpenSpec.ofChange logSpoilsWrong)

/-- 'ententelaw42.TicketGets': WHATEVER THE INPUT: true; the input reads as it did. -/
def ticketGetsSpec : ChangeSpec := { name := "ticketGets", fn := fun _ => fun
  | [d1, d2] => { results := [.lit (.bool true)], args := [d1, d2] }
  | _ => none }
def ticketGetsRow : OpenClaim := { program := "ytdkemfimhdjdiaa", sum := "01f9102d869ab19126de3cedcbc4eef7a0bd0ce48e5ad28db2a504b97c3baaf8", func := "entente/ententelaw42.TicketGets", spec := "ticketGets", inPlace := ["internal/bytealg.IndexByteString"], unfollowed := true, recurses := true, apart := false }
def TicketGetsSaid : Prop := ticketGetsRow.holds Try.pinned (OpenSpec.ofChange ticketGetsSpec)

/-- ITS FALSE NEIGHBOUR: 'it returns false'. Refute it at one input. -/
def ticketGetsWrong : ChangeSpec := { name := "ticketGets", fn := fun _ => fun
  | [d1, d2] => { results := [.lit (.bool false)], args := [d1, d2] }
  | _ => none }
def TicketGetsWrongFalsely : Prop := ticketGetsRow.holds Try.pinned (OpenSpec.ofChange ticketGetsWrong)

/-- 'ententelaw42.TicketHolds': WHATEVER THE INPUT: true; the input reads as it did. -/
def ticketHoldsSpec : ChangeSpec := { name := "ticketHolds", fn := fun _ => fun
  | [d] => { results := [.lit (.bool true)], args := [d] }
  | _ => none }
def ticketHoldsRow : OpenClaim := { program := "ytdkemfimhdjdiaa", sum := "01f9102d869ab19126de3cedcbc4eef7a0bd0ce48e5ad28db2a504b97c3baaf8", func := "entente/ententelaw42.TicketHolds", spec := "ticketHolds", inPlace := ["internal/bytealg.IndexByteString"], unfollowed := true, recurses := true, apart := false }
def TicketHoldsSaid : Prop := ticketHoldsRow.holds Try.pinned (OpenSpec.ofChange ticketHoldsSpec)

/-- ITS FALSE NEIGHBOUR: 'it returns false'. Refute it at one input. -/
def ticketHoldsWrong : ChangeSpec := { name := "ticketHolds", fn := fun _ => fun
  | [d] => { results := [.lit (.bool false)], args := [d] }
  | _ => none }
def TicketHoldsWrongFalsely : Prop := ticketHoldsRow.holds Try.pinned (OpenSpec.ofChange ticketHoldsWrong)

/-- 'ententelaw05.CredBack': WHATEVER THE INPUT: true; the input reads as it did. -/
def credBackSpec : ChangeSpec := { name := "credBack", fn := fun _ => fun
  | [d1, d2] => { results := [.lit (.bool true)], args := [d1, d2] }
  | _ => none }
def credBackRow : OpenClaim := { program := "ytdkemfimhdjdiaa", sum := "01f9102d869ab19126de3cedcbc4eef7a0bd0ce48e5ad28db2a504b97c3baaf8", func := "entente/ententelaw05.CredBack", spec := "credBack", inPlace := ["internal/bytealg.IndexByteString", "internal/bytealg.IndexString", "internal/bytealg.CountString", "internal/bytealg.abigen_runtime_cmpstring", "internal/bytealg.Compare"], unfollowed := true, recurses := true, named := ["internal/bytealg.MaxLen"], apart := false }
def CredBackSaid : Prop := credBackRow.holds Try.pinned (OpenSpec.ofChange credBackSpec)

/-- ITS FALSE NEIGHBOUR: 'it returns false'. Refute it at one input. -/
def credBackWrong : ChangeSpec := { name := "credBack", fn := fun _ => fun
  | [d1, d2] => { results := [.lit (.bool false)], args := [d1, d2] }
  | _ => none }
def CredBackWrongFalsely : Prop := credBackRow.holds Try.pinned (OpenSpec.ofChange credBackWrong)

/- THE SECOND FORM. 'bulk': how many values and letters a reading holds, each counted each time it is reached (what is shared counts as often as it is met; a slice's spare places count too). A statement '..UptoSaid' is the law's where the arguments, and the package variables that the reading takes, are together of bulk at most 1048576: NARROWER than '..Said'. Prove '..Said' where nothing that the law and all that it calls make is longer than what came in: it says more and counts as full. Else prove '..UptoSaid'. A law counts once. -/
mutual
def uptoBulk {H : Type} : DataW H → Nat
  | .lit (.string bytes) => bytes.length + 1
  | .lit _ => 1
  | .nil => 1
  | .ptr d => uptoBulk d + 1
  | .slice elems spare => uptoBulkAll elems + uptoBulkAll spare + 1
  | .agg parts => uptoBulkAll parts + 1
  | .iface _ d => uptoBulk d + 1
  | .map entries => uptoBulkEntries entries + 1
  | .held _ => 1
def uptoBulkAll {H : Type} : List (DataW H) → Nat
  | [] => 0
  | d :: r => uptoBulk d + uptoBulkAll r
def uptoBulkEntries {H : Type} : List (Lit × DataW H) → Nat
  | [] => 0
  | x :: r => uptoBulkEntry x + uptoBulkEntries r
def uptoBulkEntry {H : Type} : Lit × DataW H → Nat
  | (.string bytes, d) => bytes.length + uptoBulk d + 1
  | (_, d) => uptoBulk d + 1
 end
def uptoSmall : (H : Type) → List (DataW H) → Bool := fun _ ds => decide (uptoBulkAll ds ≤ 1048576)
def OpenSpec.upto (s : _root_.Go.ChangeSpec) : _root_.Go.OpenSpec := { _root_.Go.OpenSpec.ofChange s with cond := some uptoSmall }

/-- 'ententelaw26.NetPlays', WHERE WHAT IT READS IS OF BULK AT MOST 1048576: true; the input reads as it did. -/
def netPlaysUptoRow : OpenClaim := { program := "ytdkemfimhdjdiaa", sum := "01f9102d869ab19126de3cedcbc4eef7a0bd0ce48e5ad28db2a504b97c3baaf8", func := "entente/ententelaw26.NetPlays", spec := "netPlays", apart := false, narrowed := true }
def NetPlaysUptoSaid : Prop := netPlaysUptoRow.holds Try.pinned (OpenSpec.upto netPlaysSpec)

/-- 'ententelaw26.NetOrder', WHERE WHAT IT READS IS OF BULK AT MOST 1048576: true; the input reads as it did. -/
def netOrderUptoRow : OpenClaim := { program := "ytdkemfimhdjdiaa", sum := "01f9102d869ab19126de3cedcbc4eef7a0bd0ce48e5ad28db2a504b97c3baaf8", func := "entente/ententelaw26.NetOrder", spec := "netOrder", apart := false, narrowed := true }
def NetOrderUptoSaid : Prop := netOrderUptoRow.holds Try.pinned (OpenSpec.upto netOrderSpec)

/-- 'ententelaw46.LogKeeps', WHERE WHAT IT READS IS OF BULK AT MOST 1048576: true; the input reads as it did. -/
def logKeepsUptoRow : OpenClaim := { program := "ytdkemfimhdjdiaa", sum := "01f9102d869ab19126de3cedcbc4eef7a0bd0ce48e5ad28db2a504b97c3baaf8", func := "entente/ententelaw46.LogKeeps", spec := "logKeeps", apart := false, narrowed := true }
def LogKeepsUptoSaid : Prop := logKeepsUptoRow.holds Try.pinned (OpenSpec.upto logKeepsSpec)

/-- 'ententelaw46.LogSpoils', WHERE WHAT IT READS IS OF BULK AT MOST 1048576: true; the input reads as it did. -/
def logSpoilsUptoRow : OpenClaim := { program := "ytdkemfimhdjdiaa", sum := "01f9102d869ab19126de3cedcbc4eef7a0bd0ce48e5ad28db2a504b97c3baaf8", func := "entente/ententelaw46.LogSpoils", spec := "logSpoils", apart := false, narrowed := true }
def LogSpoilsUptoSaid : Prop := logSpoilsUptoRow.holds Try.pinned (OpenSpec.upto logSpoilsSpec)

/-- 'ententelaw42.TicketGets', WHERE WHAT IT READS IS OF BULK AT MOST 1048576: true; the input reads as it did. -/
def ticketGetsUptoRow : OpenClaim := { program := "ytdkemfimhdjdiaa", sum := "01f9102d869ab19126de3cedcbc4eef7a0bd0ce48e5ad28db2a504b97c3baaf8", func := "entente/ententelaw42.TicketGets", spec := "ticketGets", inPlace := ["internal/bytealg.IndexByteString"], unfollowed := true, recurses := true, apart := false, narrowed := true }
def TicketGetsUptoSaid : Prop := ticketGetsUptoRow.holds Try.pinned (OpenSpec.upto ticketGetsSpec)

/-- 'ententelaw42.TicketHolds', WHERE WHAT IT READS IS OF BULK AT MOST 1048576: true; the input reads as it did. -/
def ticketHoldsUptoRow : OpenClaim := { program := "ytdkemfimhdjdiaa", sum := "01f9102d869ab19126de3cedcbc4eef7a0bd0ce48e5ad28db2a504b97c3baaf8", func := "entente/ententelaw42.TicketHolds", spec := "ticketHolds", inPlace := ["internal/bytealg.IndexByteString"], unfollowed := true, recurses := true, apart := false, narrowed := true }
def TicketHoldsUptoSaid : Prop := ticketHoldsUptoRow.holds Try.pinned (OpenSpec.upto ticketHoldsSpec)

/-- 'ententelaw05.CredBack', WHERE WHAT IT READS IS OF BULK AT MOST 1048576: true; the input reads as it did. -/
def credBackUptoRow : OpenClaim := { program := "ytdkemfimhdjdiaa", sum := "01f9102d869ab19126de3cedcbc4eef7a0bd0ce48e5ad28db2a504b97c3baaf8", func := "entente/ententelaw05.CredBack", spec := "credBack", inPlace := ["internal/bytealg.IndexByteString", "internal/bytealg.IndexString", "internal/bytealg.CountString", "internal/bytealg.abigen_runtime_cmpstring", "internal/bytealg.Compare"], unfollowed := true, recurses := true, named := ["internal/bytealg.MaxLen"], apart := false, narrowed := true }
def CredBackUptoSaid : Prop := credBackUptoRow.holds Try.pinned (OpenSpec.upto credBackSpec)

end Rows
end Go.Proofs.Ytdkemfimhdjdiaa
