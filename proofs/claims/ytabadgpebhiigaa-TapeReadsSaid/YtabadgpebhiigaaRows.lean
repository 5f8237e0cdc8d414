/-
  No cell of these rows narrows 'for every input' (looked for: loops, veiled, ifaces, maps, wideKeys, modest, calm, conditions, laid).
  DERIVED. THE GIVEN ROWS OF THIS SEAT. 10 by the template 'for every input the law returns true; each argument reads behind the call as it read before'; 0 by the template 'total and deterministic' (their statements: YtabadgpebhiigaaTotals.lean).
  GIVEN WITH THE SEED: the statements are not yours to turn. If you find one false, say at which input.
  Laid BY PROGRAM, IN A SANDBOX (cutbox-rows.mjs): the forced cells as the released guide's own fill.sh prints them over the translation 5957904756b17e49… (all of the seat's roots in one cut). By AI agents, Wed Nov 11 2026. No macro, syntax, notation, axiom, sorry.
-/
import Derived.Test.YtabadgpebhiigaaChecked
import GoSem.Claim
import GoSem.ClaimJoined
import GoSem.ClaimMapViews
import Derived.JoinedTies
import Derived.KernelRfl
namespace Go.Proofs.Ytabadgpebhiigaa
/- THE CELL 'sum', in the pinned program and in every row, IS THE sha256 OF THE DUMP (.gsa) THAT YtabadgpebhiigaaProg.lean LOADS. Nothing in Lean hashes anything: it is a label: what it is worth is what the hold of that sum in a sandbox is worth. -/
noncomputable def Try.pinned : Pinned := { name := "ytabadgpebhiigaa", sum := "5957904756b17e49eff4fff7d3b07ec61f5515b0aa36fcd2d270f710db4f1d3c", checked := Try.checked }
namespace Rows
def none {H : Type} : Left H := { results := [], args := [] }

/-- 'ententelaw02.TagMakes': WHATEVER THE INPUT: true; the input reads as it did. -/
def tagMakesSpec : ChangeSpec := { name := "tagMakes", fn := fun _ => fun
  | [d1, d2, d3] => { results := [.lit (.bool true)], args := [d1, d2, d3] }
  | _ => none }
def tagMakesRow : OpenClaim := { program := "ytabadgpebhiigaa", sum := "5957904756b17e49eff4fff7d3b07ec61f5515b0aa36fcd2d270f710db4f1d3c", func := "entente/ententelaw02.TagMakes", spec := "tagMakes", apart := false }
def TagMakesSaid : Prop := tagMakesRow.holds Try.pinned (OpenSpec.ofChange tagMakesSpec)

/-- ITS FALSE NEIGHBOUR: 'it returns false'. Refute it at one input. -/
def tagMakesWrong : ChangeSpec := { name := "tagMakes", fn := fun _ => fun
  | [d1, d2, d3] => { results := [.lit (.bool false)], args := [d1, d2, d3] }
  | _ => none }
def TagMakesWrongFalsely : Prop := tagMakesRow.holds Try.pinned (OpenSpec.ofChange tagMakesWrong)

/-- 'ententelaw02.TagTells': WHATEVER THE INPUT: true; the input reads as it did. -/
def tagTellsSpec : ChangeSpec := { name := "tagTells", fn := fun _ => fun
  | [d1, d2, d3] => { results := [.lit (.bool true)], args := [d1, d2, d3] }
  | _ => none }
def tagTellsRow : OpenClaim := { program := "ytabadgpebhiigaa", sum := "5957904756b17e49eff4fff7d3b07ec61f5515b0aa36fcd2d270f710db4f1d3c", func := "entente/ententelaw02.TagTells", spec := "tagTells", apart := false }
def TagTellsSaid : Prop := tagTellsRow.holds Try.pinned (OpenSpec.ofChange tagTellsSpec)

/-- ITS FALSE NEIGHBOUR: 'it returns false'. Refute it at one input. -/
def tagTellsWrong : ChangeSpec := { name := "tagTells", fn := fun _ => fun
  | [d1, d2, d3] => { results := [.lit (.bool false)], args := [d1, d2, d3] }
  | _ => none }
def TagTellsWrongFalsely : Prop := tagTellsRow.holds Try.pinned (OpenSpec.ofChange tagTellsWrong)

/-- 'ententelaw26.NetPlays': WHATEVER THE INPUT: true; the input reads as it did. -/
def netPlaysSpec : ChangeSpec := { name := "netPlays", fn := fun _ => fun
  | [d] => { results := [.lit (.bool true)], args := [d] }
  | _ => none }
def netPlaysRow : OpenClaim := { program := "ytabadgpebhiigaa", sum := "5957904756b17e49eff4fff7d3b07ec61f5515b0aa36fcd2d270f710db4f1d3c", func := "entente/ententelaw26.NetPlays", spec := "netPlays", apart := false }
def NetPlaysSaid : Prop := netPlaysRow.holds Try.pinned (OpenSpec.ofChange netPlaysSpec)

/-- ITS FALSE NEIGHBOUR: 'it returns false'. Refute it at one input. -/
def netPlaysWrong : ChangeSpec := { name := "netPlays", fn := fun _ => fun
  | [d] => { results := [.lit (.bool false)], args := [d] }
  | _ => none }
def NetPlaysWrongFalsely : Prop := netPlaysRow.holds Try.pinned (OpenSpec.ofChange netPlaysWrong)

/-- 'ententelaw26.NetOrder': WHATEVER THE INPUT: true; the input reads as it did. -/
def netOrderSpec : ChangeSpec := { name := "netOrder", fn := fun _ => fun
  | [d1, d2] => { results := [.lit (.bool true)], args := [d1, d2] }
  | _ => none }
def netOrderRow : OpenClaim := { program := "ytabadgpebhiigaa", sum := "5957904756b17e49eff4fff7d3b07ec61f5515b0aa36fcd2d270f710db4f1d3c", func := "entente/ententelaw26.NetOrder", spec := "netOrder", apart := false }
def NetOrderSaid : Prop := netOrderRow.holds Try.pinned (OpenSpec.ofChange netOrderSpec)

/-- ITS FALSE NEIGHBOUR: 'it returns false'. Refute it at one input. -/
def netOrderWrong : ChangeSpec := { name := "netOrder", fn := fun _ => fun
  | [d1, d2] => { results := [.lit (.bool false)], args := [d1, d2] }
  | _ => none }
def NetOrderWrongFalsely : Prop := netOrderRow.holds Try.pinned (OpenSpec.ofChange netOrderWrong)

/-- 'ententelaw46.LogKeeps': WHATEVER THE INPUT: true; the input reads as it did. -/
def logKeepsSpec : ChangeSpec := { name := "logKeeps", fn := fun _ => fun
  | [d1, d2, d3] => { results := [.lit (.bool true)], args := [d1, d2, d3] }
  | _ => none }
def logKeepsRow : OpenClaim := { program := "ytabadgpebhiigaa", sum := "5957904756b17e49eff4fff7d3b07ec61f5515b0aa36fcd2d270f710db4f1d3c", func := "entente/ententelaw46.LogKeeps", spec := "logKeeps", apart := false }
def LogKeepsSaid : Prop := logKeepsRow.holds Try.pinned (OpenSpec.ofChange logKeepsSpec)

/-- ITS FALSE NEIGHBOUR: 'it returns false'. Refute it at one input. -/
def logKeepsWrong : ChangeSpec := { name := "logKeeps", fn := fun _ => fun
  | [d1, d2, d3] => { results := [.lit (.bool false)], args := [d1, d2, d3] }
  | _ => none }
def LogKeepsWrongFalsely : Prop := logKeepsRow.holds Try.pinned (OpenSpec.ofChange logKeepsWrong)

/-- 'ententelaw46.LogSpoils': WHATEVER THE INPUT: true; the input reads as it did. -/
def logSpoilsSpec : ChangeSpec := { name := "logSpoils", fn := fun _ => fun
  | [d1, d2, d3] => { results := [.lit (.bool true)], args := [d1, d2, d3] }
  | _ => none }
def logSpoilsRow : OpenClaim := { program := "ytabadgpebhiigaa", sum := "5957904756b17e49eff4fff7d3b07ec61f5515b0aa36fcd2d270f710db4f1d3c", func := "entente/ententelaw46.LogSpoils", spec := "logSpoils", apart := false }
def LogSpoilsSaid : Prop := logSpoilsRow.holds Try.pinned (OpenSpec.ofChange logSpoilsSpec)

/-- ITS FALSE NEIGHBOUR: 'it returns false'. Refute it at one input. -/
def logSpoilsWrong : ChangeSpec := { name := "logSpoils", fn := fun _ => fun
  | [d1, d2, d3] => { results := [.lit (.bool false)], args := [d1, d2, d3] }
  | _ => none }
def LogSpoilsWrongFalsely : Prop := logSpoilsRow.holds Try.pinned (OpenSpec.ofChange logSpoilsWrong)

/-- 'ententelaw01.TapeReads': WHATEVER THE INPUT: true; the input reads as it did. -/
def tapeReadsSpec : ChangeSpec := { name := "tapeReads", fn := fun _ => fun
  | [d1, d2] => { results := [.lit (.bool true)], args := [d1, d2] }
  | _ => none }
def tapeReadsRow : OpenClaim := { program := "ytabadgpebhiigaa", sum := "5957904756b17e49eff4fff7d3b07ec61f5515b0aa36fcd2d270f710db4f1d3c", func := "entente/ententelaw01.TapeReads", spec := "tapeReads", unfollowed := true, recurses := true, apart := false }
def TapeReadsSaid : Prop := tapeReadsRow.holds Try.pinned (OpenSpec.ofChange tapeReadsSpec)

/-- ITS FALSE NEIGHBOUR: 'it returns false'. Refute it at one input. -/
def tapeReadsWrong : ChangeSpec := { name := "tapeReads", fn := fun _ => fun
  | [d1, d2] => { results := [.lit (.bool false)], args := [d1, d2] }
  | _ => none }
def TapeReadsWrongFalsely : Prop := tapeReadsRow.holds Try.pinned (OpenSpec.ofChange tapeReadsWrong)

/-- 'ententelaw01.TapePanics': WHATEVER THE INPUT: true; the input reads as it did. -/
def tapePanicsSpec : ChangeSpec := { name := "tapePanics", fn := fun _ => fun
  | [d1, d2, d3] => { results := [.lit (.bool true)], args := [d1, d2, d3] }
  | _ => none }
def tapePanicsRow : OpenClaim := { program := "ytabadgpebhiigaa", sum := "5957904756b17e49eff4fff7d3b07ec61f5515b0aa36fcd2d270f710db4f1d3c", func := "entente/ententelaw01.TapePanics", spec := "tapePanics", unfollowed := true, recurses := true, apart := false }
def TapePanicsSaid : Prop := tapePanicsRow.holds Try.pinned (OpenSpec.ofChange tapePanicsSpec)

/-- ITS FALSE NEIGHBOUR: 'it returns false'. Refute it at one input. -/
def tapePanicsWrong : ChangeSpec := { name := "tapePanics", fn := fun _ => fun
  | [d1, d2, d3] => { results := [.lit (.bool false)], args := [d1, d2, d3] }
  | _ => none }
def TapePanicsWrongFalsely : Prop := tapePanicsRow.holds Try.pinned (OpenSpec.ofChange tapePanicsWrong)

/-- 'ententelaw01.TapeBack': WHATEVER THE INPUT: true; the input reads as it did. -/
def tapeBackSpec : ChangeSpec := { name := "tapeBack", fn := fun _ => fun
  | [d1, d2] => { results := [.lit (.bool true)], args := [d1, d2] }
  | _ => none }
def tapeBackRow : OpenClaim := { program := "ytabadgpebhiigaa", sum := "5957904756b17e49eff4fff7d3b07ec61f5515b0aa36fcd2d270f710db4f1d3c", func := "entente/ententelaw01.TapeBack", spec := "tapeBack", unfollowed := true, recurses := true, apart := false }
def TapeBackSaid : Prop := tapeBackRow.holds Try.pinned (OpenSpec.ofChange tapeBackSpec)

/-- ITS FALSE NEIGHBOUR: 'it returns false'. Refute it at one input. -/
def tapeBackWrong : ChangeSpec := { name := "tapeBack", fn := fun _ => fun
  | [d1, d2] => { results := [.lit (.bool false)], args := [d1, d2] }
  | _ => none }
def TapeBackWrongFalsely : Prop := tapeBackRow.holds Try.pinned (OpenSpec.ofChange tapeBackWrong)

/-- 'ententelaw01.TapeWrites': WHATEVER THE INPUT: true; the input reads as it did. -/
def tapeWritesSpec : ChangeSpec := { name := "tapeWrites", fn := fun _ => fun
  | [d] => { results := [.lit (.bool true)], args := [d] }
  | _ => none }
def tapeWritesRow : OpenClaim := { program := "ytabadgpebhiigaa", sum := "5957904756b17e49eff4fff7d3b07ec61f5515b0aa36fcd2d270f710db4f1d3c", func := "entente/ententelaw01.TapeWrites", spec := "tapeWrites", unfollowed := true, recurses := true, apart := false }
def TapeWritesSaid : Prop := tapeWritesRow.holds Try.pinned (OpenSpec.ofChange tapeWritesSpec)

/-- ITS FALSE NEIGHBOUR: 'it returns false'. Refute it at one input. -/
def tapeWritesWrong : ChangeSpec := { name := "tapeWrites", fn := fun _ => fun
  | [d] => { results := [.lit (.bool false)], args := [d] }
  | _ => none }
def TapeWritesWrongFalsely : Prop := tapeWritesRow.holds Try.pinned (OpenSpec.ofChange tapeWritesWrong)

/- THE SECOND FORM. 'bulk': how many values and letters a reading holds, each counted each time it is reached (what is shared counts as often as it is met; a slice's spare places count too). A statement '..UptoSaid' is the law's where the arguments, and the package variables that the reading takes, are together of bulk at most 1048576: NARROWER than '..Said'. Prove '..Said' where nothing that the law and all that it calls make is longer than what came in: it says more and counts as full. Else prove '..UptoSaid'. A law counts once. -/
mutual
def uptoBulk {H : Type} : DataW H → Nat
  | .lit (.string bytes) => bytes.length + 1
  | .lit _ => 1
  | .nil => 1
  | .ptr d => uptoBulk d + 1
  | .slice elems spare => uptoBulkAll elems + uptoBulkAll spare + 1
  | .agg parts => uptoBulkAll parts + 1
  | .iface _ d => uptoBulk d + 1
  | .map entries => uptoBulkEntries entries + 1
  | .held _ => 1
def uptoBulkAll {H : Type} : List (DataW H) → Nat
  | [] => 0
  | d :: r => uptoBulk d + uptoBulkAll r
def uptoBulkEntries {H : Type} : List (Lit × DataW H) → Nat
  | [] => 0
  | x :: r => uptoBulkEntry x + uptoBulkEntries r
def uptoBulkEntry {H : Type} : Lit × DataW H → Nat
  | (.string bytes, d) => bytes.length + uptoBulk d + 1
  | (_, d) => uptoBulk d + 1
 end
def uptoSmall : (H : Type) → List (DataW H) → Bool := fun _ ds => decide (uptoBulkAll ds ≤ 1048576)
def OpenSpec.upto (s : _root_.Go.ChangeSpec) : _root_.Go.OpenSpec := { _root_.Go.OpenSpec.ofChange s with cond := some uptoSmall }

/-- 'ententelaw02.TagMakes', WHERE WHAT IT READS IS OF BULK AT MOST 1048576: true; the input reads as it did. -/
def tagMakesUptoRow : OpenClaim := { program := "ytabadgpebhiigaa", sum := "5957904756b17e49eff4fff7d3b07ec61f5515b0aa36fcd2d270f710db4f1d3c", func := "entente/ententelaw02.TagMakes", spec := "tagMakes", apart := false, narrowed := true }
def TagMakesUptoSaid : Prop := tagMakesUptoRow.holds Try.pinned (OpenSpec.upto tagMakesSpec)

/-- 'ententelaw02.TagTells', WHERE WHAT IT READS IS OF BULK AT MOST 1048576: true; the input reads as it did. -/
def tagTellsUptoRow : OpenClaim := { program := "ytabadgpebhiigaa", sum := "5957904756b17e49eff4fff7d3b07ec61f5515b0aa36fcd2d270f710db4f1d3c", func := "entente/ententelaw02.TagTells", spec := "tagTells", apart := false, narrowed := true }
def TagTellsUptoSaid : Prop := tagTellsUptoRow.holds Try.pinned (OpenSpec.upto tagTellsSpec)

/-- 'ententelaw26.NetPlays', WHERE WHAT IT READS IS OF BULK AT MOST 1048576: true; the input reads as it did. -/
def netPlaysUptoRow : OpenClaim := { program := "ytabadgpebhiigaa", sum := "5957904756b17e49eff4fff7d3b07ec61f5515b0aa36fcd2d270f710db4f1d3c", func := "entente/ententelaw26.NetPlays", spec := "netPlays", apart := false, narrowed := true }
def NetPlaysUptoSaid : Prop := netPlaysUptoRow.holds Try.pinned (OpenSpec.upto netPlaysSpec)

/-- 'ententelaw26.NetOrder', WHERE WHAT IT READS IS OF BULK AT MOST 1048576: true; the input reads as it did. -/
def netOrderUptoRow : OpenClaim := { program := "ytabadgpebhiigaa", sum := "5957904756b17e49eff4fff7d3b07ec61f5515b0aa36fcd2d270f710db4f1d3c", func := "entente/ententelaw26.NetOrder", spec := "netOrder", apart := false, narrowed := true }
def NetOrderUptoSaid : Prop := netOrderUptoRow.holds Try.pinned (OpenSpec.upto netOrderSpec)

/-- 'ententelaw46.LogKeeps', WHERE WHAT IT READS IS OF BULK AT MOST 1048576: true; the input reads as it did. -/
def logKeepsUptoRow : OpenClaim := { program := "ytabadgpebhiigaa", sum := "5957904756b17e49eff4fff7d3b07ec61f5515b0aa36fcd2d270f710db4f1d3c", func := "entente/ententelaw46.LogKeeps", spec := "logKeeps", apart := false, narrowed := true }
def LogKeepsUptoSaid : Prop := logKeepsUptoRow.holds Try.pinned (OpenSpec.upto logKeepsSpec)

/-- 'ententelaw46.LogSpoils', WHERE WHAT IT READS IS OF BULK AT MOST 1048576: true; the input reads as it did. -/
def logSpoilsUptoRow : OpenClaim := { program := "ytabadgpebhiigaa", sum := "5957904756b17e49eff4fff7d3b07ec61f5515b0aa36fcd2d270f710db4f1d3c", func := "entente/ententelaw46.LogSpoils", spec := "logSpoils", apart := false, narrowed := true }
def LogSpoilsUptoSaid : Prop := logSpoilsUptoRow.holds Try.pinned (OpenSpec.upto logSpoilsSpec)

/-- 'ententelaw01.TapeReads', WHERE WHAT IT READS IS OF BULK AT MOST 1048576: true; the input reads as it did. -/
def tapeReadsUptoRow : OpenClaim := { program := "ytabadgpebhiigaa", sum := "5957904756b17e49eff4fff7d3b07ec61f5515b0aa36fcd2d270f710db4f1d3c", func := "entente/ententelaw01.TapeReads", spec := "tapeReads", unfollowed := true, recurses := true, apart := false, narrowed := true }
def TapeReadsUptoSaid : Prop := tapeReadsUptoRow.holds Try.pinned (OpenSpec.upto tapeReadsSpec)

/-- 'ententelaw01.TapePanics', WHERE WHAT IT READS IS OF BULK AT MOST 1048576: true; the input reads as it did. -/
def tapePanicsUptoRow : OpenClaim := { program := "ytabadgpebhiigaa", sum := "5957904756b17e49eff4fff7d3b07ec61f5515b0aa36fcd2d270f710db4f1d3c", func := "entente/ententelaw01.TapePanics", spec := "tapePanics", unfollowed := true, recurses := true, apart := false, narrowed := true }
def TapePanicsUptoSaid : Prop := tapePanicsUptoRow.holds Try.pinned (OpenSpec.upto tapePanicsSpec)

/-- 'ententelaw01.TapeBack', WHERE WHAT IT READS IS OF BULK AT MOST 1048576: true; the input reads as it did. -/
def tapeBackUptoRow : OpenClaim := { program := "ytabadgpebhiigaa", sum := "5957904756b17e49eff4fff7d3b07ec61f5515b0aa36fcd2d270f710db4f1d3c", func := "entente/ententelaw01.TapeBack", spec := "tapeBack", unfollowed := true, recurses := true, apart := false, narrowed := true }
def TapeBackUptoSaid : Prop := tapeBackUptoRow.holds Try.pinned (OpenSpec.upto tapeBackSpec)

/-- 'ententelaw01.TapeWrites', WHERE WHAT IT READS IS OF BULK AT MOST 1048576: true; the input reads as it did. -/
def tapeWritesUptoRow : OpenClaim := { program := "ytabadgpebhiigaa", sum := "5957904756b17e49eff4fff7d3b07ec61f5515b0aa36fcd2d270f710db4f1d3c", func := "entente/ententelaw01.TapeWrites", spec := "tapeWrites", unfollowed := true, recurses := true, apart := false, narrowed := true }
def TapeWritesUptoSaid : Prop := tapeWritesUptoRow.holds Try.pinned (OpenSpec.upto tapeWritesSpec)

end Rows
end Go.Proofs.Ytabadgpebhiigaa
