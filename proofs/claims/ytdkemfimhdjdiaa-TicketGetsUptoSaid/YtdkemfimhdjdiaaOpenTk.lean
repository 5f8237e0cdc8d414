/- A ticket that came in. -/
import Derived.Test.YtdkemfimhdjdiaaOpenTick
namespace Go.Proofs.Ytdkemfimhdjdiaa
set_option linter.unusedSimpArgs false
set_option linter.unusedVariables false
open Go Go.RowKit Go.ChangeShapes Go.WideShapes Go.ChangeAt
def tickW (x : TickT) : Nat := x.o.length + x.cl.length + x.n
section
variable {H : Type} {enc : TypeId × Value → H} {w : World} {base : Nat} {held : Bool}
theorem trod_tickW {fuel : Nat} {cs : List Value} {x : DataW H × List MemPlace} (h : DataW.trod enc Try.prog w base (fun _ => true) held fuel 66 cs = some x) : ∃ y : TickT, cs = Flt.cells y ∧ tickW y ≤ Rows.uptoBulk x.1 ∧ TOk w y := by
  obtain ⟨y, h1, h2, h3⟩ := trod_tick h
  exact ⟨y, h1, by unfold tickW; omega, h3⟩
end
end Go.Proofs.Ytdkemfimhdjdiaa
