/- A row that was made just now, as a piece of memory. -/
import Derived.Test.YtcminppmmhinjaaSepW
namespace Go.Proofs.Ytcminppmmhinjaa
set_option linter.unusedSimpArgs false
set_option linter.unusedVariables false
open Go Go.RowKit
theorem ownsRow_base {w : World} {b0 b1 : Nat} {E : TypeId} {k n : Nat} {v : Value} {xs : List Value} (h : w.ownsRow b1 E k v n xs) (hb : b0 ≤ b1) : w.ownsRow b0 E k v n xs := by
  refine ⟨h.1, h.2.imp id ?_⟩
  rintro ⟨g, cap, cur, hv, hg, r⟩
  exact ⟨g, cap, cur, hv, by omega, r⟩
section
variable {fr al : Nat → Prop} {w0 w w' : World} {L : List It}
theorem Own.newRow (st : Own fr al w0 L w) (hx : Ext w w') {E : TypeId} {k n : Nat} {v : Value} {xs : List Value} (h : w'.ownsRow w.heap.size E k v n xs) : Own fr al w0 (L ++ [rowI E k v n xs]) w' :=
  st.new hx (e' := fun q => v.ownBlock = some q) (s' := fun _ => False) ⟨ownsRow_base h (Nat.zero_le _), fun q hq => hq⟩ (fun q hq => ⟨(h.lt q hq).2, (h.lt q hq).1⟩) (fun _ q => q.elim) (fun _ _ q => q)
end
end Go.Proofs.Ytcminppmmhinjaa
