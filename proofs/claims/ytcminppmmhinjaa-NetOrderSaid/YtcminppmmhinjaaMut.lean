/- What a call may change: all but a footprint is as it was. -/
import Derived.Test.YtcminppmmhinjaaOwn
namespace Go.Proofs.Ytcminppmmhinjaa
set_option linter.unusedSimpArgs false
set_option linter.unusedVariables false
open Go Go.RowKit

/-- What is outside the footprint is as it was. -/
structure MutO (fp : Nat → Prop) (w w' : World) : Prop where
  os : w'.os = w.os
  tape : w'.tape = w.tape
  output : w'.output = w.output
  size : w.heap.size ≤ w'.heap.size
  drawn : w.drawn ≤ w'.drawn
  block : ∀ k, k < w.heap.size → ¬ fp k → w'.heap[k]? = w.heap[k]?
theorem MutO.refl (fp : Nat → Prop) (w : World) : MutO fp w w := ⟨rfl, rfl, rfl, Nat.le_refl _, Nat.le_refl _, fun _ _ _ => rfl⟩
theorem MutO.of_ext {fp : Nat → Prop} {w w' : World} (h : Ext w w') : MutO fp w w' := ⟨h.os, h.tape, h.output, h.size, h.drawn, fun k hk _ => Below.block h.bel k hk⟩
theorem MutO.ext {fp : Nat → Prop} {w0 w w' : World} (h : Ext w0 w) (hm : MutO fp w w') (hf : ∀ k, fp k → w0.heap.size ≤ k) : Ext w0 w' :=
  ⟨⟨hm.os.trans h.os, hm.tape.trans h.tape, hm.output.trans h.output, Nat.le_trans h.size hm.size, fun k hk =>
    (hm.block k (Nat.lt_of_lt_of_le hk h.size) (fun hk' => by have := hf k hk'; omega)).trans (Below.block h.bel k hk)⟩, Nat.le_trans h.drawn hm.drawn⟩
theorem MutO.trans {fp fp' : Nat → Prop} {a b c : World} (h : MutO fp a b) (k : MutO fp' b c) (hf : ∀ i, i < a.heap.size → fp' i → fp i) : MutO fp a c :=
  ⟨k.os.trans h.os, k.tape.trans h.tape, k.output.trans h.output, Nat.le_trans h.size k.size, Nat.le_trans h.drawn k.drawn, fun i hi hn =>
    (k.block i (Nat.lt_of_lt_of_le hi h.size) (fun hx => hn (hf i hi hx))).trans (h.block i hi hn)⟩
theorem MutO.mono {fp fp' : Nat → Prop} {a b : World} (h : MutO fp a b) (hf : ∀ i, fp i → fp' i) : MutO fp' a b := ⟨h.os, h.tape, h.output, h.size, h.drawn, fun i hi hn => h.block i hi (fun hx => hn (hf i hx))⟩
theorem MutO.set {fp : Nat → Prop} {a w : World} (h : MutO fp a w) {p : Addr} (hp : fp p.block) (u : Value) : MutO fp a (w.setCell p u) :=
  h.trans (fp' := fp) ⟨rfl, rfl, rfl, by simp [World.setCell], Nat.le_refl _, fun k _ hn => Below.heap_setCell _ _ _ _ (fun e => hn (e ▸ hp))⟩ (fun _ _ h => h)
theorem MutO.alloc {fp : Nat → Prop} {a w : World} (h : MutO fp a w) (o : Obj) : MutO fp a (w.alloc o) := h.trans (MutO.of_ext (Ext.new w o)) (fun _ _ h => h)
theorem MutO.drew {fp : Nat → Prop} {a w : World} (h : MutO fp a w) : MutO fp a w.drew := ⟨h.os, h.tape, h.output, h.size, Nat.le_trans h.drawn (Nat.le_succ _), h.block⟩
theorem MutO.grown {fp : Nat → Prop} {a w w' : World} {row : Option Nat} (h : MutO fp a w) (hg : GrownBy w w' row) (hr : ∀ k, row = some k → k < a.heap.size → fp k) : MutO fp a w' :=
  ⟨hg.os.trans h.os, hg.tape.trans h.tape, hg.output.trans h.output, Nat.le_trans h.size hg.size, Nat.le_trans h.drawn hg.drawn, fun k hk hn =>
    (hg.block k (Nat.lt_of_lt_of_le hk h.size) (fun e => hn (hr k e.symm hk))).trans (h.block k hk hn)⟩
end Go.Proofs.Ytcminppmmhinjaa
