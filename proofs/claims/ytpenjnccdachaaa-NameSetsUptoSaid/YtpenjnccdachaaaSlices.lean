/- Slicing a slice that reads as a list. -/
import Derived.Test.YtpenjnccdachaaaOwn
namespace Go.Proofs.Ytpenjnccdachaaa
set_option linter.unusedSimpArgs false
set_option linter.unusedVariables false
open Go Go.RowKit
theorem sliceBound_ok {P : Program} {w : World} (k : IntKind) (i : Int) (y : Nat) (code : BoundsCode) (h0 : 0 ≤ i) (h1 : i ≤ y) : (Instr.sliceBound (.int k i) y code).run P w = .ok i.toNat w := by
  simp [Instr.sliceBound, asIntOf, h0, h1, Sem.run_pure]
/-- s[k:] -/
theorem slice_low {P : Program} {w : World} {α : Type} {s : Nat} {R : World → Nat → Nat → α → Prop} {T e : TypeId} {a : Option Addr} {n c k : Nat} {xs : List α} (ht : P.underlying T = some (.slice e)) (hsz : ∀ w, (sizeOf e).run P w = .ok s w) (h : Arr s R w a n xs) (hk : k ≤ n) (hc : n ≤ c) :
    ∃ a', (Instr.slice T (.slice a n c) (some (.int .i64 (k : Int))) none none).run P w = .ok (.slice a' (n - k) (c - k)) w ∧ Arr s R w a' (n - k) (xs.drop k) ∧ ∀ ad, a' = some ad → ∃ ad0, a = some ad0 ∧ ad.block = ad0.block := by
  refine ⟨if c = k then a else a.map (·.add (k * s)), ?_, ?_, ?_⟩
  · unfold Instr.slice Instr.sliceBounds
    simp [run_underlying ht, sliceBound_ok _ _ _ _ (show (0 : Int) ≤ k by omega) (show (k : Int) ≤ (n : Int) by omega), hsz, Sem.run_pure, Result.andThen]
  · refine ⟨by simp [h.1], fun h0 => ?_⟩
    obtain ⟨b, off, rfl, hc'⟩ := h.2 (by omega)
    rw [if_neg (by omega)]
    refine ⟨b, off + k * s, by simp [addr_add], fun i x hi => ?_⟩
    rw [List.getElem?_drop] at hi
    have := hc' _ _ hi
    rw [Nat.add_mul, ← Nat.add_assoc] at this
    exact this
  · intro ad had
    split at had
    · exact ⟨ad, had, rfl⟩
    · cases a with
      | none => cases had
      | some a0 =>
        simp at had
        refine ⟨a0, rfl, ?_⟩
        rw [← had]
        unfold Addr.add
        split <;> rfl
/-- s[:k] -/
theorem slice_high {P : Program} {w : World} {α : Type} {s : Nat} {R : World → Nat → Nat → α → Prop} {T e : TypeId} {a : Option Addr} {n c k : Nat} {xs : List α} (ht : P.underlying T = some (.slice e)) (hsz : ∀ w, (sizeOf e).run P w = .ok s w) (h : Arr s R w a n xs) (hk : k ≤ n) (hc : n ≤ c) :
    (Instr.slice T (.slice a n c) none (some (.int .i64 (k : Int))) none).run P w = .ok (.slice a k c) w ∧ Arr s R w a k (xs.take k) := by
  constructor
  · unfold Instr.slice Instr.sliceBounds
    simp [run_underlying ht, sliceBound_ok _ _ _ _ (show (0 : Int) ≤ k by omega) (show (k : Int) ≤ (c : Int) by omega), hsz, Sem.run_pure, Result.andThen]
    intro _
    cases a with
    | none => rfl
    | some a0 => simp [Addr.add]
  · refine ⟨by have := h.1; simp; omega, fun h0 => ?_⟩
    obtain ⟨b, off, rfl, hc'⟩ := h.2 (by omega)
    refine ⟨b, off, rfl, fun i x hi => hc' i x ?_⟩
    rw [List.getElem?_take] at hi
    split at hi
    · exact hi
    · cases hi
end Go.Proofs.Ytpenjnccdachaaa
