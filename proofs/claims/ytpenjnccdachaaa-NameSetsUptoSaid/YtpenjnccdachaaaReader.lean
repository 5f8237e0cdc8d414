/- The reader: what its methods read, and how they fail. -/
import Derived.Test.YtpenjnccdachaaaPen
import Derived.Test.YtpenjnccdachaaaSlices
namespace Go.Proofs.Ytpenjnccdachaaa
set_option linter.unusedSimpArgs false
set_option linter.unusedVariables false
open Go Go.RowKit
/-- The reader at block r, not over, has xs left. -/
def RdAt (z : Nat → Prop) (w : World) (r : Nat) (xs : List UInt8) : Prop := ∃ a n c, Blk w r [.slice a n c, .bool false] ∧ By w a n xs ∧ (n ≤ c ∧ c ≤ maxLen) ∧ ∀ ad, a = some ad → ad.block ≠ r ∧ z ad.block
/-- The reader at block r, not over, whatever is left. -/
theorem Blk.mut {fp : Nat → Prop} {w w' : World} {b : Nat} {vs : List Value} (h : Blk w b vs) (hm : MutO fp w w') (hb : ¬ fp b) : Blk w' b vs := let ⟨ty, e⟩ := h; ⟨ty, by rw [hm.block b h.lt hb]; exact e⟩
def RdAny (w : World) (r : Nat) : Prop := ∃ a n c, Blk w r [.slice a n c, .bool false]
/-- It is over. -/
def RdOver (w : World) (r : Nat) : Prop := ∃ a n c, Blk w r [.slice a n c, .bool true]
theorem RdAt.mono {z z' : Nat → Prop} {w : World} {r : Nat} {xs : List UInt8} (h : RdAt z w r xs) (hz : ∀ k, z k → z' k) : RdAt z' w r xs :=
  let ⟨a, n, c, h1, h2, h3, h4⟩ := h; ⟨a, n, c, h1, h2, h3, fun ad had => ⟨(h4 ad had).1, hz _ (h4 ad had).2⟩⟩
theorem RdAt.any {z : Nat → Prop} {w : World} {r : Nat} {xs : List UInt8} (h : RdAt z w r xs) : RdAny w r := let ⟨a, n, c, h1, _⟩ := h; ⟨a, n, c, h1⟩
theorem RdAt.mut {z : Nat → Prop} {fp : Nat → Prop} {w w' : World} {r : Nat} {xs : List UInt8} (h : RdAt z w r xs) (hm : MutO fp w w') (hr : ¬ fp r) (hz : ∀ k, fp k → ¬ z k) : RdAt z w' r xs := by
  obtain ⟨a, n, c, hb, hy, hc, hk⟩ := h
  exact ⟨a, n, c, hb.mut hm hr, By.mut hy hm fun _ ad had hx => hz _ hx (hk ad had).2, hc, hk⟩
theorem RdAny.mut {fp : Nat → Prop} {w w' : World} {r : Nat} (h : RdAny w r) (hm : MutO fp w w') (hr : ¬ fp r) : RdAny w' r := let ⟨a, n, c, hb⟩ := h; ⟨a, n, c, hb.mut hm hr⟩
theorem RdOver.mut {fp : Nat → Prop} {w w' : World} {r : Nat} (h : RdOver w r) (hm : MutO fp w w') (hr : ¬ fp r) : RdOver w' r := let ⟨a, n, c, hb⟩ := h; ⟨a, n, c, hb.mut hm hr⟩
def rdFp (r : Nat) : Nat → Prop := fun k => k = r
/-- A failure with e. -/
def failV (r : Nat) (e : Int) : Value := .iface 161 (.agg #[.pointer (some ⟨r, 0, none⟩), .int .i64 e])
def Failed (r : Nat) (e : Int) (w : World) : Ending → World → Prop := fun en w' => en = .panicked [{ v := failV r e, recovered := false }] ∧ RdAny w' r ∧ MutO (rdFp r) w w'
/-- What a reading method comes to. -/
def RdOut {α : Type} (z : Nat → Prop) (r : Nat) (w : World) (res : Except Int (α × List UInt8)) (ok : α → Value → World → Prop) : Ending → World → Prop := fun en w' =>
  match res with
  | .error e => Failed r e w en w'
  | .ok (a, ys) => ∃ v, en = .returned v ∧ ok a v w' ∧ RdAt z w' r ys ∧ MutO (rdFp r) w w'

theorem off_over (w : World) (r : Nat) (h : RdOver w r) : Calls Try.prog 141 #[.pointer (some ⟨r, 0, none⟩)] w fun e w' => e = .returned (.bool true) ∧ w = w' := by
  obtain ⟨a, n, c, hb⟩ := h
  have h1 := hb.cell 1
  clear hb
  go_enter Try.func141, Try.ntmps141
  go_wp2
  go_ret
  exact ⟨rfl, rfl⟩
theorem off_nil (w : World) : Calls Try.prog 141 #[.pointer none] w fun e w' => e = .returned (.bool true) ∧ w = w' := by
  go_enter Try.func141, Try.ntmps141
  go_wp2
  go_ret
  exact ⟨rfl, rfl⟩
theorem off_no (w : World) (r : Nat) (h : RdAny w r) : Calls Try.prog 141 #[.pointer (some ⟨r, 0, none⟩)] w fun e w' => e = .returned (.bool false) ∧ w = w' := by
  obtain ⟨a, n, c, hb⟩ := h
  have h1 := hb.cell 1
  clear hb
  go_enter Try.func141, Try.ntmps141
  go_wp2
  go_ret
  exact ⟨rfl, rfl⟩
theorem fail_any (w : World) (r : Nat) (e : Int) (h : RdAny w r) (he : e ≠ 0) : Calls Try.prog 98 #[.pointer (some ⟨r, 0, none⟩), .int .i64 e] w fun en w' => en = .panicked [{ v := failV r e, recovered := false }] ∧ w = w' := by
  obtain ⟨a, n, c, hb⟩ := h
  have h1 := hb.cell 1
  clear hb
  unfold failV
  go_enter Try.func98, Try.ntmps98
  go_wp2
  exact ⟨rfl, rfl, rfl⟩
theorem fail_off (w : World) (a : Option Addr) (e : Int) (h : a = none ∨ e = 0 ∨ ∃ r, a = some ⟨r, 0, none⟩ ∧ RdOver w r) (hs : ∀ ad, a = some ad → e = 0 → ∃ r, ad = ⟨r, 0, none⟩ ∧ (RdAny w r ∨ RdOver w r)) :
    Calls Try.prog 98 #[.pointer a, .int .i64 e] w fun en w' => en = .returned (.tuple #[]) ∧ w = w' := by
  cases a with
  | none =>
    go_enter Try.func98, Try.ntmps98
    go_wp2
    go_end0
    exact ⟨rfl, rfl⟩
  | some ad =>
    by_cases he : e = 0
    · obtain ⟨r, rfl, h | h⟩ := hs ad rfl he
      · obtain ⟨a, n, c, hb⟩ := h
        have h1 := hb.cell 1
        clear hb
        subst he
        go_enter Try.func98, Try.ntmps98
        go_wp2
        go_end0
        exact ⟨rfl, rfl⟩
      · obtain ⟨a, n, c, hb⟩ := h
        have h1 := hb.cell 1
        clear hb
        subst he
        go_enter Try.func98, Try.ntmps98
        go_wp2
        go_end0
        exact ⟨rfl, rfl⟩
    · obtain ⟨r, h2, a, n, c, hb⟩ : ∃ r, some ad = some ⟨r, 0, none⟩ ∧ RdOver w r := by
        rcases h with h | h | h
        · cases h
        · exact absurd h he
        · exact h
      injection h2 with h2
      subst h2
      have h1 := hb.cell 1
      clear hb
      go_enter Try.func98, Try.ntmps98
      go_wp2
      go_end0
      exact ⟨rfl, rfl⟩
end Go.Proofs.Ytpenjnccdachaaa
