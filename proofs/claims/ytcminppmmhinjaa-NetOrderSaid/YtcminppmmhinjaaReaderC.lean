/- Slicing a slice that reads as a list. -/
import Derived.Test.YtcminppmmhinjaaOwn
import Derived.Test.YtcminppmmhinjaaPen
namespace Go.Proofs.Ytcminppmmhinjaa
set_option linter.unusedSimpArgs false
set_option linter.unusedVariables false
open Go Go.RowKit
theorem sliceBound_ok {P : Program} {w : World} (k : IntKind) (i : Int) (y : Nat) (code : BoundsCode) (h0 : 0 ≤ i) (h1 : i ≤ y) : (Instr.sliceBound (.int k i) y code).run P w = .ok i.toNat w := by
  simp [Instr.sliceBound, asIntOf, h0, h1, Sem.run_pure]
/-- s[k:] -/
theorem slice_low {P : Program} {w : World} {α : Type} {s : Nat} {R : World → Nat → Nat → α → Prop} {T e : TypeId} {a : Option Addr} {n c k : Nat} {xs : List α} (ht : P.underlying T = some (.slice e)) (hsz : ∀ w, (sizeOf e).run P w = .ok s w) (h : Arr s R w a n xs) (hk : k ≤ n) (hc : n ≤ c) :
    ∃ a', (Instr.slice T (.slice a n c) (some (.int .i64 (k : Int))) none none).run P w = .ok (.slice a' (n - k) (c - k)) w ∧ Arr s R w a' (n - k) (xs.drop k) ∧ ∀ ad, a' = some ad → ∃ ad0, a = some ad0 ∧ ad.block = ad0.block := by
  refine ⟨if c = k then a else a.map (·.add (k * s)), ?_, ?_, ?_⟩
  · unfold Instr.slice Instr.sliceBounds
    simp [run_underlying ht, sliceBound_ok _ _ _ _ (show (0 : Int) ≤ k by omega) (show (k : Int) ≤ (n : Int) by omega), hsz, Sem.run_pure, Result.andThen]
  · refine ⟨by simp [h.1], fun h0 => ?_⟩
    obtain ⟨b, off, rfl, hc'⟩ := h.2 (by omega)
    rw [if_neg (by omega)]
    refine ⟨b, off + k * s, by simp [addr_add], fun i x hi => ?_⟩
    rw [List.getElem?_drop] at hi
    have := hc' _ _ hi
    rw [Nat.add_mul, ← Nat.add_assoc] at this
    exact this
  · intro ad had
    split at had
    · exact ⟨ad, had, rfl⟩
    · cases a with
      | none => cases had
      | some a0 =>
        simp at had
        refine ⟨a0, rfl, ?_⟩
        rw [← had]
        unfold Addr.add
        split <;> rfl
/-- s[:k] -/
theorem slice_high {P : Program} {w : World} {α : Type} {s : Nat} {R : World → Nat → Nat → α → Prop} {T e : TypeId} {a : Option Addr} {n c k : Nat} {xs : List α} (ht : P.underlying T = some (.slice e)) (hsz : ∀ w, (sizeOf e).run P w = .ok s w) (h : Arr s R w a n xs) (hk : k ≤ n) (hc : n ≤ c) :
    (Instr.slice T (.slice a n c) none (some (.int .i64 (k : Int))) none).run P w = .ok (.slice a k c) w ∧ Arr s R w a k (xs.take k) := by
  constructor
  · unfold Instr.slice Instr.sliceBounds
    simp [run_underlying ht, sliceBound_ok _ _ _ _ (show (0 : Int) ≤ k by omega) (show (k : Int) ≤ (c : Int) by omega), hsz, Sem.run_pure, Result.andThen]
    intro _
    cases a with
    | none => rfl
    | some a0 => simp [Addr.add]
  · refine ⟨by have := h.1; simp; omega, fun h0 => ?_⟩
    obtain ⟨b, off, rfl, hc'⟩ := h.2 (by omega)
    refine ⟨b, off, rfl, fun i x hi => hc' i x ?_⟩
    rw [List.getElem?_take] at hi
    split at hi
    · exact hi
    · cases hi
end Go.Proofs.Ytcminppmmhinjaa

namespace Go.Proofs.Ytcminppmmhinjaa
set_option linter.unusedSimpArgs false
set_option linter.unusedVariables false
open Go Go.RowKit
/-- The reader at block r, not over, has xs left. -/
def RdAt (z : Nat → Prop) (w : World) (r : Nat) (xs : List UInt8) : Prop := ∃ a n c, Blk w r [.slice a n c, .bool false] ∧ By w a n xs ∧ (n ≤ c ∧ c ≤ maxLen) ∧ ∀ ad, a = some ad → ad.block ≠ r ∧ z ad.block
/-- The reader at block r, not over, whatever is left. -/
theorem Blk.mut {fp : Nat → Prop} {w w' : World} {b : Nat} {vs : List Value} (h : Blk w b vs) (hm : MutO fp w w') (hb : ¬ fp b) : Blk w' b vs := let ⟨ty, e⟩ := h; ⟨ty, by rw [hm.block b h.lt hb]; exact e⟩
def RdAny (w : World) (r : Nat) : Prop := ∃ a n c, Blk w r [.slice a n c, .bool false]
/-- It is over. -/
def RdOver (w : World) (r : Nat) : Prop := ∃ a n c, Blk w r [.slice a n c, .bool true]
theorem RdAt.mono {z z' : Nat → Prop} {w : World} {r : Nat} {xs : List UInt8} (h : RdAt z w r xs) (hz : ∀ k, z k → z' k) : RdAt z' w r xs :=
  let ⟨a, n, c, h1, h2, h3, h4⟩ := h; ⟨a, n, c, h1, h2, h3, fun ad had => ⟨(h4 ad had).1, hz _ (h4 ad had).2⟩⟩
theorem RdAt.any {z : Nat → Prop} {w : World} {r : Nat} {xs : List UInt8} (h : RdAt z w r xs) : RdAny w r := let ⟨a, n, c, h1, _⟩ := h; ⟨a, n, c, h1⟩
theorem RdAt.mut {z : Nat → Prop} {fp : Nat → Prop} {w w' : World} {r : Nat} {xs : List UInt8} (h : RdAt z w r xs) (hm : MutO fp w w') (hr : ¬ fp r) (hz : ∀ k, fp k → ¬ z k) : RdAt z w' r xs := by
  obtain ⟨a, n, c, hb, hy, hc, hk⟩ := h
  exact ⟨a, n, c, hb.mut hm hr, By.mut hy hm fun _ ad had hx => hz _ hx (hk ad had).2, hc, hk⟩
theorem RdAny.mut {fp : Nat → Prop} {w w' : World} {r : Nat} (h : RdAny w r) (hm : MutO fp w w') (hr : ¬ fp r) : RdAny w' r := let ⟨a, n, c, hb⟩ := h; ⟨a, n, c, hb.mut hm hr⟩
theorem RdOver.mut {fp : Nat → Prop} {w w' : World} {r : Nat} (h : RdOver w r) (hm : MutO fp w w') (hr : ¬ fp r) : RdOver w' r := let ⟨a, n, c, hb⟩ := h; ⟨a, n, c, hb.mut hm hr⟩
def rdFp (r : Nat) : Nat → Prop := fun k => k = r
/-- A failure with e. -/
def failV (r : Nat) (e : Int) : Value := .iface 239 (.agg #[.pointer (some ⟨r, 0, none⟩), .int .i64 e])
def Failed (r : Nat) (e : Int) (w : World) : Ending → World → Prop := fun en w' => en = .panicked [{ v := failV r e, recovered := false }] ∧ RdAny w' r ∧ MutO (rdFp r) w w'
/-- What a reading method comes to. -/
def RdOut {α : Type} (z : Nat → Prop) (r : Nat) (w : World) (res : Except Int (α × List UInt8)) (ok : α → Value → World → Prop) : Ending → World → Prop := fun en w' =>
  match res with
  | .error e => Failed r e w en w'
  | .ok (a, ys) => ∃ v, en = .returned v ∧ ok a v w' ∧ RdAt z w' r ys ∧ MutO (rdFp r) w w'

theorem off_over (w : World) (r : Nat) (h : RdOver w r) : Calls Try.prog 184 #[.pointer (some ⟨r, 0, none⟩)] w fun e w' => e = .returned (.bool true) ∧ w = w' := by
  obtain ⟨a, n, c, hb⟩ := h
  have h1 := hb.cell 1
  clear hb
  go_enter Try.func184, Try.ntmps184
  go_wp2
  go_ret
  exact ⟨rfl, rfl⟩
theorem off_nil (w : World) : Calls Try.prog 184 #[.pointer none] w fun e w' => e = .returned (.bool true) ∧ w = w' := by
  go_enter Try.func184, Try.ntmps184
  go_wp2
  go_ret
  exact ⟨rfl, rfl⟩
theorem off_no (w : World) (r : Nat) (h : RdAny w r) : Calls Try.prog 184 #[.pointer (some ⟨r, 0, none⟩)] w fun e w' => e = .returned (.bool false) ∧ w = w' := by
  obtain ⟨a, n, c, hb⟩ := h
  have h1 := hb.cell 1
  clear hb
  go_enter Try.func184, Try.ntmps184
  go_wp2
  go_ret
  exact ⟨rfl, rfl⟩
theorem fail_any (w : World) (r : Nat) (e : Int) (h : RdAny w r) (he : e ≠ 0) : Calls Try.prog 186 #[.pointer (some ⟨r, 0, none⟩), .int .i64 e] w fun en w' => en = .panicked [{ v := failV r e, recovered := false }] ∧ w = w' := by
  obtain ⟨a, n, c, hb⟩ := h
  have h1 := hb.cell 1
  clear hb
  unfold failV
  go_enter Try.func186, Try.ntmps186
  go_wp2
  exact ⟨rfl, rfl, rfl⟩
theorem fail_off (w : World) (a : Option Addr) (e : Int) (h : a = none ∨ e = 0 ∨ ∃ r, a = some ⟨r, 0, none⟩ ∧ RdOver w r) (hs : ∀ ad, a = some ad → e = 0 → ∃ r, ad = ⟨r, 0, none⟩ ∧ (RdAny w r ∨ RdOver w r)) :
    Calls Try.prog 186 #[.pointer a, .int .i64 e] w fun en w' => en = .returned (.tuple #[]) ∧ w = w' := by
  cases a with
  | none =>
    go_enter Try.func186, Try.ntmps186
    go_wp2
    go_end0
    exact ⟨rfl, rfl⟩
  | some ad =>
    by_cases he : e = 0
    · obtain ⟨r, rfl, h | h⟩ := hs ad rfl he
      · obtain ⟨a, n, c, hb⟩ := h
        have h1 := hb.cell 1
        clear hb
        subst he
        go_enter Try.func186, Try.ntmps186
        go_wp2
        go_end0
        exact ⟨rfl, rfl⟩
      · obtain ⟨a, n, c, hb⟩ := h
        have h1 := hb.cell 1
        clear hb
        subst he
        go_enter Try.func186, Try.ntmps186
        go_wp2
        go_end0
        exact ⟨rfl, rfl⟩
    · obtain ⟨r, h2, a, n, c, hb⟩ : ∃ r, some ad = some ⟨r, 0, none⟩ ∧ RdOver w r := by
        rcases h with h | h | h
        · cases h
        · exact absurd h he
        · exact h
      injection h2 with h2
      subst h2
      have h1 := hb.cell 1
      clear hb
      go_enter Try.func186, Try.ntmps186
      go_wp2
      go_end0
      exact ⟨rfl, rfl⟩
end Go.Proofs.Ytcminppmmhinjaa

namespace Go.Proofs.Ytcminppmmhinjaa
set_option linter.unusedSimpArgs false
set_option linter.unusedVariables false
open Go Go.RowKit
def rdNext (i : Nat) (xs : List UInt8) : Except Int (UInt8 × List UInt8) :=
  if i = 9 then .error 11 else match xs with
  | [] => .error 10
  | c :: ys => if c = 0 ∧ 0 < i then .error 11 else .ok (c, ys)
def rdNumF : Nat → Nat → Nat → List UInt8 → Except Int (Nat × List UInt8)
  | 0, _, _, _ => .error 11
  | f + 1, i, acc, xs => match rdNext i xs with
    | .error e => .error e
    | .ok (c, ys) => if c.toNat < 128 then .ok (acc + c.toNat % 128 * 128 ^ i, ys) else rdNumF f (i + 1) (acc + c.toNat % 128 * 128 ^ i) ys
def rdNum (xs : List UInt8) : Except Int (Nat × List UInt8) := rdNumF 10 0 0 xs
def rdNumber (most : Int) (xs : List UInt8) : Except Int (Nat × List UInt8) := match rdNum xs with
  | .error e => .error e
  | .ok (n, ys) => if most < n then .error 12 else .ok (n, ys)

theorem Failed.step {r : Nat} {e : Int} {w w1 w' : World} {en : Ending} (h : Failed r e w1 en w') (hm : MutO (rdFp r) w w1) : Failed r e w en w' := ⟨h.1, h.2.1, hm.trans h.2.2 fun _ _ h => h⟩
theorem size_u8 (w : World) : (sizeOf 5).run Try.prog w = .ok 1 w := by kernel_rfl

set_option maxRecDepth 100000 in
set_option maxHeartbeats 1000000 in
theorem next_any {z : Nat → Prop} (w : World) (r : Nat) (xs : List UInt8) (i : Nat) (hi : i ≤ 9) (h : RdAt z w r xs) :
    Calls Try.prog 185 #[.pointer (some ⟨r, 0, none⟩), .int .i64 (i : Int)] w (RdOut z r w (rdNext i xs) fun c v w' => v = B c) := by
  have ha := Lib.hid h.any
  obtain ⟨a, n, c, hb, hy, hc, hr⟩ := h
  have h0 := hb.cell 0
  have f0 := hb.free 0
  by_cases h9 : i = 9
  · subst h9
    have hout : rdNext 9 xs = .error 11 := by simp [rdNext]
    rw [hout]
    have HB := Lib.hid hb; clear hb hout hy
    go_enter Try.func185, Try.ntmps185
    go_wp2_with fail
    refine (fail_any _ r 11 ha.out (by decide)).mono ?_
    rintro e w' ⟨rfl, rfl⟩
    exact ⟨rfl, rfl, ha.out, MutO.refl _ _⟩
  · have hi8 : i < 9 := by omega
    cases xs with
    | nil =>
      have hout : rdNext i [] = .error 10 := by simp [rdNext, h9]
      rw [hout]
      have hn : n = 0 := hy.1
      subst hn
      have HB := Lib.hid hb; clear hb hout hy
      go_enter Try.func185, Try.ntmps185
      go_wp2_with fail
      refine (fail_any _ r 10 ha.out (by decide)).mono ?_
      rintro e w' ⟨rfl, rfl⟩
      exact ⟨rfl, rfl, ha.out, MutO.refl _ _⟩
    | cons x ys =>
      have hn : 0 < n := by have := hy.1; simp at this; omega
      obtain ⟨b, off, rfl, hcell, _, hx⟩ := By.at hy hn
      have hx0 : w.cell? ⟨b, off, none⟩ = some (.int .u8 (x.toNat : Int)) := by simpa using hx
      obtain ⟨a', hrun, hy', hblk⟩ := slice_low (P := Try.prog) (w := w) (k := 1) Try.underlying30 size_u8 hy (by omega) hc.1
      have hbr : b ≠ r := (hr _ rfl).1
      have HY : Hid (By w a' (n - 1) ys) := Lib.hid (by simpa using hy')
      have HBK : Hid (∀ ad, a' = some ad → ad.block ≠ r ∧ z ad.block) := Lib.hid (fun ad had => by obtain ⟨ad0, h1, h2⟩ := hblk ad had; rw [h2]; exact hr _ h1)
      have hrun' : (Instr.slice 30 (.slice (some ⟨b, off, none⟩) n c) (some (.int .i64 1)) none none).run Try.prog w = .ok (.slice a' (n - 1) (c - 1)) w := hrun
      have HC := Lib.hid hc
      have HB := Lib.hid hb
      clear hcell hx hy hy' hblk hrun hr hb hc
      have hn1 : (1 : Int) ≤ n := by omega
      -- the reader behind the step
      have hafter : ∀ W, W = w.setCell ⟨r, 0, none⟩ (.slice a' (n - 1) (c - 1)) → RdAt z W r ys ∧ MutO (rdFp r) w W := fun W hW => by
        subst hW
        have hm : MutO (rdFp r) w (w.setCell ⟨r, 0, none⟩ (.slice a' (n - 1) (c - 1))) := MutO.set (fp := rdFp r) (p := ⟨r, 0, none⟩) (MutO.refl _ _) rfl _
        refine ⟨⟨a', n - 1, c - 1, by have := HB.out.set 0 (.slice a' (n - 1) (c - 1)); simpa using this, By.mut HY.out hm fun _ ad had => (HBK.out ad had).1, ⟨by have := HC.out; omega, by have := HC.out; omega⟩, HBK.out⟩, hm⟩
      have HA := Lib.hid hafter; clear hafter
      by_cases hz : x = 0 ∧ 0 < i
      · have hout : rdNext i (x :: ys) = .error 11 := by simp [rdNext, h9, hz]
        rw [hout]
        obtain ⟨rfl, hi0⟩ := hz
        clear hout
        go_enter Try.func185, Try.ntmps185
        go_wp2_with fail
        refine (fail_any _ r 11 (HA.out _ rfl).1.any (by decide)).mono ?_
        rintro e w' ⟨rfl, rfl⟩
        exact ⟨rfl, rfl, (HA.out _ rfl).1.any, (HA.out _ rfl).2⟩
      · have hout : rdNext i (x :: ys) = .ok (x, ys) := by simp [rdNext, h9, hz]
        rw [hout]
        clear hout
        by_cases hx0' : x = 0
        · subst hx0'
          have hi0 : i = 0 := by
            rcases Nat.eq_zero_or_pos i with h | h
            · exact h
            · exact absurd ⟨rfl, h⟩ hz
          subst hi0
          go_enter Try.func185, Try.ntmps185
          go_wp2
          go_ret
          exact ⟨_, rfl, rfl, (HA.out _ rfl).1, (HA.out _ rfl).2⟩
        · have hxn : 0 < x.toNat := by
            rcases Nat.eq_zero_or_pos x.toNat with h | h
            · exact absurd (UInt8.toNat.inj (by simpa using h)) hx0'
            · exact h
          go_enter Try.func185, Try.ntmps185
          go_wp2
          go_ret
          exact ⟨_, rfl, rfl, (HA.out _ rfl).1, (HA.out _ rfl).2⟩
theorem rdNext_cases (i : Nat) (xs : List UInt8) : (∃ e, rdNext i xs = .error e) ∨ ∃ c ys, rdNext i xs = .ok (c, ys) := by
  cases h : rdNext i xs with
  | error e => exact .inl ⟨e, rfl⟩
  | ok p => exact .inr ⟨p.1, p.2, rfl⟩
theorem or_add (a d i : Nat) (h : a < 128 ^ i) : a ||| (d * 128 ^ i) = a + d * 128 ^ i := by
  have e : (128 : Nat) ^ i = 2 ^ (7 * i) := by rw [Nat.pow_mul]
  rw [e] at h ⊢
  rw [Nat.or_comm, Nat.mul_comm d, ← Nat.two_pow_add_eq_or_of_lt h, Nat.add_comm]
theorem i64_or_nat (a b : Nat) (ha : a < 9223372036854775808) (hb : b < 9223372036854775808) : bits .or .i64 (a : Int) (b : Int) = ((a ||| b : Nat) : Int) := by
  refine (bits_nat .i64 63 (by decide) (fun n h0 h1 => IntWalk.i64_in n ⟨by omega, ?_⟩) a b ha hb).2
  have : (2 : Int) ^ 63 = 9223372036854775808 := by decide
  omega
theorem u8_and_127 (c : UInt8) : bits .and .u8 (c.toNat : Int) 127 = ((c.toNat % 128 : Nat) : Int) := by
  have h := (bits_nat .u8 8 (by decide) (fun n h0 h1 => wraps_u8 n h0 h1) c.toNat 127 c.toNat_lt (by decide)).1
  rw [show ((127 : Nat) : Int) = 127 by rfl] at h
  rw [h, show (127 : Nat) = 2 ^ 7 - 1 by rfl, Nat.and_two_pow_sub_one_eq_mod]
theorem pow128 (i : Nat) : (2 : Int) ^ (7 * i) = ((128 ^ i : Nat) : Int) := by
  rw [Int.pow_mul]; simp
theorem pow128_le (i : Nat) (h : i ≤ 8) : 128 ^ (i + 1) ≤ 9223372036854775808 := by
  have : (128 : Nat) ^ 9 = 9223372036854775808 := by decide
  rw [← this]
  exact Nat.pow_le_pow_right (by decide) (by omega)
theorem step_val (acc j : Nat) (c : UInt8) (hj : j ≤ 8) (ha : acc < 128 ^ j) :
    bits .or .i64 (acc : Int) (wrap64 (wrap64 (bits .and .u8 (c.toNat : Int) 127) * 2 ^ (7 * j))) = ((acc + c.toNat % 128 * 128 ^ j : Nat) : Int) := by
  have hp := pow128_le j hj
  have hd : c.toNat % 128 < 128 := Nat.mod_lt _ (by decide)
  have h1 : c.toNat % 128 * 128 ^ j < 9223372036854775808 := by
    have : c.toNat % 128 * 128 ^ j < 128 * 128 ^ j := Nat.mul_lt_mul_of_pos_right hd (Nat.pow_pos (by decide))
    rw [Nat.pow_succ, Nat.mul_comm] at hp
    omega
  have h2 : acc < 9223372036854775808 := by
    have : 128 ^ j ≤ 128 ^ (j + 1) := Nat.pow_le_pow_right (by decide) (by omega)
    omega
  rw [u8_and_127, IntWalk.wrap64_in ((c.toNat % 128 : Nat) : Int) ⟨by omega, by omega⟩, pow128, ← Int.natCast_mul, IntWalk.wrap64_in ((c.toNat % 128 * 128 ^ j : Nat) : Int) ⟨by omega, by omega⟩, i64_or_nat _ _ h2 h1, or_add _ _ _ ha]
theorem acc_lt (acc j d : Nat) (ha : acc < 128 ^ j) (hd : d < 128) : acc + d * 128 ^ j < 128 ^ (j + 1) := by
  have : d * 128 ^ j ≤ 127 * 128 ^ j := Nat.mul_le_mul_right _ (by omega)
  rw [Nat.pow_succ]
  omega
theorem RdOut.err {α : Type} {z : Nat → Prop} {r : Nat} {w : World} {res : Except Int (α × List UInt8)} {ok : α → Value → World → Prop} {e : Int} {en : Ending} {w' : World} (hE : res = .error e) (h : Failed r e w en w') : RdOut z r w res ok en w' := by
  subst hE; exact h
theorem RdOut.ok {α : Type} {z : Nat → Prop} {r : Nat} {w : World} {res : Except Int (α × List UInt8)} {ok : α → Value → World → Prop} {a : α} {ys : List UInt8} {en : Ending} {w' : World} (hE : res = .ok (a, ys))
    (h : ∃ v, en = .returned v ∧ ok a v w' ∧ RdAt z w' r ys ∧ MutO (rdFp r) w w') : RdOut z r w res ok en w' := by
  subst hE; exact h
set_option maxRecDepth 100000 in
set_option maxHeartbeats 1000000 in
theorem number_any {z : Nat → Prop} (w : World) (r : Nat) (xs : List UInt8) (most : Int) (h : RdAt z w r xs) :
    Calls Try.prog 141 #[.pointer (some ⟨r, 0, none⟩), .int .i64 most] w (RdOut z r w (rdNumber most xs) fun n v w' => v = .int .i64 (n : Int)) := by
  have H := Lib.hid h; clear h
  go_enter Try.func141, Try.ntmps141
  go_wp2_with fail
  refine (off_no _ _ H.out.any).mono ?_
  rintro e w' ⟨rfl, rfl⟩
  go_wp2_with fail
  go_loopw [5, 6] (fun a i wr => ∃ (j acc : Nat) (ys : List UInt8), j ≤ 9 ∧ i = .int .i64 (j : Int) ∧ a = .int .i64 (acc : Int) ∧ acc < 128 ^ j ∧ rdNum xs = rdNumF (10 - j) j acc ys ∧ RdAt z wr r ys ∧ MutO (rdFp r) w wr) (fun _ i _ => 10 - (intOf i).toNat)
  case atStart => exact ⟨0, 0, xs, by omega, rfl, rfl, by simp, rfl, H.out, MutO.refl _ _⟩
  case round =>
    obtain ⟨j, acc, ys, hj, rfl, rfl, hacc, hnum, hrd, hm⟩ := hrel
    have HN := Lib.hid hnum; clear hnum
    have HR := Lib.hid hrd; clear hrd
    have HM := Lib.hid hm; clear hm
    have HA := Lib.hid hacc; clear hacc
    go_wp2_with fail
    refine (next_any _ r ys j hj HR.out).mono ?_
    intro e w1 h1
    rcases rdNext_cases j ys with ⟨er, her⟩ | ⟨c, zs, hok⟩
    · rw [her] at h1
      obtain ⟨rfl, hany, hm1⟩ := h1
      have hE : rdNumber most xs = .error er := by
        unfold rdNumber
        rw [HN.out, show 10 - j = (9 - j) + 1 by omega, rdNumF, her]
      exact ⟨rfl, RdOut.err hE ⟨rfl, hany, HM.out.trans hm1 fun _ _ h => h⟩⟩
    · rw [hok] at h1
      obtain ⟨v, rfl, rfl, hrd1, hm1⟩ := h1
      have hj8 : j ≤ 8 := by
        rcases Nat.lt_or_ge j 9 with h | h
        · omega
        · obtain rfl : j = 9 := by omega
          simp [rdNext] at hok
      unfold B
      have hval := step_val acc j c hj8 HA.out
      have hN : rdNum xs = if c.toNat < 128 then .ok (acc + c.toNat % 128 * 128 ^ j, zs) else rdNumF (10 - (j + 1)) (j + 1) (acc + c.toNat % 128 * 128 ^ j) zs := by
        rw [HN.out, show 10 - j = (9 - j) + 1 by omega, rdNumF, hok, show 10 - (j + 1) = 9 - j by omega]
      obtain ⟨acc', hacc'⟩ : ∃ x, acc + c.toNat % 128 * 128 ^ j = x := ⟨_, rfl⟩
      rw [hacc'] at hval hN
      have HL : Hid (acc' < 128 ^ (j + 1)) := Lib.hid (by rw [← hacc']; exact acc_lt _ _ _ HA.out (Nat.mod_lt _ (by decide)))
      have HN' := Lib.hid hN
      have HR1 := Lib.hid hrd1
      have HM1 : Hid (MutO (rdFp r) w w1) := Lib.hid (HM.out.trans hm1 fun _ _ h => h)
      have hacc63 : acc' < 9223372036854775808 := Nat.lt_of_lt_of_le HL.out (pow128_le j hj8)
      clear hN hrd1 hm1 hacc' hok HN HR HM HA
      by_cases hc : c.toNat < 128
      · by_cases hmost : most < (acc' : Int)
        · go_wp2_with fail
          refine (fail_any _ r 12 HR1.out.any (by decide)).mono ?_
          rintro e w' ⟨rfl, rfl⟩
          have hE : rdNumber most xs = .error 12 := by
            unfold rdNumber
            rw [HN'.out, if_pos hc]
            simp [hmost]
          exact ⟨rfl, RdOut.err hE ⟨rfl, HR1.out.any, HM1.out⟩⟩
        · go_wp2_with fail
          go_ret
          have hE : rdNumber most xs = .ok (acc', zs) := by
            unfold rdNumber
            rw [HN'.out, if_pos hc]
            simp [hmost]
          exact RdOut.ok hE ⟨_, rfl, rfl, HR1.out, HM1.out⟩
      · go_wp2_with fail
        go_roundw
        case rel => exact ⟨j + 1, acc', zs, by omega, by go_num, rfl, HL.out, by rw [HN'.out, if_neg hc], HR1.out, HM1.out⟩
        case measure => simp [intOf]; omega
end Go.Proofs.Ytcminppmmhinjaa

namespace Go.Proofs.Ytcminppmmhinjaa
set_option linter.unusedSimpArgs false
set_option linter.unusedVariables false
open Go Go.RowKit
def rdText (most : Int) (xs : List UInt8) : Except Int (List UInt8 × List UInt8) := match rdNum xs with
  | .error e => .error e
  | .ok (n, ys) => if most < n then .error 12 else if ys.length < n then .error 10 else .ok (ys.take n, ys.drop n)
theorem rdNext_len (i : Nat) (xs : List UInt8) (c : UInt8) (ys : List UInt8) (h : rdNext i xs = .ok (c, ys)) : ys.length < xs.length := by
  unfold rdNext at h
  split at h
  · cases h
  · cases xs with
    | nil => cases h
    | cons x zs =>
      simp only at h
      split at h
      · cases h
      · injection h with h; injection h with h1 h2; subst h2; simp
theorem rdNumF_spec (f : Nat) : ∀ (i acc : Nat) (xs : List UInt8) (n : Nat) (ys : List UInt8), f + i = 10 → acc < 128 ^ i → rdNumF f i acc xs = .ok (n, ys) → n < 9223372036854775808 ∧ ys.length < xs.length := by
  induction f with
  | zero => intro i acc xs n ys _ _ h; cases h
  | succ f ih =>
    intro i acc xs n ys hf ha h
    unfold rdNumF at h
    rcases rdNext_cases i xs with ⟨e, he⟩ | ⟨c, zs, hok⟩
    · rw [he] at h; cases h
    · rw [hok] at h
      have hi : i ≤ 8 := by
        rcases Nat.lt_or_ge i 9 with h' | h'
        · omega
        · obtain rfl : i = 9 := by omega
          simp [rdNext] at hok
      have hl := rdNext_len i xs c zs hok
      have hlt := acc_lt acc i (c.toNat % 128) ha (Nat.mod_lt _ (by decide))
      simp only at h
      split at h
      · injection h with h; injection h with h1 h2
        subst h1 h2
        exact ⟨Nat.lt_of_lt_of_le hlt (pow128_le i hi), hl⟩
      · have := ih (i + 1) _ zs n ys (by omega) hlt h
        exact ⟨this.1, by omega⟩
theorem rdNum_spec {xs : List UInt8} {n : Nat} {ys : List UInt8} (h : rdNum xs = .ok (n, ys)) : n < 9223372036854775808 ∧ ys.length < xs.length := rdNumF_spec 10 0 0 xs n ys rfl (by decide) h
theorem rdNum_cases (xs : List UInt8) : (∃ e, rdNum xs = .error e) ∨ ∃ n ys, rdNum xs = .ok (n, ys) := by
  cases h : rdNum xs with
  | error e => exact .inl ⟨e, rfl⟩
  | ok p => exact .inr ⟨p.1, p.2, rfl⟩
set_option maxRecDepth 100000 in
set_option maxHeartbeats 1000000 in
theorem text_new {z : Nat → Prop} (w : World) (r : Nat) (xs : List UInt8) (most : Int) (h : RdAt z w r xs) (hl : xs.length ≤ 100000000000) :
    Calls Try.prog 188 #[.pointer (some ⟨r, 0, none⟩), .int .i64 most] w (RdOut z r w (rdText most xs) fun bs v w' => IsBy w' v bs ∧ ∀ k, v.ownBlock = some k → w.heap.size ≤ k) := by
  have H := Lib.hid h; clear h
  go_enter Try.func188, Try.ntmps188
  go_wp2_with fail
  refine (off_no _ _ H.out.any).mono ?_
  rintro e w' ⟨rfl, rfl⟩
  go_wp2_with fail
  refine (number_any _ r xs _ H.out).mono ?_
  intro e w1 h1
  rcases rdNum_cases xs with ⟨er, her⟩ | ⟨n, ys, hok⟩
  · have h2 : rdNumber 9223372036854775807 xs = .error er := by unfold rdNumber; rw [her]
    rw [h2] at h1
    have hE : rdText most xs = .error er := by unfold rdText; rw [her]
    obtain ⟨rfl, hany, hm1⟩ := h1
    exact ⟨rfl, RdOut.err hE ⟨rfl, hany, hm1⟩⟩
  · have hsp := rdNum_spec hok
    have h2 : rdNumber 9223372036854775807 xs = .ok (n, ys) := by
      unfold rdNumber; rw [hok]
      simp only
      rw [if_neg (by omega)]
    rw [h2] at h1
    obtain ⟨v, rfl, rfl, hrd, hm⟩ := h1
    have hout : rdText most xs = if most < n then .error 12 else if ys.length < n then .error 10 else .ok (ys.take n, ys.drop n) := by unfold rdText; rw [hok]
    have HO := Lib.hid hout
    have HA := Lib.hid hrd.any
    obtain ⟨a, m, c, hb, hy, hc, hr⟩ := hrd
    have h0 := hb.cell 0
    have f0 := hb.free 0
    have hml := hy.1
    have hn63 := hsp.1
    have HL := Lib.hid hml
    have HB := Lib.hid hb
    have HY := Lib.hid hy
    have HM := Lib.hid hm
    have HC := Lib.hid hc
    have HR := Lib.hid hr
    clear hout hok h2 hb hy hm hc hr
    by_cases g1 : most < (n : Int)
    · go_wp2_with fail
      refine (fail_any _ r 12 HA.out (by decide)).mono ?_
      rintro e w' ⟨rfl, rfl⟩
      exact ⟨rfl, RdOut.err (by rw [HO.out, if_pos g1]) ⟨rfl, HA.out, HM.out⟩⟩
    · by_cases g2 : m < n
      · clear hml
        go_wp2_with fail
        refine (fail_any _ r 10 HA.out (by decide)).mono ?_
        rintro e w' ⟨rfl, rfl⟩
        exact ⟨rfl, RdOut.err (by rw [HO.out, if_neg (show ¬ most < (n : Int) by omega), if_pos (by have := HL.out; omega)]) ⟨rfl, HA.out, HM.out⟩⟩
      · obtain ⟨hrun, hyt⟩ := slice_high (P := Try.prog) (w := w1) (k := n) Try.underlying30 size_u8 HY.out (by omega) HC.out.1
        have HT := Lib.hid hyt
        have hmb : m ≤ 100000000000 := by omega
        clear hml hyt
        go_wp2_with fail
        refine (clone_any _ _ _ (ys.take n) _ HT.out (by have := HC.out; omega) (by omega)).mono ?_
        rintro e w2 ⟨v, rfl, hown, hx2⟩
        obtain ⟨a', hrun2, hyd, hblk⟩ := slice_low (P := Try.prog) (w := w2) (k := n) Try.underlying30 size_u8 (HY.out.ext hx2) (by omega) HC.out.1
        have HYD := Lib.hid hyd
        have HB2 := Lib.hid (HB.out.ext hx2)
        have h02 := HB2.out.cell 0
        have f02 := HB2.out.free 0
        have HW := Lib.hid (own_by hown)
        have HX2 := Lib.hid hx2
        have HBK := Lib.hid hblk
        obtain ⟨va, vc, rfl⟩ := own_slice hown
        have hgr : ∀ k, (Value.slice va n vc).ownBlock = some k → w1.heap.size ≤ k := fun k hk => (hown.lt k hk).1
        have HGR := Lib.hid hgr
        have HOW := Lib.hid hown
        have hrlt : r < w1.heap.size := HB.out.lt
        clear hyd hown hx2 hblk hgr h0 f0 hrun
        go_wp2_with fail
        go_ret
        have hm2 : MutO (rdFp r) w1 (w2.setCell ⟨r, 0, none⟩ (.slice a' (m - n) (c - n))) := MutO.set (fp := rdFp r) (p := ⟨r, 0, none⟩) (MutO.of_ext HX2.out) rfl _
        have hm3 : MutO (rdFp r) w2 (w2.setCell ⟨r, 0, none⟩ (.slice a' (m - n) (c - n))) := MutO.set (fp := rdFp r) (p := ⟨r, 0, none⟩) (MutO.refl _ _) rfl _
        refine RdOut.ok (by rw [HO.out, if_neg (show ¬ most < (n : Int) by omega), if_neg (by have := HL.out; omega)]) ⟨_, rfl, ?_, ?_, HM.out.trans hm2 fun _ _ h => h⟩
        · refine ⟨?_, fun k hk => Nat.le_trans HM.out.size (HGR.out k hk)⟩
          obtain ⟨a3, n3, c3, e3, h31, h32, h33⟩ := HW.out
          refine ⟨a3, n3, c3, e3, h31, h32, By.mut h33 hm3 fun h0 ad had hx => ?_⟩
          injection e3 with e4 e5 e6
          have := HGR.out ad.block (by rw [e4, had]; rfl)
          have hx' : ad.block = r := hx
          omega
        · refine ⟨a', m - n, c - n, by have := HB2.out.set 0 (.slice a' (m - n) (c - n)); simpa using this, By.mut HYD.out hm3 fun _ ad had => ?_, ⟨by have := HC.out; omega, by have := HC.out; omega⟩, ?_⟩
          · obtain ⟨ad0, e0, e1⟩ := HBK.out ad had
            intro hx; exact (HR.out ad0 e0).1 (e1 ▸ hx)
          · intro ad had
            obtain ⟨ad0, e0, e1⟩ := HBK.out ad had
            rw [e1]; exact HR.out ad0 e0
theorem text_any {z : Nat → Prop} (w : World) (r : Nat) (xs : List UInt8) (most : Int) (h : RdAt z w r xs) (hl : xs.length ≤ 100000000000) :
    Calls Try.prog 188 #[.pointer (some ⟨r, 0, none⟩), .int .i64 most] w (RdOut z r w (rdText most xs) fun bs v w' => IsBy w' v bs) :=
  (text_new w r xs most h hl).mono fun en w' h => by
    unfold RdOut at *
    cases hr : rdText most xs with
    | error e => rw [hr] at h; exact h
    | ok p => obtain ⟨a, ys⟩ := p; rw [hr] at h; obtain ⟨v, h1, h2, h3⟩ := h; exact ⟨v, h1, h2.1, h3⟩
end Go.Proofs.Ytcminppmmhinjaa
