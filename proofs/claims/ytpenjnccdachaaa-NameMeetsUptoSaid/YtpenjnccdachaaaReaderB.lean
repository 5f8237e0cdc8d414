/- The reader: numbers and texts. -/
import Derived.Test.YtpenjnccdachaaaReader
namespace Go.Proofs.Ytpenjnccdachaaa
set_option linter.unusedSimpArgs false
set_option linter.unusedVariables false
open Go Go.RowKit
def rdNext (i : Nat) (xs : List UInt8) : Except Int (UInt8 × List UInt8) :=
  if i = 9 then .error 11 else match xs with
  | [] => .error 10
  | c :: ys => if c = 0 ∧ 0 < i then .error 11 else .ok (c, ys)
def rdNumF : Nat → Nat → Nat → List UInt8 → Except Int (Nat × List UInt8)
  | 0, _, _, _ => .error 11
  | f + 1, i, acc, xs => match rdNext i xs with
    | .error e => .error e
    | .ok (c, ys) => if c.toNat < 128 then .ok (acc + c.toNat % 128 * 128 ^ i, ys) else rdNumF f (i + 1) (acc + c.toNat % 128 * 128 ^ i) ys
def rdNum (xs : List UInt8) : Except Int (Nat × List UInt8) := rdNumF 10 0 0 xs
def rdNumber (most : Int) (xs : List UInt8) : Except Int (Nat × List UInt8) := match rdNum xs with
  | .error e => .error e
  | .ok (n, ys) => if most < n then .error 12 else .ok (n, ys)

theorem Failed.step {r : Nat} {e : Int} {w w1 w' : World} {en : Ending} (h : Failed r e w1 en w') (hm : MutO (rdFp r) w w1) : Failed r e w en w' := ⟨h.1, h.2.1, hm.trans h.2.2 fun _ _ h => h⟩
theorem size_u8 (w : World) : (sizeOf 5).run Try.prog w = .ok 1 w := by kernel_rfl

set_option maxRecDepth 100000 in
set_option maxHeartbeats 1000000 in
theorem next_any {z : Nat → Prop} (w : World) (r : Nat) (xs : List UInt8) (i : Nat) (hi : i ≤ 9) (h : RdAt z w r xs) :
    Calls Try.prog 142 #[.pointer (some ⟨r, 0, none⟩), .int .i64 (i : Int)] w (RdOut z r w (rdNext i xs) fun c v w' => v = B c) := by
  have ha := Lib.hid h.any
  obtain ⟨a, n, c, hb, hy, hc, hr⟩ := h
  have h0 := hb.cell 0
  have f0 := hb.free 0
  by_cases h9 : i = 9
  · subst h9
    have hout : rdNext 9 xs = .error 11 := by simp [rdNext]
    rw [hout]
    have HB := Lib.hid hb; clear hb hout hy
    go_enter Try.func142, Try.ntmps142
    go_wp2_with fail
    refine (fail_any _ r 11 ha.out (by decide)).mono ?_
    rintro e w' ⟨rfl, rfl⟩
    exact ⟨rfl, rfl, ha.out, MutO.refl _ _⟩
  · have hi8 : i < 9 := by omega
    cases xs with
    | nil =>
      have hout : rdNext i [] = .error 10 := by simp [rdNext, h9]
      rw [hout]
      have hn : n = 0 := hy.1
      subst hn
      have HB := Lib.hid hb; clear hb hout hy
      go_enter Try.func142, Try.ntmps142
      go_wp2_with fail
      refine (fail_any _ r 10 ha.out (by decide)).mono ?_
      rintro e w' ⟨rfl, rfl⟩
      exact ⟨rfl, rfl, ha.out, MutO.refl _ _⟩
    | cons x ys =>
      have hn : 0 < n := by have := hy.1; simp at this; omega
      obtain ⟨b, off, rfl, hcell, _, hx⟩ := By.at hy hn
      have hx0 : w.cell? ⟨b, off, none⟩ = some (.int .u8 (x.toNat : Int)) := by simpa using hx
      obtain ⟨a', hrun, hy', hblk⟩ := slice_low (P := Try.prog) (w := w) (k := 1) Try.underlying23 size_u8 hy (by omega) hc.1
      have hbr : b ≠ r := (hr _ rfl).1
      have HY : Hid (By w a' (n - 1) ys) := Lib.hid (by simpa using hy')
      have HBK : Hid (∀ ad, a' = some ad → ad.block ≠ r ∧ z ad.block) := Lib.hid (fun ad had => by obtain ⟨ad0, h1, h2⟩ := hblk ad had; rw [h2]; exact hr _ h1)
      have hrun' : (Instr.slice 23 (.slice (some ⟨b, off, none⟩) n c) (some (.int .i64 1)) none none).run Try.prog w = .ok (.slice a' (n - 1) (c - 1)) w := hrun
      have HC := Lib.hid hc
      have HB := Lib.hid hb
      clear hcell hx hy hy' hblk hrun hr hb hc
      have hn1 : (1 : Int) ≤ n := by omega
      -- the reader behind the step
      have hafter : ∀ W, W = w.setCell ⟨r, 0, none⟩ (.slice a' (n - 1) (c - 1)) → RdAt z W r ys ∧ MutO (rdFp r) w W := fun W hW => by
        subst hW
        have hm : MutO (rdFp r) w (w.setCell ⟨r, 0, none⟩ (.slice a' (n - 1) (c - 1))) := MutO.set (fp := rdFp r) (p := ⟨r, 0, none⟩) (MutO.refl _ _) rfl _
        refine ⟨⟨a', n - 1, c - 1, by have := HB.out.set 0 (.slice a' (n - 1) (c - 1)); simpa using this, By.mut HY.out hm fun _ ad had => (HBK.out ad had).1, ⟨by have := HC.out; omega, by have := HC.out; omega⟩, HBK.out⟩, hm⟩
      have HA := Lib.hid hafter; clear hafter
      by_cases hz : x = 0 ∧ 0 < i
      · have hout : rdNext i (x :: ys) = .error 11 := by simp [rdNext, h9, hz]
        rw [hout]
        obtain ⟨rfl, hi0⟩ := hz
        clear hout
        go_enter Try.func142, Try.ntmps142
        go_wp2_with fail
        refine (fail_any _ r 11 (HA.out _ rfl).1.any (by decide)).mono ?_
        rintro e w' ⟨rfl, rfl⟩
        exact ⟨rfl, rfl, (HA.out _ rfl).1.any, (HA.out _ rfl).2⟩
      · have hout : rdNext i (x :: ys) = .ok (x, ys) := by simp [rdNext, h9, hz]
        rw [hout]
        clear hout
        by_cases hx0' : x = 0
        · subst hx0'
          have hi0 : i = 0 := by
            rcases Nat.eq_zero_or_pos i with h | h
            · exact h
            · exact absurd ⟨rfl, h⟩ hz
          subst hi0
          go_enter Try.func142, Try.ntmps142
          go_wp2
          go_ret
          exact ⟨_, rfl, rfl, (HA.out _ rfl).1, (HA.out _ rfl).2⟩
        · have hxn : 0 < x.toNat := by
            rcases Nat.eq_zero_or_pos x.toNat with h | h
            · exact absurd (UInt8.toNat.inj (by simpa using h)) hx0'
            · exact h
          go_enter Try.func142, Try.ntmps142
          go_wp2
          go_ret
          exact ⟨_, rfl, rfl, (HA.out _ rfl).1, (HA.out _ rfl).2⟩
theorem rdNext_cases (i : Nat) (xs : List UInt8) : (∃ e, rdNext i xs = .error e) ∨ ∃ c ys, rdNext i xs = .ok (c, ys) := by
  cases h : rdNext i xs with
  | error e => exact .inl ⟨e, rfl⟩
  | ok p => exact .inr ⟨p.1, p.2, rfl⟩
theorem or_add (a d i : Nat) (h : a < 128 ^ i) : a ||| (d * 128 ^ i) = a + d * 128 ^ i := by
  have e : (128 : Nat) ^ i = 2 ^ (7 * i) := by rw [Nat.pow_mul]
  rw [e] at h ⊢
  rw [Nat.or_comm, Nat.mul_comm d, ← Nat.two_pow_add_eq_or_of_lt h, Nat.add_comm]
theorem i64_or_nat (a b : Nat) (ha : a < 9223372036854775808) (hb : b < 9223372036854775808) : bits .or .i64 (a : Int) (b : Int) = ((a ||| b : Nat) : Int) := by
  refine (bits_nat .i64 63 (by decide) (fun n h0 h1 => IntWalk.i64_in n ⟨by omega, ?_⟩) a b ha hb).2
  have : (2 : Int) ^ 63 = 9223372036854775808 := by decide
  omega
theorem u8_and_127 (c : UInt8) : bits .and .u8 (c.toNat : Int) 127 = ((c.toNat % 128 : Nat) : Int) := by
  have h := (bits_nat .u8 8 (by decide) (fun n h0 h1 => wraps_u8 n h0 h1) c.toNat 127 c.toNat_lt (by decide)).1
  rw [show ((127 : Nat) : Int) = 127 by rfl] at h
  rw [h, show (127 : Nat) = 2 ^ 7 - 1 by rfl, Nat.and_two_pow_sub_one_eq_mod]
theorem pow128 (i : Nat) : (2 : Int) ^ (7 * i) = ((128 ^ i : Nat) : Int) := by
  rw [Int.pow_mul]; simp
theorem pow128_le (i : Nat) (h : i ≤ 8) : 128 ^ (i + 1) ≤ 9223372036854775808 := by
  have : (128 : Nat) ^ 9 = 9223372036854775808 := by decide
  rw [← this]
  exact Nat.pow_le_pow_right (by decide) (by omega)
theorem step_val (acc j : Nat) (c : UInt8) (hj : j ≤ 8) (ha : acc < 128 ^ j) :
    bits .or .i64 (acc : Int) (wrap64 (wrap64 (bits .and .u8 (c.toNat : Int) 127) * 2 ^ (7 * j))) = ((acc + c.toNat % 128 * 128 ^ j : Nat) : Int) := by
  have hp := pow128_le j hj
  have hd : c.toNat % 128 < 128 := Nat.mod_lt _ (by decide)
  have h1 : c.toNat % 128 * 128 ^ j < 9223372036854775808 := by
    have : c.toNat % 128 * 128 ^ j < 128 * 128 ^ j := Nat.mul_lt_mul_of_pos_right hd (Nat.pow_pos (by decide))
    rw [Nat.pow_succ, Nat.mul_comm] at hp
    omega
  have h2 : acc < 9223372036854775808 := by
    have : 128 ^ j ≤ 128 ^ (j + 1) := Nat.pow_le_pow_right (by decide) (by omega)
    omega
  rw [u8_and_127, IntWalk.wrap64_in ((c.toNat % 128 : Nat) : Int) ⟨by omega, by omega⟩, pow128, ← Int.natCast_mul, IntWalk.wrap64_in ((c.toNat % 128 * 128 ^ j : Nat) : Int) ⟨by omega, by omega⟩, i64_or_nat _ _ h2 h1, or_add _ _ _ ha]
theorem acc_lt (acc j d : Nat) (ha : acc < 128 ^ j) (hd : d < 128) : acc + d * 128 ^ j < 128 ^ (j + 1) := by
  have : d * 128 ^ j ≤ 127 * 128 ^ j := Nat.mul_le_mul_right _ (by omega)
  rw [Nat.pow_succ]
  omega
theorem RdOut.err {α : Type} {z : Nat → Prop} {r : Nat} {w : World} {res : Except Int (α × List UInt8)} {ok : α → Value → World → Prop} {e : Int} {en : Ending} {w' : World} (hE : res = .error e) (h : Failed r e w en w') : RdOut z r w res ok en w' := by
  subst hE; exact h
theorem RdOut.ok {α : Type} {z : Nat → Prop} {r : Nat} {w : World} {res : Except Int (α × List UInt8)} {ok : α → Value → World → Prop} {a : α} {ys : List UInt8} {en : Ending} {w' : World} (hE : res = .ok (a, ys))
    (h : ∃ v, en = .returned v ∧ ok a v w' ∧ RdAt z w' r ys ∧ MutO (rdFp r) w w') : RdOut z r w res ok en w' := by
  subst hE; exact h
set_option maxRecDepth 100000 in
set_option maxHeartbeats 1000000 in
theorem number_any {z : Nat → Prop} (w : World) (r : Nat) (xs : List UInt8) (most : Int) (h : RdAt z w r xs) :
    Calls Try.prog 96 #[.pointer (some ⟨r, 0, none⟩), .int .i64 most] w (RdOut z r w (rdNumber most xs) fun n v w' => v = .int .i64 (n : Int)) := by
  have H := Lib.hid h; clear h
  go_enter Try.func96, Try.ntmps96
  go_wp2_with fail
  refine (off_no _ _ H.out.any).mono ?_
  rintro e w' ⟨rfl, rfl⟩
  go_wp2_with fail
  go_loopw [5, 6] (fun a i wr => ∃ (j acc : Nat) (ys : List UInt8), j ≤ 9 ∧ i = .int .i64 (j : Int) ∧ a = .int .i64 (acc : Int) ∧ acc < 128 ^ j ∧ rdNum xs = rdNumF (10 - j) j acc ys ∧ RdAt z wr r ys ∧ MutO (rdFp r) w wr) (fun _ i _ => 10 - (intOf i).toNat)
  case atStart => exact ⟨0, 0, xs, by omega, rfl, rfl, by simp, rfl, H.out, MutO.refl _ _⟩
  case round =>
    obtain ⟨j, acc, ys, hj, rfl, rfl, hacc, hnum, hrd, hm⟩ := hrel
    have HN := Lib.hid hnum; clear hnum
    have HR := Lib.hid hrd; clear hrd
    have HM := Lib.hid hm; clear hm
    have HA := Lib.hid hacc; clear hacc
    go_wp2_with fail
    refine (next_any _ r ys j hj HR.out).mono ?_
    intro e w1 h1
    rcases rdNext_cases j ys with ⟨er, her⟩ | ⟨c, zs, hok⟩
    · rw [her] at h1
      obtain ⟨rfl, hany, hm1⟩ := h1
      have hE : rdNumber most xs = .error er := by
        unfold rdNumber
        rw [HN.out, show 10 - j = (9 - j) + 1 by omega, rdNumF, her]
      exact ⟨rfl, RdOut.err hE ⟨rfl, hany, HM.out.trans hm1 fun _ _ h => h⟩⟩
    · rw [hok] at h1
      obtain ⟨v, rfl, rfl, hrd1, hm1⟩ := h1
      have hj8 : j ≤ 8 := by
        rcases Nat.lt_or_ge j 9 with h | h
        · omega
        · obtain rfl : j = 9 := by omega
          simp [rdNext] at hok
      unfold B
      have hval := step_val acc j c hj8 HA.out
      have hN : rdNum xs = if c.toNat < 128 then .ok (acc + c.toNat % 128 * 128 ^ j, zs) else rdNumF (10 - (j + 1)) (j + 1) (acc + c.toNat % 128 * 128 ^ j) zs := by
        rw [HN.out, show 10 - j = (9 - j) + 1 by omega, rdNumF, hok, show 10 - (j + 1) = 9 - j by omega]
      obtain ⟨acc', hacc'⟩ : ∃ x, acc + c.toNat % 128 * 128 ^ j = x := ⟨_, rfl⟩
      rw [hacc'] at hval hN
      have HL : Hid (acc' < 128 ^ (j + 1)) := Lib.hid (by rw [← hacc']; exact acc_lt _ _ _ HA.out (Nat.mod_lt _ (by decide)))
      have HN' := Lib.hid hN
      have HR1 := Lib.hid hrd1
      have HM1 : Hid (MutO (rdFp r) w w1) := Lib.hid (HM.out.trans hm1 fun _ _ h => h)
      have hacc63 : acc' < 9223372036854775808 := Nat.lt_of_lt_of_le HL.out (pow128_le j hj8)
      clear hN hrd1 hm1 hacc' hok HN HR HM HA
      by_cases hc : c.toNat < 128
      · by_cases hmost : most < (acc' : Int)
        · go_wp2_with fail
          refine (fail_any _ r 12 HR1.out.any (by decide)).mono ?_
          rintro e w' ⟨rfl, rfl⟩
          have hE : rdNumber most xs = .error 12 := by
            unfold rdNumber
            rw [HN'.out, if_pos hc]
            simp [hmost]
          exact ⟨rfl, RdOut.err hE ⟨rfl, HR1.out.any, HM1.out⟩⟩
        · go_wp2_with fail
          go_ret
          have hE : rdNumber most xs = .ok (acc', zs) := by
            unfold rdNumber
            rw [HN'.out, if_pos hc]
            simp [hmost]
          exact RdOut.ok hE ⟨_, rfl, rfl, HR1.out, HM1.out⟩
      · go_wp2_with fail
        go_roundw
        case rel => exact ⟨j + 1, acc', zs, by omega, by go_num, rfl, HL.out, by rw [HN'.out, if_neg hc], HR1.out, HM1.out⟩
        case measure => simp [intOf]; omega
end Go.Proofs.Ytpenjnccdachaaa
