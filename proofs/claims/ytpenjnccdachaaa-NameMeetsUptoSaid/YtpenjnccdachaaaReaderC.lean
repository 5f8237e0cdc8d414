/- The reader: texts. -/
import Derived.Test.YtpenjnccdachaaaReaderB
namespace Go.Proofs.Ytpenjnccdachaaa
set_option linter.unusedSimpArgs false
set_option linter.unusedVariables false
open Go Go.RowKit
def rdText (most : Int) (xs : List UInt8) : Except Int (List UInt8 × List UInt8) := match rdNum xs with
  | .error e => .error e
  | .ok (n, ys) => if most < n then .error 12 else if ys.length < n then .error 10 else .ok (ys.take n, ys.drop n)
theorem rdNext_len (i : Nat) (xs : List UInt8) (c : UInt8) (ys : List UInt8) (h : rdNext i xs = .ok (c, ys)) : ys.length < xs.length := by
  unfold rdNext at h
  split at h
  · cases h
  · cases xs with
    | nil => cases h
    | cons x zs =>
      simp only at h
      split at h
      · cases h
      · injection h with h; injection h with h1 h2; subst h2; simp
theorem rdNumF_spec (f : Nat) : ∀ (i acc : Nat) (xs : List UInt8) (n : Nat) (ys : List UInt8), f + i = 10 → acc < 128 ^ i → rdNumF f i acc xs = .ok (n, ys) → n < 9223372036854775808 ∧ ys.length < xs.length := by
  induction f with
  | zero => intro i acc xs n ys _ _ h; cases h
  | succ f ih =>
    intro i acc xs n ys hf ha h
    unfold rdNumF at h
    rcases rdNext_cases i xs with ⟨e, he⟩ | ⟨c, zs, hok⟩
    · rw [he] at h; cases h
    · rw [hok] at h
      have hi : i ≤ 8 := by
        rcases Nat.lt_or_ge i 9 with h' | h'
        · omega
        · obtain rfl : i = 9 := by omega
          simp [rdNext] at hok
      have hl := rdNext_len i xs c zs hok
      have hlt := acc_lt acc i (c.toNat % 128) ha (Nat.mod_lt _ (by decide))
      simp only at h
      split at h
      · injection h with h; injection h with h1 h2
        subst h1 h2
        exact ⟨Nat.lt_of_lt_of_le hlt (pow128_le i hi), hl⟩
      · have := ih (i + 1) _ zs n ys (by omega) hlt h
        exact ⟨this.1, by omega⟩
theorem rdNum_spec {xs : List UInt8} {n : Nat} {ys : List UInt8} (h : rdNum xs = .ok (n, ys)) : n < 9223372036854775808 ∧ ys.length < xs.length := rdNumF_spec 10 0 0 xs n ys rfl (by decide) h
theorem rdNum_cases (xs : List UInt8) : (∃ e, rdNum xs = .error e) ∨ ∃ n ys, rdNum xs = .ok (n, ys) := by
  cases h : rdNum xs with
  | error e => exact .inl ⟨e, rfl⟩
  | ok p => exact .inr ⟨p.1, p.2, rfl⟩
set_option maxRecDepth 100000 in
set_option maxHeartbeats 1000000 in
theorem text_new {z : Nat → Prop} (w : World) (r : Nat) (xs : List UInt8) (most : Int) (h : RdAt z w r xs) (hl : xs.length ≤ 100000000000) :
    Calls Try.prog 97 #[.pointer (some ⟨r, 0, none⟩), .int .i64 most] w (RdOut z r w (rdText most xs) fun bs v w' => IsBy w' v bs ∧ ∀ k, v.ownBlock = some k → w.heap.size ≤ k) := by
  have H := Lib.hid h; clear h
  go_enter Try.func97, Try.ntmps97
  go_wp2_with fail
  refine (off_no _ _ H.out.any).mono ?_
  rintro e w' ⟨rfl, rfl⟩
  go_wp2_with fail
  refine (number_any _ r xs _ H.out).mono ?_
  intro e w1 h1
  rcases rdNum_cases xs with ⟨er, her⟩ | ⟨n, ys, hok⟩
  · have h2 : rdNumber 9223372036854775807 xs = .error er := by unfold rdNumber; rw [her]
    rw [h2] at h1
    have hE : rdText most xs = .error er := by unfold rdText; rw [her]
    obtain ⟨rfl, hany, hm1⟩ := h1
    exact ⟨rfl, RdOut.err hE ⟨rfl, hany, hm1⟩⟩
  · have hsp := rdNum_spec hok
    have h2 : rdNumber 9223372036854775807 xs = .ok (n, ys) := by
      unfold rdNumber; rw [hok]
      simp only
      rw [if_neg (by omega)]
    rw [h2] at h1
    obtain ⟨v, rfl, rfl, hrd, hm⟩ := h1
    have hout : rdText most xs = if most < n then .error 12 else if ys.length < n then .error 10 else .ok (ys.take n, ys.drop n) := by unfold rdText; rw [hok]
    have HO := Lib.hid hout
    have HA := Lib.hid hrd.any
    obtain ⟨a, m, c, hb, hy, hc, hr⟩ := hrd
    have h0 := hb.cell 0
    have f0 := hb.free 0
    have hml := hy.1
    have hn63 := hsp.1
    have HL := Lib.hid hml
    have HB := Lib.hid hb
    have HY := Lib.hid hy
    have HM := Lib.hid hm
    have HC := Lib.hid hc
    have HR := Lib.hid hr
    clear hout hok h2 hb hy hm hc hr
    by_cases g1 : most < (n : Int)
    · go_wp2_with fail
      refine (fail_any _ r 12 HA.out (by decide)).mono ?_
      rintro e w' ⟨rfl, rfl⟩
      exact ⟨rfl, RdOut.err (by rw [HO.out, if_pos g1]) ⟨rfl, HA.out, HM.out⟩⟩
    · by_cases g2 : m < n
      · clear hml
        go_wp2_with fail
        refine (fail_any _ r 10 HA.out (by decide)).mono ?_
        rintro e w' ⟨rfl, rfl⟩
        exact ⟨rfl, RdOut.err (by rw [HO.out, if_neg (show ¬ most < (n : Int) by omega), if_pos (by have := HL.out; omega)]) ⟨rfl, HA.out, HM.out⟩⟩
      · obtain ⟨hrun, hyt⟩ := slice_high (P := Try.prog) (w := w1) (k := n) Try.underlying23 size_u8 HY.out (by omega) HC.out.1
        have HT := Lib.hid hyt
        have hmb : m ≤ 100000000000 := by omega
        clear hml hyt
        go_wp2_with fail
        refine (clone_any _ _ _ (ys.take n) _ HT.out (by have := HC.out; omega) (by omega)).mono ?_
        rintro e w2 ⟨v, rfl, hown, hx2⟩
        obtain ⟨a', hrun2, hyd, hblk⟩ := slice_low (P := Try.prog) (w := w2) (k := n) Try.underlying23 size_u8 (HY.out.ext hx2) (by omega) HC.out.1
        have HYD := Lib.hid hyd
        have HB2 := Lib.hid (HB.out.ext hx2)
        have h02 := HB2.out.cell 0
        have f02 := HB2.out.free 0
        have HW := Lib.hid (own_by hown)
        have HX2 := Lib.hid hx2
        have HBK := Lib.hid hblk
        obtain ⟨va, vc, rfl⟩ := own_slice hown
        have hgr : ∀ k, (Value.slice va n vc).ownBlock = some k → w1.heap.size ≤ k := fun k hk => (hown.lt k hk).1
        have HGR := Lib.hid hgr
        have HOW := Lib.hid hown
        have hrlt : r < w1.heap.size := HB.out.lt
        clear hyd hown hx2 hblk hgr h0 f0 hrun
        go_wp2_with fail
        go_ret
        have hm2 : MutO (rdFp r) w1 (w2.setCell ⟨r, 0, none⟩ (.slice a' (m - n) (c - n))) := MutO.set (fp := rdFp r) (p := ⟨r, 0, none⟩) (MutO.of_ext HX2.out) rfl _
        have hm3 : MutO (rdFp r) w2 (w2.setCell ⟨r, 0, none⟩ (.slice a' (m - n) (c - n))) := MutO.set (fp := rdFp r) (p := ⟨r, 0, none⟩) (MutO.refl _ _) rfl _
        refine RdOut.ok (by rw [HO.out, if_neg (show ¬ most < (n : Int) by omega), if_neg (by have := HL.out; omega)]) ⟨_, rfl, ?_, ?_, HM.out.trans hm2 fun _ _ h => h⟩
        · refine ⟨?_, fun k hk => Nat.le_trans HM.out.size (HGR.out k hk)⟩
          obtain ⟨a3, n3, c3, e3, h31, h32, h33⟩ := HW.out
          refine ⟨a3, n3, c3, e3, h31, h32, By.mut h33 hm3 fun h0 ad had hx => ?_⟩
          injection e3 with e4 e5 e6
          have := HGR.out ad.block (by rw [e4, had]; rfl)
          have hx' : ad.block = r := hx
          omega
        · refine ⟨a', m - n, c - n, by have := HB2.out.set 0 (.slice a' (m - n) (c - n)); simpa using this, By.mut HYD.out hm3 fun _ ad had => ?_, ⟨by have := HC.out; omega, by have := HC.out; omega⟩, ?_⟩
          · obtain ⟨ad0, e0, e1⟩ := HBK.out ad had
            intro hx; exact (HR.out ad0 e0).1 (e1 ▸ hx)
          · intro ad had
            obtain ⟨ad0, e0, e1⟩ := HBK.out ad had
            rw [e1]; exact HR.out ad0 e0
theorem text_any {z : Nat → Prop} (w : World) (r : Nat) (xs : List UInt8) (most : Int) (h : RdAt z w r xs) (hl : xs.length ≤ 100000000000) :
    Calls Try.prog 97 #[.pointer (some ⟨r, 0, none⟩), .int .i64 most] w (RdOut z r w (rdText most xs) fun bs v w' => IsBy w' v bs) :=
  (text_new w r xs most h hl).mono fun en w' h => by
    unfold RdOut at *
    cases hr : rdText most xs with
    | error e => rw [hr] at h; exact h
    | ok p => obtain ⟨a, ys⟩ := p; rw [hr] at h; obtain ⟨v, h1, h2, h3⟩ := h; exact ⟨v, h1, h2.1, h3⟩
end Go.Proofs.Ytpenjnccdachaaa
