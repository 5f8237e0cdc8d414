/- the reference's Make -/
import Derived.Test.YtpenjnccdachaaaTagB
namespace Go.Proofs.Ytpenjnccdachaaa
set_option linter.unusedSimpArgs false
set_option linter.unusedVariables false
open Go Go.RowKit
theorem byteAt_lo (h : Int) (i : Nat) (hi : i < 8) : byteAt h (7 - i) = UInt8.ofNat (h / 2 ^ (8 * i) % 256).toNat := by
  unfold byteAt
  rw [show 7 - (7 - i) = i by omega]
theorem div_next (h : Int) (i : Nat) : h / 2 ^ (8 * i) / 256 = h / 2 ^ (8 * (i + 1)) := by
  rw [Int.ediv_ediv_of_nonneg (by exact Int.le_of_lt (Int.pow_pos (by decide))), show 8 * (i + 1) = 8 * i + 8 by omega, Int.pow_add]
  rfl
theorem fnv_nonneg (h : Int) (l : List UInt8) (h0 : 0 ≤ h) : 0 ≤ fnv h l := by
  unfold fnv
  induction l generalizing h with
  | nil => exact h0
  | cons c l ih => exact ih _ (by unfold fnvStep IntKind.wrap; simp [IntKind.signed]; exact Int.emod_nonneg _ (by decide))
theorem fnv_lt (h : Int) (l : List UInt8) (h0 : h < 2 ^ 64) : fnv h l < 2 ^ 64 := by
  unfold fnv
  induction l generalizing h with
  | nil => exact h0
  | cons c l ih => exact ih _ (by unfold fnvStep IntKind.wrap; simp [IntKind.signed]; exact Int.emod_lt_of_pos _ (by decide))
theorem wrap_div (q : Int) (j : Nat) (h0 : 0 ≤ q) (h1 : q < 2 ^ 64) : IntKind.u64.wrap ((q / 2 ^ (8 * j)).tdiv 256) = q / 2 ^ (8 * (j + 1)) := by
  have hp : (0 : Int) < 2 ^ (8 * j) := Int.pow_pos (by decide)
  have hq : 0 ≤ q / 2 ^ (8 * j) := Int.ediv_nonneg h0 (Int.le_of_lt hp)
  have hq1 : q / 2 ^ (8 * j) ≤ q := Int.ediv_le_self _ h0
  rw [Int.tdiv_eq_ediv_of_nonneg hq, div_next]
  have hp' : (0 : Int) < 2 ^ (8 * (j + 1)) := Int.pow_pos (by decide)
  have h2 : 0 ≤ q / 2 ^ (8 * (j + 1)) := Int.ediv_nonneg h0 (Int.le_of_lt hp')
  have h3 : q / 2 ^ (8 * (j + 1)) ≤ q := Int.ediv_le_self _ h0
  generalize q / 2 ^ (8 * (j + 1)) = r at *
  unfold IntKind.wrap
  simp [IntKind.signed, IntKind.bits]
  exact Int.emod_eq_of_lt h2 (by have : (2 : Int) ^ 64 = 18446744073709551616 := by decide
                                 omega)
theorem lo_next (q : Int) (j : Nat) (hj : j < 8) : (List.range' (8 - (j + 1)) (j + 1)).map (byteAt q) = UInt8.ofNat (q / 2 ^ (8 * j) % 256).toNat :: (List.range' (8 - j) j).map (byteAt q) := by
  rw [List.range'_succ, List.map_cons, show 8 - (j + 1) = 7 - j by omega, byteAt_lo q j hj, show 7 - j + 1 = 8 - j by omega]
theorem be8_range (h : Int) : (List.range' (8 - 8) 8).map (byteAt h) = be8 h := by
  simp [be8, List.range_eq_range']
set_option maxRecDepth 100000 in
set_option maxHeartbeats 400000 in
theorem refMake_any (k b : List UInt8) (w : World) (hk : k.length ≤ 100) (hb : b.length ≤ 100000) :
    Calls Try.prog 90 #[S k, S b] w fun e w' => e = .returned (S (tagOf k b)) ∧ Ext w w' := by
  have hcv := fun (w : World) (x : Int) => conv_one (P := Try.prog) (src := 23) (dst := 9) (e := 5) Try.underlying23 Try.underlying5 Try.underlying9 5 w x
  have happ := ba_append
  unfold S
  go_enter Try.func90, Try.ntmps90
  go_wp2_with fail
  refine (refSum_any _ _ (by simp [maxLen]; omega)).mono ?_
  rintro e w' ⟨rfl, rfl⟩
  obtain ⟨q, hq⟩ : ∃ q, q = fnv fnv0 ([UInt8.ofNat k.length] ++ k ++ b ++ k) := ⟨_, rfl⟩
  rw [show fnv fnv0 (_ :: _) = q by rw [hq]; simp]
  have HQ := Lib.hid hq; clear hq
  have hx := Ext.new w (.cells #[.int .u8 (k.length : Int)] 5)
  have HX := Lib.hid hx; clear hx
  generalize w.alloc (.cells #[.int .u8 (k.length : Int)] 5) = w1 at *
  have hq0 : 0 ≤ q := by rw [HQ.out]; exact fnv_nonneg _ _ (by decide)
  go_wp2_with fail
  go_loopw [5, 6, 7] (fun h s i wr => ∃ j : Nat, j ≤ 8 ∧ i = .int .i64 j ∧ h = .int .u64 (q / 2 ^ (8 * j)) ∧ Ext w wr ∧ s = .string ⟨((List.range' (8 - j) j).map (byteAt q)).toArray⟩) (fun _ _ i _ => 8 - (intOf i).toNat)
  case atStart => exact ⟨0, by omega, rfl, by simp, HX.out, by simp⟩
  case round =>
    obtain ⟨j, hj, rfl, rfl, hext, rfl⟩ := hrel
    obtain ⟨h, hh⟩ : ∃ h, q / 2 ^ (8 * j) = h := ⟨_, rfl⟩
    have hh0 : 0 ≤ h := by rw [← hh]; exact Int.ediv_nonneg hq0 (Int.le_of_lt (Int.pow_pos (by decide)))
    rw [hh]
    have HH := Lib.hid hh; clear hh
    obtain ⟨l, hl⟩ : ∃ l, (List.range' (8 - j) j).map (byteAt q) = l := ⟨_, rfl⟩
    rw [hl]
    have hll : l.length ≤ 8 := by rw [← hl]; simp; omega
    have HL := Lib.hid hl; clear hl
    have HE := Lib.hid hext; clear hext
    by_cases hlt : j < 8
    · go_wp2
      go_roundw
      case rel => exact ⟨j + 1, by omega, by go_num, by rw [← HH.out, wrap_div _ _ hq0 (by rw [HQ.out]; exact fnv_lt _ _ (by decide))], HE.out.alloc _, by rw [lo_next _ _ hlt, HH.out, HL.out]⟩
      case measure => simp [intOf]; omega
    · go_wp2
      go_ret
      obtain rfl : j = 8 := by omega
      refine ⟨?_, HE.out⟩
      have e : l = tagOf k b := by rw [← HL.out, be8_range, HQ.out]; rfl
      rw [e]
      rfl
end Go.Proofs.Ytpenjnccdachaaa
