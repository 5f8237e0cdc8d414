/- The reference's Number and Text. -/
import Derived.Test.YtcminppmmhinjaaPen
namespace Go.Proofs.Ytcminppmmhinjaa
set_option linter.unusedSimpArgs false
set_option linter.unusedVariables false
open Go Go.RowKit
theorem div_tdiv (m : Nat) : ((m : Int)).tdiv 128 = ((m / 128 : Nat) : Int) := by
  rw [Int.tdiv_eq_ediv_of_nonneg (by omega)]; omega
set_option maxRecDepth 100000 in
set_option maxHeartbeats 1000000 in
theorem refNumber_any (n : Nat) (w : World) (hn : n < 9223372036854775808) :
    Calls Try.prog 129 #[.int .i64 (n : Int)] w fun e w' => e = .returned (S (numB n)) ∧ Ext w w' := by
  have hcv := fun (w : World) (x : Int) => conv_one (P := Try.prog) (src := 30) (dst := 9) (e := 5) Try.underlying30 Try.underlying5 Try.underlying9 5 w x
  have happ := ba_append
  unfold S
  go_enter Try.func129, Try.ntmps129
  go_wp2
  go_loopw [0, 3] (fun i s wr => ∃ (k m : Nat) (done : List UInt8), m * 128 ^ k ≤ n ∧ k ≤ 9 ∧ i = .int .i64 (m : Int) ∧ s = .string ⟨done.toArray⟩ ∧ numF 10 n = done ++ numF (10 - k) m ∧ Ext w wr) (fun i _ _ => (intOf i).toNat)
  case atStart => exact ⟨0, n, [], by simp, by omega, rfl, rfl, by simp, Ext.refl _⟩
  case round =>
    obtain ⟨k, m, done, hmk, hk, rfl, rfl, hnum, hx⟩ := hrel
    have hm : m < 9223372036854775808 := by
      have h1 : m * 1 ≤ m * 128 ^ k := Nat.mul_le_mul_left m (Nat.one_le_pow _ _ (by decide))
      omega
    have hdl : done.length ≤ 10 := by
      have h1 := congrArg List.length hnum
      have h2 := numF_len 10 n
      rw [List.length_append] at h1
      omega
    have HN := Lib.hid hnum; clear hnum
    have HK := Lib.hid hmk; clear hmk
    have HX := Lib.hid hx; clear hx
    have h9 : 128 ≤ m → k < 9 := fun h => by
      rcases Nat.lt_or_ge k 9 with h | h
      · exact h
      · exfalso
        obtain rfl : k = 9 := by omega
        have h1 := HK.out
        have h2 : 128 * 128 ^ 9 ≤ m * 128 ^ 9 := Nat.mul_le_mul_right _ (by assumption)
        have h3 : (128 : Nat) ^ 9 = 9223372036854775808 := by decide
        rw [h3] at h1 h2
        omega
    have H9 := Lib.hid h9; clear h9
    by_cases hlt : 128 ≤ m
    · go_wp2
      go_roundw
      case rel =>
        refine ⟨k + 1, m / 128, done ++ [UInt8.ofNat (128 + m % 128)], ?_, by have := H9.out hlt; omega, by first | rfl | go_num | (congr 1; omega), ?_, ?_, by first | exact HX.out.alloc _ | exact HX.out⟩
        · have h1 := HK.out
          rw [Nat.pow_succ, Nat.mul_comm (128 ^ k), ← Nat.mul_assoc]
          exact Nat.le_trans (Nat.mul_le_mul_right _ (Nat.div_mul_le_self m 128)) h1
        · rw [UInt8.ofNat_add]; rfl
        · have := H9.out hlt
          rw [HN.out, show 10 - k = (9 - k) + 1 by omega, numF_more _ _ hlt, List.append_assoc, show 10 - (k + 1) = 9 - k by omega]; rfl
      case measure => simp [intOf]; omega
    · go_wp2
      go_ret
      refine ⟨?_, by first | exact HX.out.alloc _ | exact HX.out⟩
      have e : numB n = done ++ [UInt8.ofNat m] := by
        unfold numB
        rw [HN.out, show 10 - k = (9 - k) + 1 by omega, numF_last _ _ hlt]
      rw [e]
      rfl
set_option maxRecDepth 100000 in
set_option maxHeartbeats 1000000 in
theorem refText_any (s : List UInt8) (w : World) (hs : s.length ≤ 100000000) :
    Calls Try.prog 132 #[S s] w fun e w' => e = .returned (S (numB s.length ++ s)) ∧ Ext w w' := by
  have happ := ba_append
  unfold S
  go_enter Try.func132, Try.ntmps132
  go_wp2_with fail
  refine (refNumber_any s.length _ (by omega)).mono ?_
  rintro e w1 ⟨rfl, hx⟩
  have HX := Lib.hid hx; clear hx
  unfold S
  have hnl : (numB s.length).length ≤ 10 := numF_len 10 s.length
  go_wp2
  go_ret
  exact ⟨rfl, HX.out⟩
end Go.Proofs.Ytcminppmmhinjaa
