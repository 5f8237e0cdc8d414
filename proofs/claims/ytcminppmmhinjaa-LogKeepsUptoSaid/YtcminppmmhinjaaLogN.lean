/- Logs: the reference's next head. -/
import Derived.Test.YtcminppmmhinjaaLogB
namespace Go.Proofs.Ytcminppmmhinjaa
set_option linter.unusedSimpArgs false
set_option linter.unusedVariables false
open Go Go.RowKit
set_option maxRecDepth 100000 in
set_option maxHeartbeats 2000000 in
theorem refNext_any (h : Int) (x : LegT) (W : World) (hh : 0 ≤ h ∧ h < 2 ^ 64) (hb : By W x.a x.n x.xs) (hl : x.n ≤ 100000) :
    Calls Try.prog 96 #[.int .u64 h, legV x] W fun e w' => e = .returned (.int .u64 (nextH h x.o x.xs)) ∧ Ext W w' := by
  have hcv := fun (w : World) (x : Int) => conv_one (P := Try.prog) (src := 30) (dst := 9) (e := 5) Try.underlying30 Try.underlying5 Try.underlying9 5 w x
  have happ := ba_append
  obtain ⟨o, a, n, c, xs⟩ := x
  simp only at *
  have hxl : xs.length ≤ 100000 := by have := hb.1; omega
  have HB := Lib.hid hb
  have HF : Hid (nextH h o xs = fnv fnv0 (be8 h ++ [outB o] ++ xs)) := Lib.hid rfl
  obtain ⟨q, hq⟩ : ∃ q, nextH h o xs = q := ⟨_, rfl⟩
  rw [hq] at HF ⊢
  clear hq hb
  have hq0 := hh.1
  have HQ := Lib.hid hh.2
  clear hh
  unfold legV
  simp only
  go_enter Try.func96, Try.ntmps96
  go_wp2_with fail
  have hx := Ext.new W (.cells #[.bool o, .slice a n c] 59)
  have hbk : Blk (W.alloc (.cells #[.bool o, .slice a n c] 59)) W.heap.size [.bool o, .slice a n c] := Blk.new W [_, _] _
  have HW1 := Lib.hid hx
  have HBK := Lib.hid hbk
  clear hx hbk
  generalize W.alloc (.cells #[.bool o, .slice a n c] 59) = w1 at *
  go_loopw [0, 5, 6] (fun q s i wr => ∃ j : Nat, j ≤ 8 ∧ i = .int .i64 j ∧ q = .int .u64 (h / 2 ^ (8 * j)) ∧ Ext w1 wr ∧ s = .string ⟨((List.range' (8 - j) j).map (byteAt h)).toArray⟩) (fun _ _ i _ => 8 - (intOf i).toNat)
  case atStart => exact ⟨0, by omega, rfl, by simp, Ext.refl _, by simp⟩
  case round =>
    obtain ⟨j, hj, rfl, rfl, hext, rfl⟩ := hrel
    obtain ⟨g, hg⟩ : ∃ g, h / 2 ^ (8 * j) = g := ⟨_, rfl⟩
    have hg0 : 0 ≤ g := by rw [← hg]; exact Int.ediv_nonneg hq0 (Int.le_of_lt (Int.pow_pos (by decide)))
    rw [hg]
    have HH := Lib.hid hg; clear hg
    obtain ⟨l, hl2⟩ : ∃ l, (List.range' (8 - j) j).map (byteAt h) = l := ⟨_, rfl⟩
    rw [hl2]
    have hll : l.length ≤ 8 := by rw [← hl2]; simp; omega
    have HL := Lib.hid hl2; clear hl2
    have HE := Lib.hid hext; clear hext
    by_cases hlt : j < 8
    · go_wp2
      go_roundw
      case rel => exact ⟨j + 1, by omega, by go_num, by rw [← HH.out, wrap_div _ _ hq0 HQ.out], HE.out.alloc _, by rw [lo_next _ _ hlt, HH.out, HL.out]⟩
      case measure => simp [intOf]; omega
    · obtain rfl : j = 8 := by omega
      have e : l = be8 h := by rw [← HL.out, be8_range]
      have HF2 : Hid (q = fnv fnv0 (l ++ outB o :: xs)) := Lib.hid (by rw [HF.out, ← e]; simp)
      clear e
      have hbk := HBK.out.ext HE.out
      have hc0 := hbk.cell 0
      have hc1 := hbk.cell 1
      simp only [List.getElem?_cons_zero, List.getElem?_cons_succ] at hc0 hc1
      have hcb := conv_bs (P := Try.prog) (src := 30) (dst := 9) (c := c) Try.underlying30 Try.underlying5 Try.underlying9 ((HB.out.ext HW1.out).ext HE.out)
      unfold S at hcb
      have happ0 : ∀ a : List UInt8, (⟨a.toArray⟩ : ByteArray) ++ ⟨#[0]⟩ = ⟨(a ++ [0]).toArray⟩ := fun a => ba_append a [0]
      have happ1 : ∀ a : List UInt8, (⟨a.toArray⟩ : ByteArray) ++ ⟨#[1]⟩ = ⟨(a ++ [1]).toArray⟩ := fun a => ba_append a [1]
      clear hbk hcv
      cases o with
      | false =>
        go_wp2_with fail
        refine (refSum_any (l ++ 0 :: xs) _ (by simp [maxLen]; omega)).mono ?_
        rintro e w' ⟨rfl, rfl⟩
        go_wp2_with fail
        go_ret
        exact ⟨by rw [HF2.out]; rfl, HW1.out.trans HE.out⟩
      | true =>
        go_wp2_with fail
        refine (refSum_any (l ++ 1 :: xs) _ (by simp [maxLen]; omega)).mono ?_
        rintro e w' ⟨rfl, rfl⟩
        go_wp2_with fail
        go_ret
        exact ⟨by rw [HF2.out]; rfl, HW1.out.trans HE.out⟩
end Go.Proofs.Ytcminppmmhinjaa
