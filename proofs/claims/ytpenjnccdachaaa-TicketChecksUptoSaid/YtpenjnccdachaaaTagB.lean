/- tag.Make -/
import Derived.Test.YtpenjnccdachaaaTag
namespace Go.Proofs.Ytpenjnccdachaaa
set_option linter.unusedSimpArgs false
set_option linter.unusedVariables false
open Go Go.RowKit

/-- The bytes of a number, the highest first. -/
def byteAt (h : Int) (j : Nat) : UInt8 := UInt8.ofNat (h / 2 ^ (8 * (7 - j)) % 256).toNat
def be8 (h : Int) : List UInt8 := (List.range 8).map (byteAt h)
theorem B_mod (x : Int) : B (UInt8.ofNat (x % 256).toNat) = .int .u8 (x % 256) := by
  unfold B
  congr 1
  have h1 : 0 ≤ x % 256 := Int.emod_nonneg _ (by omega)
  have h2 : x % 256 < 256 := Int.emod_lt_of_pos _ (by omega)
  simp
  omega
theorem be8_fill (h : Int) (vs : List Value) (hl : vs.length = 8) (hv : ∀ i, i < 8 → vs[i]? = some (B (byteAt h i))) : vs = (be8 h).map B := by
  apply List.ext_getElem?
  intro i
  by_cases hi : i < 8
  · rw [hv i hi]; simp [be8, List.getElem?_range, hi]
  · rw [List.getElem?_eq_none (by omega), List.getElem?_eq_none (by simp [be8]; omega)]
def tagOf (k b : List UInt8) : List UInt8 := be8 (fnv fnv0 ([UInt8.ofNat k.length] ++ k ++ b ++ k))

set_option maxRecDepth 100000 in
set_option maxHeartbeats 400000 in
theorem make_f (a : Option Addr) (n c : Nat) (k : List UInt8) (a2 : Option Addr) (n2 c2 : Nat) (b : List UInt8) (w : World) (hc : n ≤ c ∧ c ≤ maxLen) (h : By w a n k) (hc2 : n2 ≤ c2 ∧ c2 ≤ maxLen) (h2 : By w a2 n2 b) (hr : rightB n = true) :
    Calls Try.prog 86 #[.slice a n c, .slice a2 n2 c2] w fun e w' => ∃ bb, e = .returned (.slice (some ⟨bb, 0, none⟩) 8 8) ∧ w.heap.size ≤ bb ∧ Ext w w' ∧ Blk w' bb ((tagOf k b).map B) := by
  have hn' : 1 ≤ n ∧ n ≤ 32 := by unfold rightB at hr; simpa using hr
  have R := Lib.hid hr; clear hr
  have H := Lib.hid h; clear h
  have H2 := Lib.hid h2; clear h2
  have HC := Lib.hid hc; clear hc
  have HC2 := Lib.hid hc2; clear hc2
  go_enter Try.func86, Try.ntmps86
  go_wp2_with fail
  refine (tagRight_any _ _ _ _).mono ?_
  rintro e w' ⟨rfl, rfl⟩
  rw [R.out]
  go_wp2_with fail
  have hx1 : Ext w (w.alloc (.cells #[Value.int IntKind.u8 ↑n] 5)) := Ext.new _ _
  have hx2 := hx1.alloc (Obj.cells #[Value.slice (some { block := w.heap.size, off := 0 }) 1 1, Value.slice a n c, Value.slice a2 n2 c2, Value.slice a n c] 23)
  have hb1 : By (w.alloc (.cells #[Value.int IntKind.u8 ↑n] 5)) (some ⟨w.heap.size, 0, none⟩) 1 [UInt8.ofNat n] := By.lit _ [Value.int IntKind.u8 ↑n] _ _ _ _ _ rfl rfl ⟨by unfold B; simp; omega, trivial⟩
  refine (sum_any _ _ _ [[UInt8.ofNat n], k, b, k] _ (by simp [maxLen]) (Bys.lit _ [_, _, _, _] _ _ _ _ _ (by simp) rfl ⟨((hb1.ext (Ext.new _ _)).isSl (by omega) (by simp [maxLen])), (H.out.ext hx2).isSl HC.out.1 HC.out.2, (H2.out.ext hx2).isSl HC2.out.1 HC2.out.2, (H.out.ext hx2).isSl HC.out.1 HC.out.2, trivial⟩)).mono ?_
  rintro e w' ⟨rfl, rfl⟩
  clear hb1
  have HX := Lib.hid hx2; clear hx2 hx1
  obtain ⟨h, hh⟩ : ∃ h, fnv fnv0 [[UInt8.ofNat n], k, b, k].flatten = h := ⟨_, rfl⟩
  rw [hh]
  have HH := Lib.hid hh; clear hh
  have hmk : ∀ w, (Instr.makeSlice 23 (.int .i64 8) (.int .i64 8)).run Try.prog w = .ok (.slice (some ⟨w.heap.size, 0, none⟩) 8 8) (w.alloc (.cells [.int .u8 0, .int .u8 0, .int .u8 0, .int .u8 0, .int .u8 0, .int .u8 0, .int .u8 0, .int .u8 0].toArray 5)) := fun _ => by kernel_rfl
  go_wp2_with fail
  go_loopw [7, 23] (fun _ i wr => ∃ j : Nat, j ≤ 8 ∧ i = .int .i64 j ∧ Ext w wr ∧ ∃ vs, vs.length = 8 ∧ (∀ i, i < j → vs[i]? = some (B (byteAt h i))) ∧ Blk wr (w.heap.size + 1 + 1) vs) (fun _ i _ => 8 - (intOf i).toNat)
  case atStart =>
    exact ⟨0, by omega, rfl, HX.out.alloc _, _, rfl, fun i hi => by omega, Blk.lit _ [_, _, _, _, _, _, _, _] _ _ (by simp)⟩
  case round =>
    obtain ⟨j, hj, rfl, hext, vs, hvs, hvv, hblk⟩ := hrel
    have HV := Lib.hid hvs; clear hvs hmk
    have HVV := Lib.hid hvv; clear hvv
    have HB := Lib.hid hblk
    have HE := Lib.hid hext; clear hext
    by_cases hlt : j < 8
    · obtain ⟨x, hc1⟩ : ∃ x, wr.cell? ⟨w.heap.size + 1 + 1, j, none⟩ = some x := ⟨_, (hblk.cell j).trans (List.getElem?_eq_getElem (by have := HV.out; omega))⟩
      have hc2 : wr.frozen? ⟨w.heap.size + 1 + 1, j, none⟩ = false := hblk.free j
      clear hblk
      go_wp2
      go_roundw
      case rel =>
        refine ⟨j + 1, by omega, by go_num, HE.out.setCell (by show _ ≤ w.heap.size + 1 + 1; omega) _, vs.set j _, by simp [HV.out], fun i hi => ?_, HB.out.set j _⟩
        by_cases hij : i = j
        · subst hij
          rw [List.getElem?_set_self (by have := HV.out; omega)]
          unfold byteAt
          rw [B_mod]
        · rw [List.getElem?_set_ne (Ne.symm hij)]
          exact HVV.out i (by omega)
      case measure => simp [intOf]; omega
    · clear hblk
      go_wp2
      go_ret
      refine ⟨_, rfl, by omega, HE.out, ?_⟩
      have h8 := be8_fill h vs HV.out (fun i hi => HVV.out i (by omega))
      have hb8 := HB.out
      rw [h8] at hb8
      have e : be8 h = tagOf k b := by
        rw [← HH.out]
        unfold tagOf
        simp [H.out.1]
      rw [e] at hb8
      exact hb8
theorem make_any (a : Option Addr) (n c : Nat) (k : List UInt8) (a2 : Option Addr) (n2 c2 : Nat) (b : List UInt8) (w : World) (hc : n ≤ c ∧ c ≤ maxLen) (h : By w a n k) (hc2 : n2 ≤ c2 ∧ c2 ≤ maxLen) (h2 : By w a2 n2 b) (hr : rightB n = true) :
    Calls Try.prog 86 #[.slice a n c, .slice a2 n2 c2] w fun e w' => ∃ v, e = .returned v ∧ Ext w w' ∧ IsBy w' v (tagOf k b) := by
  refine (make_f a n c k a2 n2 c2 b w hc h hc2 h2 hr).mono ?_
  rintro e w' ⟨bb, rfl, _, hx, hb⟩
  have hl : (tagOf k b).length = 8 := by simp [tagOf, be8]
  have := hb.by
  rw [hl] at this
  exact ⟨_, rfl, hx, this.isSl (c := 8) (by omega) (by simp [maxLen])⟩
end Go.Proofs.Ytpenjnccdachaaa
