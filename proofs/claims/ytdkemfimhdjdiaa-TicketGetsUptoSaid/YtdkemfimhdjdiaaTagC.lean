/- The package tag and its reference: the sum, the tag, which tag is good. -/
import Derived.Test.YtdkemfimhdjdiaaSepW
import Derived.Test.YtdkemfimhdjdiaaRows
namespace Go.Proofs.Ytdkemfimhdjdiaa
set_option linter.unusedSimpArgs false
set_option linter.unusedVariables false
open Go Go.RowKit

def fnvStep (h : Int) (c : UInt8) : Int := IntKind.u64.wrap (bits BinOp.xor IntKind.u64 h (IntKind.u64.wrap (c.toNat : Int)) * 1099511628211)
def fnv (h : Int) (xs : List UInt8) : Int := xs.foldl fnvStep h
theorem fnv_append (h : Int) (xs ys : List UInt8) : fnv h (xs ++ ys) = fnv (fnv h xs) ys := List.foldl_append
def fnv0 : Int := 14695981039346656037

theorem take_succ_of {α : Type} (l : List α) (k : Nat) (h : k < l.length) : l.take (k + 1) = l.take k ++ [l[k]] := by
  rw [List.take_succ_eq_append_getElem h]
theorem fnv_take (h : Int) (l : List UInt8) (k : Nat) (hk : k < l.length) : fnv h (l.take (k + 1)) = fnvStep (fnv h (l.take k)) l[k] := by
  rw [take_succ_of l k hk, fnv_append]; rfl
theorem fnv_flat (h : Int) (l : List (List UInt8)) (k : Nat) (hk : k < l.length) : fnv h (l.take (k + 1)).flatten = fnv (fnv h (l.take k).flatten) l[k] := by
  rw [take_succ_of l k hk, List.flatten_append, fnv_append]; simp

set_option maxHeartbeats 400000 in
theorem refSum_any (l : List UInt8) (w : World) (hs : l.length ≤ maxLen) :
    Calls Try.prog 61 #[S l] w fun e w' => e = .returned (.int .u64 (fnv fnv0 l)) ∧ w = w' := by
  unfold maxLen at hs
  unfold S
  go_enter Try.func61, Try.ntmps61
  go_wp2
  go_loop [3, 4] (fun h i => ∃ k : Nat, k ≤ l.length ∧ i = .int .i64 k ∧ h = .int .u64 (fnv fnv0 (l.take k))) (fun _ i => l.length - (intOf i).toNat)
  case atStart => exact ⟨0, Nat.zero_le _, rfl, rfl⟩
  case round =>
    obtain ⟨k, hk, rfl, rfl⟩ := hrel
    by_cases hlt : k < l.length
    · go_wp2
      go_round
      case rel => exact ⟨k + 1, by omega, by go_num, by rw [fnv_take _ _ _ hlt]; rfl⟩
      case measure => simp [intOf]; omega
    · go_wp2
      go_ret
      exact ⟨by rw [List.take_of_length_le (by omega)]; rfl, rfl⟩

def rightB (n : Nat) : Bool := decide (1 ≤ n ∧ n ≤ 32)
set_option maxHeartbeats 400000 in
theorem tagRight_any (a : Option Addr) (n c : Nat) (w : World) :
    Calls Try.prog 106 #[.slice a n c] w fun e w' => e = .returned (.bool (rightB n)) ∧ w = w' := by
  have hfin : ∀ b : Bool, (b = true ↔ 1 ≤ n ∧ n ≤ 32) → rightB n = b := fun b hb => by unfold rightB; cases b <;> simp_all
  have H := Lib.hid hfin; clear hfin
  by_cases h1 : 1 ≤ n
  · go_enter Try.func106, Try.ntmps106
    go_wp2
    go_ret
    exact ⟨by rw [H.out (decide ((n : Int) ≤ 32)) (by simp; omega)]; rfl, rfl⟩
  · go_enter Try.func106, Try.ntmps106
    go_wp2
    go_ret
    exact ⟨by rw [H.out false (by simp; omega)]; rfl, rfl⟩

abbrev Bys (w : World) (a : Option Addr) (n : Nat) (xss : List (List UInt8)) : Prop := Arr 1 sliceR w a n xss
theorem Bys.at {w : World} {a : Option Addr} {n : Nat} {xs : List (List UInt8)} (h : Bys w a n xs) {k : Nat} (hk : k < n) :
    ∃ b off a' n' c', a = some ⟨b, off, none⟩ ∧ w.cell? ⟨b, off + k, none⟩ = some (.slice a' n' c') ∧ n' ≤ maxLen ∧ ∃ h' : k < xs.length, By w a' n' xs[k] := by
  obtain ⟨b, off, ha, hc⟩ := h.2 (by omega)
  have hk' : k < xs.length := h.1 ▸ hk
  obtain ⟨v, h1, a', n', c', rfl, h2, h3, h4⟩ := hc k xs[k] (List.getElem?_eq_getElem hk')
  rw [Nat.mul_one] at h1
  exact ⟨b, off, a', n', c', ha, h1, Nat.le_trans h2 h3, hk', h4⟩

set_option maxHeartbeats 400000 in
theorem sum_any (a : Option Addr) (n c : Nat) (xss : List (List UInt8)) (w : World) (hn : n ≤ maxLen) (h : Bys w a n xss) :
    Calls Try.prog 63 #[.slice a n c] w fun e w' => e = .returned (.int .u64 (fnv fnv0 xss.flatten)) ∧ w = w' := by
  unfold maxLen at hn
  have hl := h.1
  have HL := Lib.hid hl; clear hl
  have HB := Lib.hid h; clear h
  go_enter Try.func63, Try.ntmps63
  go_wp2
  go_loop [3, 10] (fun h i => ∃ k : Nat, k ≤ n ∧ i = .int .i64 k ∧ h = .int .u64 (fnv fnv0 (xss.take k).flatten)) (fun _ i => n - (intOf i).toNat)
  case atStart => exact ⟨0, Nat.zero_le _, rfl, rfl⟩
  case round =>
    obtain ⟨k, hk, rfl, rfl⟩ := hrel
    by_cases hlt : k < n
    · obtain ⟨b, off, a', n', c', rfl, hcell, hn', hk', hb⟩ := HB.out.at hlt
      have HI := Lib.hid hb; clear hb
      unfold maxLen at hn'
      go_wp2
      go_loop [3, 16] (fun h i => ∃ j : Nat, j ≤ n' ∧ i = .int .i64 j ∧ h = .int .u64 (fnv (fnv fnv0 (xss.take k).flatten) (xss[k].take j))) (fun _ i => n' - (intOf i).toNat)
      case atStart => exact ⟨0, Nat.zero_le _, rfl, rfl⟩
      case round =>
        obtain ⟨j, hj, rfl, rfl⟩ := hrel
        by_cases hlt' : j < n'
        · obtain ⟨b', off', rfl, _, hj', hc'⟩ := HI.out.at hlt'
          go_wp2
          go_round
          case rel => exact ⟨j + 1, by omega, by go_num, by rw [fnv_take _ _ _ hj']; rfl⟩
          case measure => simp [intOf]; omega
        · go_wp2
          go_round
          case rel => exact ⟨k + 1, by omega, by go_num, by rw [fnv_flat _ _ _ hk', List.take_of_length_le (l := xss[k]) (by have := HI.out.1; omega)]⟩
          case measure => simp [intOf]; omega
    · go_wp2
      go_ret
      exact ⟨by rw [List.take_of_length_le (by have := HL.out; omega)]; rfl, rfl⟩
end Go.Proofs.Ytdkemfimhdjdiaa

namespace Go.Proofs.Ytdkemfimhdjdiaa
set_option linter.unusedSimpArgs false
set_option linter.unusedVariables false
open Go Go.RowKit

/-- The bytes of a number, the highest first. -/
def byteAt (h : Int) (j : Nat) : UInt8 := UInt8.ofNat (h / 2 ^ (8 * (7 - j)) % 256).toNat
def be8 (h : Int) : List UInt8 := (List.range 8).map (byteAt h)
theorem B_mod (x : Int) : B (UInt8.ofNat (x % 256).toNat) = .int .u8 (x % 256) := by
  unfold B
  congr 1
  have h1 : 0 ≤ x % 256 := Int.emod_nonneg _ (by omega)
  have h2 : x % 256 < 256 := Int.emod_lt_of_pos _ (by omega)
  simp
  omega
theorem be8_fill (h : Int) (vs : List Value) (hl : vs.length = 8) (hv : ∀ i, i < 8 → vs[i]? = some (B (byteAt h i))) : vs = (be8 h).map B := by
  apply List.ext_getElem?
  intro i
  by_cases hi : i < 8
  · rw [hv i hi]; simp [be8, List.getElem?_range, hi]
  · rw [List.getElem?_eq_none (by omega), List.getElem?_eq_none (by simp [be8]; omega)]
def tagOf (k b : List UInt8) : List UInt8 := be8 (fnv fnv0 ([UInt8.ofNat k.length] ++ k ++ b ++ k))

set_option maxRecDepth 100000 in
set_option maxHeartbeats 400000 in
theorem make_f (a : Option Addr) (n c : Nat) (k : List UInt8) (a2 : Option Addr) (n2 c2 : Nat) (b : List UInt8) (w : World) (hc : n ≤ c ∧ c ≤ maxLen) (h : By w a n k) (hc2 : n2 ≤ c2 ∧ c2 ≤ maxLen) (h2 : By w a2 n2 b) (hr : rightB n = true) :
    Calls Try.prog 84 #[.slice a n c, .slice a2 n2 c2] w fun e w' => ∃ bb, e = .returned (.slice (some ⟨bb, 0, none⟩) 8 8) ∧ w.heap.size ≤ bb ∧ Ext w w' ∧ Blk w' bb ((tagOf k b).map B) := by
  have hn' : 1 ≤ n ∧ n ≤ 32 := by unfold rightB at hr; simpa using hr
  have R := Lib.hid hr; clear hr
  have H := Lib.hid h; clear h
  have H2 := Lib.hid h2; clear h2
  have HC := Lib.hid hc; clear hc
  have HC2 := Lib.hid hc2; clear hc2
  go_enter Try.func84, Try.ntmps84
  go_wp2_with fail
  refine (tagRight_any _ _ _ _).mono ?_
  rintro e w' ⟨rfl, rfl⟩
  rw [R.out]
  go_wp2_with fail
  have hx1 : Ext w (w.alloc (.cells #[Value.int IntKind.u8 ↑n] 5)) := Ext.new _ _
  have hx2 := hx1.alloc (Obj.cells #[Value.slice (some { block := w.heap.size, off := 0 }) 1 1, Value.slice a n c, Value.slice a2 n2 c2, Value.slice a n c] 30)
  have hb1 : By (w.alloc (.cells #[Value.int IntKind.u8 ↑n] 5)) (some ⟨w.heap.size, 0, none⟩) 1 [UInt8.ofNat n] := By.lit _ [Value.int IntKind.u8 ↑n] _ _ _ _ _ rfl rfl ⟨by unfold B; simp; omega, trivial⟩
  refine (sum_any _ _ _ [[UInt8.ofNat n], k, b, k] _ (by simp [maxLen]) (Bys.lit _ [_, _, _, _] _ _ _ _ _ (by simp) rfl ⟨((hb1.ext (Ext.new _ _)).isSl (by omega) (by simp [maxLen])), (H.out.ext hx2).isSl HC.out.1 HC.out.2, (H2.out.ext hx2).isSl HC2.out.1 HC2.out.2, (H.out.ext hx2).isSl HC.out.1 HC.out.2, trivial⟩)).mono ?_
  rintro e w' ⟨rfl, rfl⟩
  clear hb1
  have HX := Lib.hid hx2; clear hx2 hx1
  obtain ⟨h, hh⟩ : ∃ h, fnv fnv0 [[UInt8.ofNat n], k, b, k].flatten = h := ⟨_, rfl⟩
  rw [hh]
  have HH := Lib.hid hh; clear hh
  have hmk : ∀ w, (Instr.makeSlice 30 (.int .i64 8) (.int .i64 8)).run Try.prog w = .ok (.slice (some ⟨w.heap.size, 0, none⟩) 8 8) (w.alloc (.cells [.int .u8 0, .int .u8 0, .int .u8 0, .int .u8 0, .int .u8 0, .int .u8 0, .int .u8 0, .int .u8 0].toArray 5)) := fun _ => by kernel_rfl
  go_wp2_with fail
  go_loopw [7, 23] (fun _ i wr => ∃ j : Nat, j ≤ 8 ∧ i = .int .i64 j ∧ Ext w wr ∧ ∃ vs, vs.length = 8 ∧ (∀ i, i < j → vs[i]? = some (B (byteAt h i))) ∧ Blk wr (w.heap.size + 1 + 1) vs) (fun _ i _ => 8 - (intOf i).toNat)
  case atStart =>
    exact ⟨0, by omega, rfl, HX.out.alloc _, _, rfl, fun i hi => by omega, Blk.lit _ [_, _, _, _, _, _, _, _] _ _ (by simp)⟩
  case round =>
    obtain ⟨j, hj, rfl, hext, vs, hvs, hvv, hblk⟩ := hrel
    have HV := Lib.hid hvs; clear hvs hmk
    have HVV := Lib.hid hvv; clear hvv
    have HB := Lib.hid hblk
    have HE := Lib.hid hext; clear hext
    by_cases hlt : j < 8
    · obtain ⟨x, hc1⟩ : ∃ x, wr.cell? ⟨w.heap.size + 1 + 1, j, none⟩ = some x := ⟨_, (hblk.cell j).trans (List.getElem?_eq_getElem (by have := HV.out; omega))⟩
      have hc2 : wr.frozen? ⟨w.heap.size + 1 + 1, j, none⟩ = false := hblk.free j
      clear hblk
      go_wp2
      go_roundw
      case rel =>
        refine ⟨j + 1, by omega, by go_num, HE.out.setCell (by show _ ≤ w.heap.size + 1 + 1; omega) _, vs.set j _, by simp [HV.out], fun i hi => ?_, HB.out.set j _⟩
        by_cases hij : i = j
        · subst hij
          rw [List.getElem?_set_self (by have := HV.out; omega)]
          unfold byteAt
          rw [B_mod]
        · rw [List.getElem?_set_ne (Ne.symm hij)]
          exact HVV.out i (by omega)
      case measure => simp [intOf]; omega
    · clear hblk
      go_wp2
      go_ret
      refine ⟨_, rfl, by omega, HE.out, ?_⟩
      have h8 := be8_fill h vs HV.out (fun i hi => HVV.out i (by omega))
      have hb8 := HB.out
      rw [h8] at hb8
      have e : be8 h = tagOf k b := by
        rw [← HH.out]
        unfold tagOf
        simp [H.out.1]
      rw [e] at hb8
      exact hb8
theorem make_any (a : Option Addr) (n c : Nat) (k : List UInt8) (a2 : Option Addr) (n2 c2 : Nat) (b : List UInt8) (w : World) (hc : n ≤ c ∧ c ≤ maxLen) (h : By w a n k) (hc2 : n2 ≤ c2 ∧ c2 ≤ maxLen) (h2 : By w a2 n2 b) (hr : rightB n = true) :
    Calls Try.prog 84 #[.slice a n c, .slice a2 n2 c2] w fun e w' => ∃ v, e = .returned v ∧ Ext w w' ∧ IsBy w' v (tagOf k b) := by
  refine (make_f a n c k a2 n2 c2 b w hc h hc2 h2 hr).mono ?_
  rintro e w' ⟨bb, rfl, _, hx, hb⟩
  have hl : (tagOf k b).length = 8 := by simp [tagOf, be8]
  have := hb.by
  rw [hl] at this
  exact ⟨_, rfl, hx, this.isSl (c := 8) (by omega) (by simp [maxLen])⟩
end Go.Proofs.Ytdkemfimhdjdiaa

namespace Go.Proofs.Ytdkemfimhdjdiaa
set_option linter.unusedSimpArgs false
set_option linter.unusedVariables false
open Go Go.RowKit
theorem byteAt_lo (h : Int) (i : Nat) (hi : i < 8) : byteAt h (7 - i) = UInt8.ofNat (h / 2 ^ (8 * i) % 256).toNat := by
  unfold byteAt
  rw [show 7 - (7 - i) = i by omega]
theorem div_next (h : Int) (i : Nat) : h / 2 ^ (8 * i) / 256 = h / 2 ^ (8 * (i + 1)) := by
  rw [Int.ediv_ediv_of_nonneg (by exact Int.le_of_lt (Int.pow_pos (by decide))), show 8 * (i + 1) = 8 * i + 8 by omega, Int.pow_add]
  rfl
theorem fnv_nonneg (h : Int) (l : List UInt8) (h0 : 0 ≤ h) : 0 ≤ fnv h l := by
  unfold fnv
  induction l generalizing h with
  | nil => exact h0
  | cons c l ih => exact ih _ (by unfold fnvStep IntKind.wrap; simp [IntKind.signed]; exact Int.emod_nonneg _ (by decide))
theorem fnv_lt (h : Int) (l : List UInt8) (h0 : h < 2 ^ 64) : fnv h l < 2 ^ 64 := by
  unfold fnv
  induction l generalizing h with
  | nil => exact h0
  | cons c l ih => exact ih _ (by unfold fnvStep IntKind.wrap; simp [IntKind.signed]; exact Int.emod_lt_of_pos _ (by decide))
theorem wrap_div (q : Int) (j : Nat) (h0 : 0 ≤ q) (h1 : q < 2 ^ 64) : IntKind.u64.wrap ((q / 2 ^ (8 * j)).tdiv 256) = q / 2 ^ (8 * (j + 1)) := by
  have hp : (0 : Int) < 2 ^ (8 * j) := Int.pow_pos (by decide)
  have hq : 0 ≤ q / 2 ^ (8 * j) := Int.ediv_nonneg h0 (Int.le_of_lt hp)
  have hq1 : q / 2 ^ (8 * j) ≤ q := Int.ediv_le_self _ h0
  rw [Int.tdiv_eq_ediv_of_nonneg hq, div_next]
  have hp' : (0 : Int) < 2 ^ (8 * (j + 1)) := Int.pow_pos (by decide)
  have h2 : 0 ≤ q / 2 ^ (8 * (j + 1)) := Int.ediv_nonneg h0 (Int.le_of_lt hp')
  have h3 : q / 2 ^ (8 * (j + 1)) ≤ q := Int.ediv_le_self _ h0
  generalize q / 2 ^ (8 * (j + 1)) = r at *
  unfold IntKind.wrap
  simp [IntKind.signed, IntKind.bits]
  exact Int.emod_eq_of_lt h2 (by have : (2 : Int) ^ 64 = 18446744073709551616 := by decide
                                 omega)
theorem lo_next (q : Int) (j : Nat) (hj : j < 8) : (List.range' (8 - (j + 1)) (j + 1)).map (byteAt q) = UInt8.ofNat (q / 2 ^ (8 * j) % 256).toNat :: (List.range' (8 - j) j).map (byteAt q) := by
  rw [List.range'_succ, List.map_cons, show 8 - (j + 1) = 7 - j by omega, byteAt_lo q j hj, show 7 - j + 1 = 8 - j by omega]
theorem be8_range (h : Int) : (List.range' (8 - 8) 8).map (byteAt h) = be8 h := by
  simp [be8, List.range_eq_range']
end Go.Proofs.Ytdkemfimhdjdiaa
