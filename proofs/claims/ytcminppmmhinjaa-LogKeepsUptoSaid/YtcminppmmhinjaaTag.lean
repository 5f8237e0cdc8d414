/- The package tag and its reference: the sum, the tag, which tag is good. -/
import Derived.Test.YtcminppmmhinjaaBase
import Derived.Test.YtcminppmmhinjaaRegion
import Derived.Test.YtcminppmmhinjaaRows
namespace Go.Proofs.Ytcminppmmhinjaa
set_option linter.unusedSimpArgs false
set_option linter.unusedVariables false
open Go Go.RowKit

def fnvStep (h : Int) (c : UInt8) : Int := IntKind.u64.wrap (bits BinOp.xor IntKind.u64 h (IntKind.u64.wrap (c.toNat : Int)) * 1099511628211)
def fnv (h : Int) (xs : List UInt8) : Int := xs.foldl fnvStep h
theorem fnv_append (h : Int) (xs ys : List UInt8) : fnv h (xs ++ ys) = fnv (fnv h xs) ys := List.foldl_append
def fnv0 : Int := 14695981039346656037

theorem take_succ_of {α : Type} (l : List α) (k : Nat) (h : k < l.length) : l.take (k + 1) = l.take k ++ [l[k]] := by
  rw [List.take_succ_eq_append_getElem h]
theorem fnv_take (h : Int) (l : List UInt8) (k : Nat) (hk : k < l.length) : fnv h (l.take (k + 1)) = fnvStep (fnv h (l.take k)) l[k] := by
  rw [take_succ_of l k hk, fnv_append]; rfl
theorem fnv_flat (h : Int) (l : List (List UInt8)) (k : Nat) (hk : k < l.length) : fnv h (l.take (k + 1)).flatten = fnv (fnv h (l.take k).flatten) l[k] := by
  rw [take_succ_of l k hk, List.flatten_append, fnv_append]; simp

set_option maxHeartbeats 400000 in
theorem refSum_any (l : List UInt8) (w : World) (hs : l.length ≤ maxLen) :
    Calls Try.prog 95 #[S l] w fun e w' => e = .returned (.int .u64 (fnv fnv0 l)) ∧ w = w' := by
  unfold maxLen at hs
  unfold S
  go_enter Try.func95, Try.ntmps95
  go_wp2
  go_loop [3, 4] (fun h i => ∃ k : Nat, k ≤ l.length ∧ i = .int .i64 k ∧ h = .int .u64 (fnv fnv0 (l.take k))) (fun _ i => l.length - (intOf i).toNat)
  case atStart => exact ⟨0, Nat.zero_le _, rfl, rfl⟩
  case round =>
    obtain ⟨k, hk, rfl, rfl⟩ := hrel
    by_cases hlt : k < l.length
    · go_wp2
      go_round
      case rel => exact ⟨k + 1, by omega, by go_num, by rw [fnv_take _ _ _ hlt]; rfl⟩
      case measure => simp [intOf]; omega
    · go_wp2
      go_ret
      exact ⟨by rw [List.take_of_length_le (by omega)]; rfl, rfl⟩

def rightB (n : Nat) : Bool := decide (1 ≤ n ∧ n ≤ 32)
abbrev Bys (w : World) (a : Option Addr) (n : Nat) (xss : List (List UInt8)) : Prop := Arr 1 sliceR w a n xss
theorem Bys.at {w : World} {a : Option Addr} {n : Nat} {xs : List (List UInt8)} (h : Bys w a n xs) {k : Nat} (hk : k < n) :
    ∃ b off a' n' c', a = some ⟨b, off, none⟩ ∧ w.cell? ⟨b, off + k, none⟩ = some (.slice a' n' c') ∧ n' ≤ maxLen ∧ ∃ h' : k < xs.length, By w a' n' xs[k] := by
  obtain ⟨b, off, ha, hc⟩ := h.2 (by omega)
  have hk' : k < xs.length := h.1 ▸ hk
  obtain ⟨v, h1, a', n', c', rfl, h2, h3, h4⟩ := hc k xs[k] (List.getElem?_eq_getElem hk')
  rw [Nat.mul_one] at h1
  exact ⟨b, off, a', n', c', ha, h1, Nat.le_trans h2 h3, hk', h4⟩

set_option maxHeartbeats 400000 in
theorem sum_any (a : Option Addr) (n c : Nat) (xss : List (List UInt8)) (w : World) (hn : n ≤ maxLen) (h : Bys w a n xss) :
    Calls Try.prog 97 #[.slice a n c] w fun e w' => e = .returned (.int .u64 (fnv fnv0 xss.flatten)) ∧ w = w' := by
  unfold maxLen at hn
  have hl := h.1
  have HL := Lib.hid hl; clear hl
  have HB := Lib.hid h; clear h
  go_enter Try.func97, Try.ntmps97
  go_wp2
  go_loop [3, 10] (fun h i => ∃ k : Nat, k ≤ n ∧ i = .int .i64 k ∧ h = .int .u64 (fnv fnv0 (xss.take k).flatten)) (fun _ i => n - (intOf i).toNat)
  case atStart => exact ⟨0, Nat.zero_le _, rfl, rfl⟩
  case round =>
    obtain ⟨k, hk, rfl, rfl⟩ := hrel
    by_cases hlt : k < n
    · obtain ⟨b, off, a', n', c', rfl, hcell, hn', hk', hb⟩ := HB.out.at hlt
      have HI := Lib.hid hb; clear hb
      unfold maxLen at hn'
      go_wp2
      go_loop [3, 16] (fun h i => ∃ j : Nat, j ≤ n' ∧ i = .int .i64 j ∧ h = .int .u64 (fnv (fnv fnv0 (xss.take k).flatten) (xss[k].take j))) (fun _ i => n' - (intOf i).toNat)
      case atStart => exact ⟨0, Nat.zero_le _, rfl, rfl⟩
      case round =>
        obtain ⟨j, hj, rfl, rfl⟩ := hrel
        by_cases hlt' : j < n'
        · obtain ⟨b', off', rfl, _, hj', hc'⟩ := HI.out.at hlt'
          go_wp2
          go_round
          case rel => exact ⟨j + 1, by omega, by go_num, by rw [fnv_take _ _ _ hj']; rfl⟩
          case measure => simp [intOf]; omega
        · go_wp2
          go_round
          case rel => exact ⟨k + 1, by omega, by go_num, by rw [fnv_flat _ _ _ hk', List.take_of_length_le (l := xss[k]) (by have := HI.out.1; omega)]⟩
          case measure => simp [intOf]; omega
    · go_wp2
      go_ret
      exact ⟨by rw [List.take_of_length_le (by have := HL.out; omega)]; rfl, rfl⟩
end Go.Proofs.Ytcminppmmhinjaa
