/- Logs: which entry is the first that does not bring its head; plain laws. -/
import Derived.Test.YtcminppmmhinjaaLogC
import Derived.Test.YtcminppmmhinjaaFnvM
namespace Go.Proofs.Ytcminppmmhinjaa
set_option linter.unusedSimpArgs false
set_option linter.unusedVariables false
open Go Go.RowKit
/-- The first of k indices from i on that is bad, or the one behind them. -/
def chkFrom (bad : Nat → Bool) : Nat → Nat → Nat
  | i, 0 => i
  | i, k + 1 => if bad i then i else chkFrom bad (i + 1) k
theorem chkFrom_step (bad : Nat → Bool) (j m : Nat) (h : j < m) : chkFrom bad j (m - j) = if bad j then j else chkFrom bad (j + 1) (m - (j + 1)) := by
  obtain ⟨k, hk⟩ : ∃ k, m - j = k + 1 := ⟨m - j - 1, by omega⟩
  rw [hk, show m - (j + 1) = k by omega]; rfl
theorem chkFrom_none (bad : Nat → Bool) : ∀ (k j : Nat), (∀ i, j ≤ i → i < j + k → bad i = false) → chkFrom bad j k = j + k
  | 0, j, _ => rfl
  | k + 1, j, h => by
    unfold chkFrom
    rw [h j (Nat.le_refl _) (by omega)]
    simp only [Bool.false_eq_true, if_false]
    rw [chkFrom_none bad k (j + 1) fun i h1 h2 => h i (by omega) (by omega)]; omega
theorem chkFrom_first (bad : Nat → Bool) (n : Nat) (hb : bad n = true) : ∀ (k j : Nat), j ≤ n → n < j + k → (∀ i, j ≤ i → i < n → bad i = false) → chkFrom bad j k = n
  | 0, j, h1, h2, _ => by omega
  | k + 1, j, h1, h2, h => by
    unfold chkFrom
    by_cases e : j = n
    · subst e; rw [hb]; rfl
    · rw [h j (Nat.le_refl _) (by omega)]
      simp only [Bool.false_eq_true, if_false]
      exact chkFrom_first bad n hb k (j + 1) (by omega) (by omega) fun i h3 h4 => h i (by omega) h4
theorem chkFrom_le (bad : Nat → Bool) : ∀ (k j : Nat), chkFrom bad j k ≤ j + k
  | 0, j => Nat.le_refl _
  | k + 1, j => by
    unfold chkFrom
    split
    · omega
    · have := chkFrom_le bad k (j + 1); omega
/-- Does the entry at i of cs not bring the head that es had? -/
def badAt (es cs : List Ent) (i : Nat) : Bool := match cs[i]? with
  | some c => nextH (lastH (es.take i)) c.1 c.2 != lastH (es.take (i + 1))
  | none => true
def chkN (es cs : List Ent) : Nat := chkFrom (badAt es cs) 0 es.length
theorem badAt_eq (es cs : List Ent) (i : Nat) (h : cs[i]? = es[i]?) (hi : i < es.length) : badAt es cs i = false := by
  unfold badAt
  rw [h, List.getElem?_eq_getElem hi]
  simp only
  rw [← List.take_append_getElem hi, lastH_snoc]
  simp
theorem chkN_self (es : List Ent) : chkN es es = es.length := by
  unfold chkN
  rw [chkFrom_none _ _ _ fun i _ h => badAt_eq es es i rfl (by omega)]; omega
theorem nextH_one (h : Int) (o : Bool) (xs : List UInt8) (j : Nat) (b : UInt8) (hj : j < xs.length) (hb : b ≠ xs[j]) : nextH h o (xs.set j b) ≠ nextH h o xs := fun q => by
  have e1 : xs = xs.take j ++ xs[j] :: xs.drop (j + 1) := by simp
  have e2 : xs.set j b = xs.take j ++ b :: xs.drop (j + 1) := List.set_eq_take_append_cons_drop .. |>.trans (if_pos hj)
  unfold nextH at q
  rw [e2] at q
  conv at q => rhs; rw [e1]
  rw [← List.append_assoc, ← List.append_assoc] at q
  exact hb (fnv_one _ _ _ _ _ (by decide) q)
/-- One byte of the entry n is another: the check ends there. -/
theorem chkN_spoiled (es : List Ent) (n j : Nat) (o : Bool) (xs : List UInt8) (b : UInt8) (hn : es[n]? = some (o, xs)) (hj : j < xs.length) (hb : b ≠ xs[j]) : chkN es (es.set n (o, xs.set j b)) = n := by
  have hnl : n < es.length := (List.getElem?_eq_some_iff.1 hn).1
  have hne : es[n] = (o, xs) := (List.getElem?_eq_some_iff.1 hn).2
  unfold chkN
  refine chkFrom_first _ n ?_ _ 0 (by omega) (by omega) fun i _ hi => ?_
  · unfold badAt
    rw [List.getElem?_set, if_pos rfl, if_pos hnl]
    simp only
    rw [← List.take_append_getElem hnl, lastH_snoc, hne]
    simp only [bne_iff_ne, ne_eq]
    exact nextH_one _ o xs j b hj hb
  · refine badAt_eq es _ i ?_ (by omega)
    rw [List.getElem?_set, if_neg (by omega)]
/-- Where two lists of heads are unlike. -/
def splitN (xs ys : List HdT) : Nat := chkFrom (fun i => xs[i]? != ys[i]?) 0 (min xs.length ys.length)
theorem splitN_le (xs ys : List HdT) : splitN xs ys ≤ min xs.length ys.length := by have := chkFrom_le (fun i => xs[i]? != ys[i]?) (min xs.length ys.length) 0; unfold splitN; omega
theorem splitN_eq (xs ys : List HdT) (h : ∀ i, i < min xs.length ys.length → xs[i]? = ys[i]?) : splitN xs ys = min xs.length ys.length := by
  unfold splitN
  rw [chkFrom_none _ _ _ fun i _ hi => by simp [h i (by omega)]]; omega
theorem splitN_self (xs : List HdT) : splitN xs xs = xs.length := by rw [splitN_eq _ _ fun _ _ => rfl]; omega
theorem splitN_pre (es fs : List Ent) : splitN (hds (es ++ fs)) (hds es) = es.length + 1 := by
  have e : min (hds (es ++ fs)).length (hds es).length = es.length + 1 := by simp only [hds_len, List.length_append]; omega
  rw [splitN_eq, e]
  intro i hi
  rw [e] at hi
  rw [hds_get _ _ (by simp; omega), hds_get _ _ (by omega), List.take_append_of_le_length (by omega)]
/-- A bit is turned. -/
def turn (x : UInt8) (k : Nat) : UInt8 := UInt8.ofNat (x.toNat ^^^ 2 ^ k)
theorem turn_ne (x : UInt8) (k : Nat) (h : k < 8) : turn x k ≠ x := xor_ne x _ (Nat.two_pow_pos _) (by
  calc 2 ^ k ≤ 2 ^ 7 := Nat.pow_le_pow_right (by decide) (by omega)
    _ < 256 := by decide)
theorem turn_turn (x : UInt8) (k : Nat) (h : k < 8) : turn (turn x k) k = x := by
  have h1 : 2 ^ k < 256 := by
    calc 2 ^ k ≤ 2 ^ 7 := Nat.pow_le_pow_right (by decide) (by omega)
      _ < 256 := by decide
  have h2 : x.toNat ^^^ 2 ^ k < 256 := Nat.xor_lt_two_pow (n := 8) x.toNat_lt (by omega)
  apply UInt8.toNat.inj
  unfold turn
  simp [Nat.mod_eq_of_lt h2, Nat.xor_assoc]
end Go.Proofs.Ytcminppmmhinjaa
