/- What came in, where it is of a bounded bulk. -/
import Derived.Test.YtcminppmmhinjaaRows
import Derived.Test.YtcminppmmhinjaaOpen
import Derived.Test.YtcminppmmhinjaaFlat
import Derived.Deep.Strs
namespace Go.Proofs.Ytcminppmmhinjaa
set_option linter.unusedSimpArgs false
set_option linter.unusedVariables false
open Go Go.RowKit Go.ChangeShapes Go.WideShapes Go.ChangeAt
theorem upto_bound {H : Type} {l : List (DataW H)} (hk : Rows.uptoSmall H l = true) : Rows.uptoBulkAll l ≤ 1048576 := of_decide_eq_true hk
theorem bulk_pos {H : Type} (d : DataW H) : 1 ≤ Rows.uptoBulk d := by
  cases d with
  | lit l => cases l <;> simp [Rows.uptoBulk]
  | nil => simp [Rows.uptoBulk]
  | ptr d => simp [Rows.uptoBulk]
  | slice elems spare => simp [Rows.uptoBulk]
  | agg parts => simp [Rows.uptoBulk]
  | iface t d => simp [Rows.uptoBulk]
  | map entries => simp [Rows.uptoBulk]
  | held h => simp [Rows.uptoBulk]
theorem bulk_len {H : Type} (l : List (DataW H)) : l.length ≤ Rows.uptoBulkAll l := by
  induction l with
  | nil => simp [Rows.uptoBulkAll]
  | cons x r ih => have := bulk_pos x; simp only [Rows.uptoBulkAll, List.length_cons]; omega
theorem bulk_slice {H : Type} (elems spare : List (DataW H)) : Rows.uptoBulkAll elems + 1 ≤ Rows.uptoBulk (.slice elems spare) := by
  simp only [Rows.uptoBulk]; omega
theorem bulk_str {H : Type} (bytes : List UInt8) : Rows.uptoBulk (DataW.lit (H := H) (.string bytes)) = bytes.length + 1 := by simp [Rows.uptoBulk]
/-- How great texts are: a letter and one for each. -/
def texts (l : List (List UInt8)) : Nat := (l.map fun s => s.length + 1).sum
theorem bulk_strs {H : Type} (l : List (List UInt8)) : Rows.uptoBulkAll (l.map fun s => (DataW.lit (H := H) (.string s))) = texts l := by
  induction l with
  | nil => simp [Rows.uptoBulkAll, texts]
  | cons x r ih => simp only [List.map_cons, Rows.uptoBulkAll, ih, bulk_str, texts, List.sum_cons]
section
variable {H : Type} {enc : TypeId × Value → H} {P : Program} {w : World} {base : Nat} {held : Bool}
theorem open_strsU {r : Reach} {b0 : Nat} {t e : TypeId} {v : Value} {d : DataW H} {p : List MemPlace} (ht : P.underlying t = some (.slice e)) (he : P.underlying e = some .string) (hE : P.cellsOf e = 1)
    (hv : Value.okWide P w r b0 t v) (h : DataW.Trod enc P w base (fun _ => true) held t v d p) : ∃ a n c xs, v = .slice a n c ∧ Fl w a n xs ∧ (n ≤ c ∧ c ≤ maxLen) ∧ texts xs ≤ Rows.uptoBulk d := by
  obtain ⟨a, n, c, rfl⟩ := okWide_slice ht hv
  obtain ⟨fuel, hf⟩ := h
  rcases Go.Deep.open_strs ht he hE hf with ⟨hcs, _⟩ | ⟨a', len, cap, m, Sx, hcs, hb, hl, hm, hmm, hx, hcell⟩
  · simp [Value.cells] at hcs
    obtain ⟨rfl, rfl, rfl⟩ := hcs
    exact ⟨none, 0, 0, [], rfl, Fl.nil _ _, ⟨Nat.le_refl _, by simp [maxLen]⟩, by simp [texts]⟩
  · simp [Value.cells] at hcs
    obtain ⟨rfl, rfl, rfl⟩ := hcs
    have hm' : m = c := by simpa using hmm
    injection hx with hd hp
    subst hd
    refine ⟨some a', n, c, (List.range n).map (fun i => (Sx i).data.toList), rfl, ⟨by simp, fun h0 => ?_⟩, ⟨hl, hm⟩, ?_⟩
    · have hx0 : a'.spot = none := by
        have := (hcell 0 (by omega)).1
        simp only [Addr.add, if_true] at this
        unfold World.cell? at this
        split at this
        · cases hs : a'.spot with
          | none => rfl
          | some q => simp [hs] at this
        · cases this
      obtain ⟨b, off, sp⟩ := a'
      simp at hx0
      subst hx0
      refine ⟨b, off, rfl, fun i x hi j u hu => ?_⟩
      have hj : j = 0 := by
        have := (List.getElem?_eq_some_iff.1 hu).1
        simp [Flt.cells] at this; omega
      subst hj
      obtain ⟨hin, hfx⟩ : i < n ∧ (Sx i).data.toList = x := by
        have h1 := (List.getElem?_eq_some_iff.1 hi).1
        have h2 := (List.getElem?_eq_some_iff.1 hi).2
        simp at h1 h2
        exact ⟨h1, h2⟩
      subst hfx
      have h1 := (hcell i (by omega)).1
      rw [addr_add] at h1
      simp [Flt.cells] at hu
      subst hu
      rw [fltStr_k, Nat.mul_one, Nat.add_zero]
      exact h1
    · have := bulk_slice (H := H) ((List.range n).map fun i => .lit (.string (Sx i).data.toList)) ((List.range (m - n)).map fun j => .lit (.string (Sx (n + j)).data.toList))
      have e := bulk_strs (H := H) ((List.range n).map fun i => (Sx i).data.toList)
      rw [List.map_map] at e
      rw [← e]
      simp only [Function.comp_def]
      omega
end
end Go.Proofs.Ytcminppmmhinjaa
