/- Flat data: structs of numbers and strings, and slices of them; what a call made anew. -/
import Derived.Test.YtcminppmmhinjaaSepR
import Derived.Test.YtcminppmmhinjaaRegion4
import Derived.Deep.LoopGhost
namespace Go.Proofs.Ytcminppmmhinjaa
set_option linter.unusedSimpArgs false
set_option linter.unusedVariables false
open Go Go.RowKit
/-- A datum of k cells, none of which points. -/
class Flt (α : Type) where
  k : Nat
  cells : α → List Value
  len : ∀ x, (cells x).length = k
  pos : 0 < k
  one : ∀ x, ∀ u ∈ cells x, u.oneCell' = true
def fltR {α : Type} [Flt α] : World → Nat → Nat → α → Prop := fun w b o x => ∀ (j : Nat) (v : Value), (Flt.cells x)[j]? = some v → w.cell? ⟨b, o + j, none⟩ = some v
instance fltR_stb {α : Type} [Flt α] : Stb (fltR (α := α)) := ⟨fun _ _ _ _ _ hx h j v hj => hx.cell (h j v hj)⟩
/-- The slice (a, n) reads as xs. -/
abbrev Fl {α : Type} [Flt α] (w : World) (a : Option Addr) (n : Nat) (xs : List α) : Prop := Arr (Flt.k α) fltR w a n xs
def cellsL {α : Type} [Flt α] (xs : List α) : List Value := xs.flatMap Flt.cells
section
variable {α : Type} [Flt α]
theorem cellsL_nil : cellsL ([] : List α) = [] := rfl
theorem cellsL_cons (x : α) (xs : List α) : cellsL (x :: xs) = Flt.cells x ++ cellsL xs := rfl
theorem cellsL_append (xs ys : List α) : cellsL (xs ++ ys) = cellsL xs ++ cellsL ys := by simp [cellsL]
theorem cellsL_one' (x : α) : cellsL [x] = Flt.cells x := by simp [cellsL]
theorem cellsL_len (xs : List α) : (cellsL xs).length = xs.length * Flt.k α := by
  induction xs with
  | nil => simp [cellsL]
  | cons x xs ih => rw [cellsL_cons, List.length_append, ih, Flt.len, List.length_cons, Nat.add_mul, Nat.one_mul, Nat.add_comm]
theorem cellsL_get : ∀ {xs : List α} {i j : Nat} {x : α}, xs[i]? = some x → j < Flt.k α → (cellsL xs)[i * Flt.k α + j]? = (Flt.cells x)[j]?
  | [], i, j, x, h, _ => by simp at h
  | y :: xs, 0, j, x, h, hj => by
    simp at h; subst h
    rw [cellsL_cons, Nat.zero_mul, Nat.zero_add, List.getElem?_append_left (by rw [Flt.len]; exact hj)]
  | y :: xs, i + 1, j, x, h, hj => by
    have := cellsL_get (xs := xs) (i := i) (j := j) (x := x) (by simpa using h) hj
    rw [cellsL_cons, List.getElem?_append_right (by rw [Flt.len, Nat.add_mul]; omega), Flt.len, ← this]
    congr 1
    rw [Nat.add_mul]; omega
theorem cellsL_all (xs : List α) : ∀ u ∈ cellsL xs, u.oneCell' = true := by
  intro u hu
  obtain ⟨x, _, hx⟩ := List.mem_flatMap.1 hu
  exact Flt.one x u hx
theorem Fl.nil (w : World) (a : Option Addr) : Fl w a 0 ([] : List α) := ⟨rfl, fun h => by omega⟩
theorem Fl.flat {w : World} {a : Option Addr} {n : Nat} {xs : List α} (h : Fl w a n xs) : Flat w a n (Flt.k α) (cellsL xs) := by
  refine ⟨by rw [cellsL_len, h.1], fun h0 => ?_⟩
  have hk := Flt.pos (α := α)
  have hn : 0 < n := by
    rcases Nat.eq_zero_or_pos n with q | q
    · rw [cellsL_len, ← h.1, q] at h0; simp at h0
    · exact q
  obtain ⟨b, off, rfl, hc⟩ := h.2 hn
  refine ⟨_, rfl, fun j u hj => ?_⟩
  have hjl := (List.getElem?_eq_some_iff.1 hj).1
  rw [cellsL_len] at hjl
  have hi : j / Flt.k α < xs.length := (Nat.div_lt_iff_lt_mul hk).2 hjl
  have hr : j % Flt.k α < Flt.k α := Nat.mod_lt _ hk
  have e : j / Flt.k α * Flt.k α + j % Flt.k α = j := by rw [Nat.mul_comm]; exact Nat.div_add_mod _ _
  have h1 := cellsL_get (List.getElem?_eq_getElem hi) hr
  rw [e, hj] at h1
  have := hc _ _ (List.getElem?_eq_getElem hi) _ _ h1.symm
  rw [addr_add, ← this, Nat.add_assoc, e]
theorem Fl.of_cells {w : World} {b off : Nat} {xs : List α} (h : ∀ j u, (cellsL xs)[j]? = some u → w.cell? ⟨b, off + j, none⟩ = some u) : Fl w (some ⟨b, off, none⟩) xs.length xs :=
  ⟨rfl, fun _ => ⟨b, off, rfl, fun i x hi j v hj => by
    have hjl := (List.getElem?_eq_some_iff.1 hj).1
    rw [Flt.len] at hjl
    have := h _ v ((cellsL_get hi hjl).trans hj)
    rwa [Nat.add_assoc]⟩⟩
theorem fl_lit {w : World} {b : Nat} {vs : List Value} (h : Blk w b vs) (xs : List α) (he : vs = cellsL xs) : Fl w (some ⟨b, 0, none⟩) xs.length xs :=
  Fl.of_cells fun j u hj => by rw [Nat.zero_add, h.cell, he]; exact hj
/-- A part of a slice. -/
theorem Fl.part {w : World} {b off n : Nat} {xs : List α} (h : Fl w (some ⟨b, off, none⟩) n xs) (i m : Nat) (him : i + m ≤ n) : Fl w (some ⟨b, off + i * Flt.k α, none⟩) m ((xs.drop i).take m) := by
  have hn := h.1
  refine ⟨by simp; omega, fun h0 => ?_⟩
  obtain ⟨b', off', e, hc⟩ := h.2 (by omega)
  cases e
  refine ⟨_, _, rfl, fun j x hj => ?_⟩
  have hjm : j < m := by
    have := (List.getElem?_eq_some_iff.1 hj).1
    simp at this; omega
  rw [List.getElem?_take_of_lt hjm, List.getElem?_drop] at hj
  have := hc (i + j) x hj
  rwa [Nat.add_mul, ← Nat.add_assoc] at this
end
/-- Blocks made since W hold the item; nothing old has changed. -/
def FreshI (W w' : World) (I : It) : Prop := Ext W w' ∧ ∃ e : Nat → Prop, I.P e (fun _ => False) w' ∧ ∀ b, e b → W.heap.size ≤ b ∧ b < w'.heap.size
section
variable {fr al : Nat → Prop} {w0 w w' : World} {L : List It}
theorem Own.fresh (st : Own fr al w0 L w) {I : It} (h : FreshI w w' I) : Own fr al w0 (L ++ [I]) w' :=
  let ⟨hx, e, h1, h2⟩ := h
  st.new hx h1 (fun b hb => ⟨(h2 b hb).2, (h2 b hb).1⟩) (fun _ q => q.elim) (fun _ _ q => q)
theorem Own.toFresh (st : Own (fun _ => False) al w0 L w) {i k n : Nat} {E : TypeId} {v : Value} {xs : List Value} (hi : L[i]? = some (rowI E k v n xs)) : FreshI w0 w (rowI E k v n xs) := by
  have hx := st.ext0
  obtain ⟨hm, e, s, F⟩ := st
  refine ⟨hx, e i, F.holds i _ hi, fun b hb => ⟨?_, F.lo i b (get_lt hi) (.inl hb)⟩⟩
  rcases Nat.lt_or_ge b w0.heap.size with q | q
  · exact (F.fr i b (get_lt hi) hb q).elim
  · exact q
theorem FreshI.ext {I : It} (h : FreshI w w' I) : Ext w w' := h.1
theorem FreshI.pre {W : World} {I : It} (h : FreshI w w' I) (hx : Ext W w) : FreshI W w' I := let ⟨h1, e, h2, h3⟩ := h; ⟨hx.trans h1, e, h2, fun b hb => ⟨Nat.le_trans hx.le (h3 b hb).1, (h3 b hb).2⟩⟩
theorem FreshI.post {w'' : World} {I : It} (h : FreshI w w' I) (hx : Ext w' w'') : FreshI w w'' I :=
  let ⟨h1, e, h2, h3⟩ := h
  ⟨h1.trans hx, e, I.st h2 fun b hb => by rcases hb with hb | hb; exact Below.block hx.bel b (h3 b hb).2; exact hb.elim, fun b hb => ⟨(h3 b hb).1, Nat.lt_of_lt_of_le (h3 b hb).2 hx.le⟩⟩
theorem FreshI.nilRow (w : World) (E : TypeId) (k : Nat) : FreshI w w (rowI E k (.slice none 0 0) 0 []) := ⟨Ext.refl w, fun _ => False, ⟨⟨by simp, .inl ⟨rfl, rfl⟩⟩, fun k hk => by simp [Value.ownBlock] at hk⟩, fun _ q => q.elim⟩
/-- A slice of one's own reads as its list. -/
theorem row_fl {α : Type} [Flt α] {W : World} {E : TypeId} {v : Value} {n : Nat} {xs : List α} (h : W.ownsRow 0 E (Flt.k α) v n (cellsL xs)) : ∃ a c, v = .slice a n c ∧ (n ≤ c ∧ c ≤ maxLen) ∧ Fl W a n xs := by
  have hk := Flt.pos (α := α)
  have hn : n = xs.length := by
    have := h.1
    rw [cellsL_len] at this
    exact (Nat.eq_of_mul_eq_mul_right hk this).symm
  subst hn
  rcases h.2 with ⟨rfl, h0⟩ | ⟨g, cap, cur, rfl, hb, hg, hc, hm, hs, ht⟩
  · have : xs = [] := List.eq_nil_of_length_eq_zero h0
    subst this
    exact ⟨none, 0, rfl, ⟨Nat.le_refl _, by simp [maxLen]⟩, Fl.nil _ _⟩
  · refine ⟨_, cap, rfl, ⟨hc, hm⟩, Fl.of_cells fun j u hj => ?_⟩
    have := h.cells (g := g) rfl j u hj
    rwa [addr_add] at this
theorem Own.rowFl {α : Type} [Flt α] (st : Own fr al w0 L w) {i n : Nat} {E : TypeId} {v : Value} {xs : List α} (hi : L[i]? = some (rowI E (Flt.k α) v n (cellsL xs))) : ∃ a c, v = .slice a n c ∧ (n ≤ c ∧ c ≤ maxLen) ∧ Fl w a n xs := row_fl (st.row hi)
theorem FreshI.fl {α : Type} [Flt α] {a : Option Addr} {n c : Nat} {E : TypeId} {xs : List α} (h : FreshI w w' (rowI E (Flt.k α) (.slice a n c) n (cellsL xs))) : (n ≤ c ∧ c ≤ maxLen) ∧ Fl w' a n xs := by
  obtain ⟨_, e, ⟨h1, _⟩, _⟩ := h
  obtain ⟨a', c', hv, h2, h3⟩ := row_fl h1
  injection hv with q1 q2 q3
  subst q1 q3
  exact ⟨h2, h3⟩
theorem Own.oldFl {α : Type} [Flt α] (st : Own fr al w0 L w) {i : Nat} {W0 : World} (hi : L[i]? = some (oldI W0)) {A : Option Addr} {n : Nat} {xs : List α} (h : Fl W0 A n xs) : Fl w A n xs :=
  ⟨h.1, fun h0 => let ⟨b, off, e, hc⟩ := h.2 h0; ⟨b, off, e, fun j x hj q v hq => st.oldCell hi (hc j x hj q v hq)⟩⟩
end
/-- A string. -/
instance fltStr : Flt (List UInt8) := ⟨1, fun s => [S s], fun _ => rfl, by decide, fun x u hu => by simp at hu; subst hu; rfl⟩
theorem str_cells (y : List UInt8) : Flt.cells y = [.string ⟨y.toArray⟩] := rfl
theorem fltStr_k : Flt.k (List UInt8) = 1 := rfl
theorem Fl.str {w : World} {a : Option Addr} {n : Nat} {xs : List (List UInt8)} (h : Fl w a n xs) (h0 : 0 < n) : ∃ b off, a = some ⟨b, off, none⟩ ∧ ∀ j x, xs[j]? = some x → w.cell? ⟨b, off + j, none⟩ = some (S x) := by
  obtain ⟨b, off, rfl, hc⟩ := h.2 h0
  refine ⟨b, off, rfl, fun j x hj => ?_⟩
  have := hc j x hj 0 (S x) rfl
  simpa [fltStr_k] using this
end Go.Proofs.Ytcminppmmhinjaa
