/- Flat data: structs of numbers and strings, and slices of them; what a call made anew. -/
import Derived.Test.YtpenjnccdachaaaSepR
import Derived.Test.YtpenjnccdachaaaRegion4
import Derived.Deep.LoopGhost
import Derived.Lib.SlicesCompact
namespace Go.Proofs.Ytpenjnccdachaaa
set_option linter.unusedSimpArgs false
set_option linter.unusedVariables false
open Go Go.RowKit
/-- A datum of k cells, none of which points. -/
class Flt (α : Type) where
  k : Nat
  cells : α → List Value
  len : ∀ x, (cells x).length = k
  pos : 0 < k
  one : ∀ x, ∀ u ∈ cells x, u.oneCell' = true
def fltR {α : Type} [Flt α] : World → Nat → Nat → α → Prop := fun w b o x => ∀ (j : Nat) (v : Value), (Flt.cells x)[j]? = some v → w.cell? ⟨b, o + j, none⟩ = some v
instance fltR_stb {α : Type} [Flt α] : Stb (fltR (α := α)) := ⟨fun _ _ _ _ _ hx h j v hj => hx.cell (h j v hj)⟩
/-- The slice (a, n) reads as xs. -/
abbrev Fl {α : Type} [Flt α] (w : World) (a : Option Addr) (n : Nat) (xs : List α) : Prop := Arr (Flt.k α) fltR w a n xs
def cellsL {α : Type} [Flt α] (xs : List α) : List Value := xs.flatMap Flt.cells
section
variable {α : Type} [Flt α]
theorem cellsL_nil : cellsL ([] : List α) = [] := rfl
theorem cellsL_cons (x : α) (xs : List α) : cellsL (x :: xs) = Flt.cells x ++ cellsL xs := rfl
theorem cellsL_append (xs ys : List α) : cellsL (xs ++ ys) = cellsL xs ++ cellsL ys := by simp [cellsL]
theorem cellsL_one' (x : α) : cellsL [x] = Flt.cells x := by simp [cellsL]
theorem cellsL_len (xs : List α) : (cellsL xs).length = xs.length * Flt.k α := by
  induction xs with
  | nil => simp [cellsL]
  | cons x xs ih => rw [cellsL_cons, List.length_append, ih, Flt.len, List.length_cons, Nat.add_mul, Nat.one_mul, Nat.add_comm]
theorem cellsL_get : ∀ {xs : List α} {i j : Nat} {x : α}, xs[i]? = some x → j < Flt.k α → (cellsL xs)[i * Flt.k α + j]? = (Flt.cells x)[j]?
  | [], i, j, x, h, _ => by simp at h
  | y :: xs, 0, j, x, h, hj => by
    simp at h; subst h
    rw [cellsL_cons, Nat.zero_mul, Nat.zero_add, List.getElem?_append_left (by rw [Flt.len]; exact hj)]
  | y :: xs, i + 1, j, x, h, hj => by
    have := cellsL_get (xs := xs) (i := i) (j := j) (x := x) (by simpa using h) hj
    rw [cellsL_cons, List.getElem?_append_right (by rw [Flt.len, Nat.add_mul]; omega), Flt.len, ← this]
    congr 1
    rw [Nat.add_mul]; omega
theorem cellsL_all (xs : List α) : ∀ u ∈ cellsL xs, u.oneCell' = true := by
  intro u hu
  obtain ⟨x, _, hx⟩ := List.mem_flatMap.1 hu
  exact Flt.one x u hx
theorem Fl.nil (w : World) (a : Option Addr) : Fl w a 0 ([] : List α) := ⟨rfl, fun h => by omega⟩
theorem Fl.flat {w : World} {a : Option Addr} {n : Nat} {xs : List α} (h : Fl w a n xs) : Flat w a n (Flt.k α) (cellsL xs) := by
  refine ⟨by rw [cellsL_len, h.1], fun h0 => ?_⟩
  have hk := Flt.pos (α := α)
  have hn : 0 < n := by
    rcases Nat.eq_zero_or_pos n with q | q
    · rw [cellsL_len, ← h.1, q] at h0; simp at h0
    · exact q
  obtain ⟨b, off, rfl, hc⟩ := h.2 hn
  refine ⟨_, rfl, fun j u hj => ?_⟩
  have hjl := (List.getElem?_eq_some_iff.1 hj).1
  rw [cellsL_len] at hjl
  have hi : j / Flt.k α < xs.length := (Nat.div_lt_iff_lt_mul hk).2 hjl
  have hr : j % Flt.k α < Flt.k α := Nat.mod_lt _ hk
  have e : j / Flt.k α * Flt.k α + j % Flt.k α = j := by rw [Nat.mul_comm]; exact Nat.div_add_mod _ _
  have h1 := cellsL_get (List.getElem?_eq_getElem hi) hr
  rw [e, hj] at h1
  have := hc _ _ (List.getElem?_eq_getElem hi) _ _ h1.symm
  rw [addr_add, ← this, Nat.add_assoc, e]
theorem Fl.of_cells {w : World} {b off : Nat} {xs : List α} (h : ∀ j u, (cellsL xs)[j]? = some u → w.cell? ⟨b, off + j, none⟩ = some u) : Fl w (some ⟨b, off, none⟩) xs.length xs :=
  ⟨rfl, fun _ => ⟨b, off, rfl, fun i x hi j v hj => by
    have hjl := (List.getElem?_eq_some_iff.1 hj).1
    rw [Flt.len] at hjl
    have := h _ v ((cellsL_get hi hjl).trans hj)
    rwa [Nat.add_assoc]⟩⟩
theorem fl_lit {w : World} {b : Nat} {vs : List Value} (h : Blk w b vs) (xs : List α) (he : vs = cellsL xs) : Fl w (some ⟨b, 0, none⟩) xs.length xs :=
  Fl.of_cells fun j u hj => by rw [Nat.zero_add, h.cell, he]; exact hj
/-- A part of a slice. -/
theorem Fl.part {w : World} {b off n : Nat} {xs : List α} (h : Fl w (some ⟨b, off, none⟩) n xs) (i m : Nat) (him : i + m ≤ n) : Fl w (some ⟨b, off + i * Flt.k α, none⟩) m ((xs.drop i).take m) := by
  have hn := h.1
  refine ⟨by simp; omega, fun h0 => ?_⟩
  obtain ⟨b', off', e, hc⟩ := h.2 (by omega)
  cases e
  refine ⟨_, _, rfl, fun j x hj => ?_⟩
  have hjm : j < m := by
    have := (List.getElem?_eq_some_iff.1 hj).1
    simp at this; omega
  rw [List.getElem?_take_of_lt hjm, List.getElem?_drop] at hj
  have := hc (i + j) x hj
  rwa [Nat.add_mul, ← Nat.add_assoc] at this
end
/-- Blocks made since W hold the item; nothing old has changed. -/
def FreshI (W w' : World) (I : It) : Prop := Ext W w' ∧ ∃ e : Nat → Prop, I.P e (fun _ => False) w' ∧ ∀ b, e b → W.heap.size ≤ b ∧ b < w'.heap.size
section
variable {fr al : Nat → Prop} {w0 w w' : World} {L : List It}
theorem Own.fresh (st : Own fr al w0 L w) {I : It} (h : FreshI w w' I) : Own fr al w0 (L ++ [I]) w' :=
  let ⟨hx, e, h1, h2⟩ := h
  st.new hx h1 (fun b hb => ⟨(h2 b hb).2, (h2 b hb).1⟩) (fun _ q => q.elim) (fun _ _ q => q)
theorem Own.toFresh (st : Own (fun _ => False) al w0 L w) {i k n : Nat} {E : TypeId} {v : Value} {xs : List Value} (hi : L[i]? = some (rowI E k v n xs)) : FreshI w0 w (rowI E k v n xs) := by
  have hx := st.ext0
  obtain ⟨hm, e, s, F⟩ := st
  refine ⟨hx, e i, F.holds i _ hi, fun b hb => ⟨?_, F.lo i b (get_lt hi) (.inl hb)⟩⟩
  rcases Nat.lt_or_ge b w0.heap.size with q | q
  · exact (F.fr i b (get_lt hi) hb q).elim
  · exact q
theorem FreshI.ext {I : It} (h : FreshI w w' I) : Ext w w' := h.1
theorem FreshI.pre {W : World} {I : It} (h : FreshI w w' I) (hx : Ext W w) : FreshI W w' I := let ⟨h1, e, h2, h3⟩ := h; ⟨hx.trans h1, e, h2, fun b hb => ⟨Nat.le_trans hx.le (h3 b hb).1, (h3 b hb).2⟩⟩
theorem FreshI.post {w'' : World} {I : It} (h : FreshI w w' I) (hx : Ext w' w'') : FreshI w w'' I :=
  let ⟨h1, e, h2, h3⟩ := h
  ⟨h1.trans hx, e, I.st h2 fun b hb => by rcases hb with hb | hb; exact Below.block hx.bel b (h3 b hb).2; exact hb.elim, fun b hb => ⟨(h3 b hb).1, Nat.lt_of_lt_of_le (h3 b hb).2 hx.le⟩⟩
theorem FreshI.nilRow (w : World) (E : TypeId) (k : Nat) : FreshI w w (rowI E k (.slice none 0 0) 0 []) := ⟨Ext.refl w, fun _ => False, ⟨⟨by simp, .inl ⟨rfl, rfl⟩⟩, fun k hk => by simp [Value.ownBlock] at hk⟩, fun _ q => q.elim⟩
/-- A slice of one's own reads as its list. -/
theorem row_fl {α : Type} [Flt α] {W : World} {E : TypeId} {v : Value} {n : Nat} {xs : List α} (h : W.ownsRow 0 E (Flt.k α) v n (cellsL xs)) : ∃ a c, v = .slice a n c ∧ (n ≤ c ∧ c ≤ maxLen) ∧ Fl W a n xs := by
  have hk := Flt.pos (α := α)
  have hn : n = xs.length := by
    have := h.1
    rw [cellsL_len] at this
    exact (Nat.eq_of_mul_eq_mul_right hk this).symm
  subst hn
  rcases h.2 with ⟨rfl, h0⟩ | ⟨g, cap, cur, rfl, hb, hg, hc, hm, hs, ht⟩
  · have : xs = [] := List.eq_nil_of_length_eq_zero h0
    subst this
    exact ⟨none, 0, rfl, ⟨Nat.le_refl _, by simp [maxLen]⟩, Fl.nil _ _⟩
  · refine ⟨_, cap, rfl, ⟨hc, hm⟩, Fl.of_cells fun j u hj => ?_⟩
    have := h.cells (g := g) rfl j u hj
    rwa [addr_add] at this
theorem Own.rowFl {α : Type} [Flt α] (st : Own fr al w0 L w) {i n : Nat} {E : TypeId} {v : Value} {xs : List α} (hi : L[i]? = some (rowI E (Flt.k α) v n (cellsL xs))) : ∃ a c, v = .slice a n c ∧ (n ≤ c ∧ c ≤ maxLen) ∧ Fl w a n xs := row_fl (st.row hi)
theorem FreshI.fl {α : Type} [Flt α] {a : Option Addr} {n c : Nat} {E : TypeId} {xs : List α} (h : FreshI w w' (rowI E (Flt.k α) (.slice a n c) n (cellsL xs))) : (n ≤ c ∧ c ≤ maxLen) ∧ Fl w' a n xs := by
  obtain ⟨_, e, ⟨h1, _⟩, _⟩ := h
  obtain ⟨a', c', hv, h2, h3⟩ := row_fl h1
  injection hv with q1 q2 q3
  subst q1 q3
  exact ⟨h2, h3⟩
theorem Own.oldFl {α : Type} [Flt α] (st : Own fr al w0 L w) {i : Nat} {W0 : World} (hi : L[i]? = some (oldI W0)) {A : Option Addr} {n : Nat} {xs : List α} (h : Fl W0 A n xs) : Fl w A n xs :=
  ⟨h.1, fun h0 => let ⟨b, off, e, hc⟩ := h.2 h0; ⟨b, off, e, fun j x hj q v hq => st.oldCell hi (hc j x hj q v hq)⟩⟩
end
/-- A string. -/
instance fltStr : Flt (List UInt8) := ⟨1, fun s => [S s], fun _ => rfl, by decide, fun x u hu => by simp at hu; subst hu; rfl⟩
theorem str_cells (y : List UInt8) : Flt.cells y = [.string ⟨y.toArray⟩] := rfl
theorem fltStr_k : Flt.k (List UInt8) = 1 := rfl
theorem Fl.str {w : World} {a : Option Addr} {n : Nat} {xs : List (List UInt8)} (h : Fl w a n xs) (h0 : 0 < n) : ∃ b off, a = some ⟨b, off, none⟩ ∧ ∀ j x, xs[j]? = some x → w.cell? ⟨b, off + j, none⟩ = some (S x) := by
  obtain ⟨b, off, rfl, hc⟩ := h.2 h0
  refine ⟨b, off, rfl, fun j x hj => ?_⟩
  have := hc j x hj 0 (S x) rfl
  simpa [fltStr_k] using this
end Go.Proofs.Ytpenjnccdachaaa

namespace Go.Proofs.Ytpenjnccdachaaa
set_option linter.unusedSimpArgs false
set_option linter.unusedVariables false
open Go Go.RowKit
section
variable {fr al : Nat → Prop} {w0 w w' : World} {L : List It} {P : Program} {o : Oper} {a : Act} {K : Act → World → Prop} {Q : Exit → Act → World → Prop}
theorem Own.tail {I : It} (st : Own fr al w0 (I :: L) w) : Own fr al w0 L w := by
  obtain ⟨hm, e, s, F⟩ := st
  exact ⟨hm, fun i => e (i + 1), fun i => s (i + 1), fun i J hi => F.holds (i + 1) J (by simpa using hi), fun i b hi => F.lo (i + 1) b (by simpa using hi), fun i b hi => F.fr (i + 1) b (by simpa using hi), fun i b hi => F.al (i + 1) b (by simpa using hi),
    fun i j b hi hj hne => F.ee (i + 1) (j + 1) b (by simpa using hi) (by simpa using hj) (by omega), fun i j b hi hj => F.es (i + 1) (j + 1) b (by simpa using hi) (by simpa using hj)⟩
theorem set_take_list {α : Type} (l : List α) (m i : Nat) (v : α) (h : i < m) : (l.set i v).take m = (l.take m).set i v := by rw [List.take_set]
/-- A cell of the row is stored. -/
theorem Own.rowSet1 (st : Own fr al w0 L w) {i k n c g : Nat} {E : TypeId} {xs : List Value} (hi : L[i]? = some (rowI E k (.slice (some ⟨g, 0, none⟩) n c) n xs)) (j : Nat) (v : Value) (hj : j < n * k) :
    Own fr al w0 (L.set i (rowI E k (.slice (some ⟨g, 0, none⟩) n c) n (xs.set j v))) (w.setCell ⟨g, j, none⟩ v) := by
  refine st.upd hi fun e s ⟨h1, h2⟩ h3 h4 => ⟨e, s, ⟨⟨by simpa using h1.1, ?_⟩, h2⟩, fun q hq => ⟨by simpa [World.setCell] using h3 q (.inl hq), .inl hq⟩, fun q hq => ⟨by simpa [World.setCell] using h3 q (.inr hq), .inr (.inl hq)⟩, h4, MutO.set (MutO.refl _ _) (h2 g rfl) _⟩
  rcases h1.2 with ⟨h5, _⟩ | ⟨g', cap, cur, hv, hb, hg, hc, hm, hs, ht⟩
  · cases h5
  · cases hv
    refine .inr ⟨g, c, cur.setIfInBounds j v, rfl, hb, ?_, hc, hm, by simpa using hs, ?_⟩
    · simp only [World.setCell, Array.getElem?_modify, hg]; simp
    · rw [Array.toList_setIfInBounds, List.take_set, ht]
theorem Own.rowSet (cs : List Value) : ∀ {w : World} {L : List It} {i k n c g : Nat} {E : TypeId} {xs : List Value} (_ : Own fr al w0 L w) (_ : L[i]? = some (rowI E k (.slice (some ⟨g, 0, none⟩) n c) n xs)) (j : Nat) (_ : j + cs.length ≤ n * k),
    Own fr al w0 (L.set i (rowI E k (.slice (some ⟨g, 0, none⟩) n c) n (spl xs j cs))) (w.setCells g j cs) := by
  induction cs with
  | nil =>
    intro w L i k n c g E xs st hi j hj
    have : L.set i (rowI E k (.slice (some ⟨g, 0, none⟩) n c) n xs) = L := by
      apply List.ext_getElem?
      intro q
      rw [List.getElem?_set]
      split
      · rename_i h; subst h; rw [hi, if_pos (get_lt hi)]
      · rfl
    simpa [spl, World.setCells, this] using st
  | cons u cs ih =>
    intro w L i k n c g E xs st hi j hj
    simp only [List.length_cons] at hj
    have h1 := st.rowSet1 hi j u (by omega)
    have h2 := ih h1 (i := i) (k := k) (n := n) (c := c) (g := g) (E := E) (xs := xs.set j u) (by simp [List.getElem?_set, get_lt hi]) (j + 1) (by omega)
    rw [List.set_set] at h2
    exact h2
/-- What a row's store needs to know of its cells. -/
theorem row_cell {E : TypeId} {k n c g : Nat} {xs : List Value} (h : w.ownsRow 0 E k (.slice (some ⟨g, 0, none⟩) n c) n xs) (j : Nat) (hj : j < n * k) : w.cell? ⟨g, j, none⟩ = xs[j]? ∧ w.frozen? ⟨g, j, none⟩ = false ∧ j < xs.length := by
  rcases h.2 with ⟨h5, _⟩ | ⟨g', cap, cur, hv, hb, hg, hc, hm, hs, ht⟩
  · cases h5
  · cases hv
    have hcn : n * k ≤ c * k := Nat.mul_le_mul_right _ hc
    have hjc : j < cur.size := by omega
    have hx : xs[j]? = cur[j]? := by rw [← ht, List.getElem?_take_of_lt hj]; simp
    have hlt : j < xs.length := by
      rw [Array.getElem?_eq_getElem hjc] at hx
      exact (List.getElem?_eq_some_iff.1 hx).1
    refine ⟨?_, by simp [World.frozen?, hg], hlt⟩
    rw [hx]; simp [World.cell?, hg]
theorem run_storeAt_row {E T : TypeId} {k n c g j : Nat} {xs cs : List Value} {v : Value} (h : w.ownsRow 0 E k (.slice (some ⟨g, 0, none⟩) n c) n xs) (hcs : v.cells.toList = cs) (hT : (P.info? T).map (·.size) = some cs.length) (hk : j + cs.length ≤ n * k) (h1 : cs.all (·.oneCell') = true) :
    (Instr.storeAt T (.pointer (some ⟨g, j, none⟩)) v).run P w = .ok () (w.setCells g j cs) := by
  subst hcs
  have := run_storeCells_cells (P := P) g j v.cells.toList 0 w (fun q hq => by
      have := row_cell h (j + q) (by omega)
      rw [Nat.add_zero, this.1, List.getElem?_eq_getElem this.2.2]; rfl) (fun q hq => (row_cell h (j + 0 + q) (by omega)).2.1) (fun u hu => (List.all_eq_true.1 h1) u hu)
  cases hq : P.info? T with
  | none => simp [hq] at hT
  | some i =>
    have hs : v.cells.size = i.size := by simp [hq] at hT; omega
    simp only [Nat.add_zero] at this
    simp [Instr.storeAt, Instr.sureAddr, storeVar, sizeOf, typeInfo, hq, hs, this]
/-- An element of the row is stored. -/
theorem owp_storeRow {T : TypeId} {x y : Operand} (ho : o.op = .store T x y) (st : Own fr al w0 L w) (i : Nat) {E : TypeId} {k n c g j : Nat} {xs cs : List Value} {v : Value}
    (hi : L[i]? = some (rowI E k (.slice (some ⟨g, 0, none⟩) n c) n xs)) (hx : a.eval x = .pointer (some ⟨g, j, none⟩)) (hy : a.eval y = v) (hcs : v.cells.toList = cs) (hT : (P.info? T).map (·.size) = some cs.length) (hj : j + cs.length ≤ n * k) (h1 : cs.all (·.oneCell') = true)
    (h : ∀ w', Own fr al w0 (L.set i (rowI E k (.slice (some ⟨g, 0, none⟩) n c) n (spl xs j cs))) w' → K (a.put o.dst undef) w') : o.wp P a w K Q := by
  unfold Oper.wp execOp
  simp only [ho, hx, hy, Sem.run_bind, run_storeAt_row (P := P) (st.row hi) hcs hT hj h1, Result.andThen, Sem.run_pure]
  exact h _ (st.rowSet cs hi j hj)
theorem owp_storeRow' {T : TypeId} {x y : Operand} (ho : o.op = .store T x y) (st : Own fr al w0 L w)
    (h : ∃ ad v, a.eval x = .pointer (some ad) ∧ a.eval y = v ∧ ∃ (i : Nat) (E : TypeId) (k n c g j : Nat) (xs cs : List Value), L[i]? = some (rowI E k (.slice (some ⟨g, 0, none⟩) n c) n xs) ∧ ad = ⟨g, j, none⟩ ∧ v.cells.toList = cs ∧ (P.info? T).map (·.size) = some cs.length ∧ j + cs.length ≤ n * k ∧ cs.all (·.oneCell') = true ∧
      ∀ w', Own fr al w0 (L.set i (rowI E k (.slice (some ⟨g, 0, none⟩) n c) n (spl xs j cs))) w' → K (a.put o.dst undef) w') : o.wp P a w K Q := by
  obtain ⟨ad, v, hx, hy, i, E, k, n, c, g, j, xs, cs, hi, rfl, hcs, hT, hj, h1, h⟩ := h
  exact owp_storeRow ho st i hi hx hy hcs hT hj h1 h
theorem spl_take (cs : List Value) : ∀ (xs : List Value) (j q : Nat), q ≤ j → (spl xs j cs).take q = xs.take q := by
  induction cs with
  | nil => intro xs j q _; rfl
  | cons u cs ih =>
    intro xs j q h
    rw [spl, ih _ _ _ (by omega), List.take_set]
    apply List.ext_getElem?
    intro m
    rw [List.getElem?_set]
    split
    · rename_i e; subst e
      split
      · rename_i hh; simp at hh; omega
      · rename_i hh; rw [List.getElem?_eq_none (by simp at hh ⊢; omega)]
    · rfl
/-- clear(s[m:]): the elements from m on are turned, the others stay. -/
theorem owp_clearRow {x : Operand} {t E : TypeId} (ho : o.op = .call { callee := .builtin .clear, args := #[x], argTypes := #[t] }) (st : Own fr al w0 L w) (i : Nat) {k n c g m c' : Nat} {xs : List Value} {inf : TypeInfo} {z : Value}
    (hi : L[i]? = some (rowI E k (.slice (some ⟨g, 0, none⟩) n c) n xs)) (ht : P.underlying t = some (.slice E)) (hinf : P.info? E = some inf) (hz : inf.zero = some z) (hk : 0 < k) (hzs : z.cells.size = k) (hz1 : z.cells.toList.all (·.oneCell') = true)
    (hmn : m ≤ n) (hx : a.eval x = .slice (some ⟨g, m * k, none⟩) (n - m) c')
    (h : ∀ w' ys, ys.take (m * k) = xs.take (m * k) → ys.length = xs.length → Own fr al w0 (L.set i (rowI E k (.slice (some ⟨g, 0, none⟩) n c) n ys)) w' → K (a.put o.dst (.tuple #[])) w') : o.wp P a w K Q := by
  have hrow := st.row hi
  by_cases h0 : n - m = 0
  · refine owp_run (v := .tuple #[]) (w' := w) ?_ (h w xs rfl rfl ?_)
    · rw [h0] at hx
      simp [execOp, ho, resolve, invoke, builtin, hx, Builtin.clear_, run_underlying ht]
    · have : L.set i (rowI E k (.slice (some ⟨g, 0, none⟩) n c) n xs) = L := by
        apply List.ext_getElem?
        intro q
        rw [List.getElem?_set]
        split
        · rename_i h; subst h; rw [hi, if_pos (get_lt hi)]
        · rfl
      rw [this]; exact st
  · obtain ⟨q, hq⟩ : ∃ q, n - m = q + 1 := ⟨n - m - 1, by omega⟩
    have hlen : (Builtin.zeroCells z.cells (n - m)).toList.length = (n - m) * k := by
      rw [Array.length_toList, size_zeroCells, hzs]
    have hnk : m * k + (n - m) * k = n * k := by rw [← Nat.add_mul]; congr 1; omega
    have hall : (Builtin.zeroCells z.cells (n - m)).toList.all (·.oneCell') = true := by
      rw [List.all_eq_true] at hz1 ⊢
      intro u hu
      simp only [Builtin.zeroCells, Array.toList_map, List.mem_map] at hu
      obtain ⟨r, _, rfl⟩ := hu
      have hr : r % z.cells.size < z.cells.size := Nat.mod_lt _ (by omega)
      apply hz1
      rw [getElem!_pos z.cells _ hr]
      exact Array.getElem_mem_toList hr
    have hst := run_storeCells_cells (P := P) g (m * k) (Builtin.zeroCells z.cells (n - m)).toList 0 w (fun q hq => by
        have := row_cell hrow (m * k + q) (by omega)
        rw [Nat.add_zero, this.1, List.getElem?_eq_getElem this.2.2]; rfl) (fun q hq => (row_cell hrow (m * k + 0 + q) (by omega)).2.1) (fun u hu => (List.all_eq_true.1 hall) u hu)
    simp only [Nat.add_zero] at hst
    refine owp_run (v := .tuple #[]) (w' := w.setCells g (m * k) (Builtin.zeroCells z.cells (n - m)).toList) ?_ (h _ _ (spl_take _ _ _ _ (Nat.le_refl _)) (spl_len _ _ _) (st.rowSet _ hi (m * k) (by omega)))
    rw [hq] at hx hst ⊢
    simp [execOp, ho, resolve, invoke, builtin, hx, Builtin.clear_, run_underlying ht, zeroValue, typeInfo, hinf, hz, hst, Result.andThen]
theorem owp_clearRow' {x : Operand} {t E : TypeId} (ho : o.op = .call { callee := .builtin .clear, args := #[x], argTypes := #[t] }) (st : Own fr al w0 L w) (ht : P.underlying t = some (.slice E))
    (h : ∃ ad q c', a.eval x = .slice (some ad) q c' ∧ ∃ (i : Nat) (k n c g m : Nat) (xs : List Value) (inf : TypeInfo) (z : Value), L[i]? = some (rowI E k (.slice (some ⟨g, 0, none⟩) n c) n xs) ∧ P.info? E = some inf ∧ inf.zero = some z ∧ 0 < k ∧ z.cells.size = k ∧ z.cells.toList.all (·.oneCell') = true ∧
      m ≤ n ∧ ad = ⟨g, m * k, none⟩ ∧ q = n - m ∧ ∀ w' ys, ys.take (m * k) = xs.take (m * k) → ys.length = xs.length → Own fr al w0 (L.set i (rowI E k (.slice (some ⟨g, 0, none⟩) n c) n ys)) w' → K (a.put o.dst (.tuple #[])) w') : o.wp P a w K Q := by
  obtain ⟨ad, q, c', hx, i, k, n, c, g, m, xs, inf, z, hi, hinf, hz, hk, hzs, hz1, hmn, rfl, rfl, h⟩ := h
  exact owp_clearRow ho st i hi ht hinf hz hk hzs hz1 hmn hx h
/-- A slice literal as a row that may grow. -/
theorem owp_buildRow {T : TypeId} {q : Nat} {ps : Array (Nat × Operand)} (ho : o.op = .buildSlice T q ps) (st : Own fr al w0 L w) (E : TypeId) (k : Nat) (h : ∃ (m : Nat) (cs : Array Value), (execOp a.eval o).run P w = .ok (.value (.slice (some ⟨w.heap.size, 0, none⟩) m m)) (w.alloc (.cells cs E)) ∧
    cs.size = m * k ∧ m ≤ maxLen ∧ ∀ b w', w.heap.size ≤ b → Own fr al w0 (L ++ [rowI E k (.slice (some ⟨b, 0, none⟩) m m) m cs.toList]) w' → K (a.put o.dst (.slice (some ⟨b, 0, none⟩) m m)) w') : o.wp P a w K Q := by
  obtain ⟨m, cs, hr, h1, h2, h⟩ := h
  refine owp_run hr (h _ _ (Nat.le_refl _) (st.new (Ext.new w _) (e' := fun b => b = w.heap.size) (s' := fun _ => False) ⟨⟨by simpa using h1, .inr ⟨w.heap.size, m, cs, rfl, Nat.zero_le _, ?_, Nat.le_refl _, h2, h1, ?_⟩⟩, fun b hb => by cases hb; rfl⟩ (fun b hb => ?_) (fun _ q => q.elim) (fun _ _ q => q)))
  · show (w.heap.push _)[_]? = _; simp
  · rw [List.take_of_length_le]; simp [h1]
  · subst hb; exact ⟨by show _ < (w.heap.push _).size; simp, Nat.le_refl _⟩
/-- s[:m] -/
theorem Own.rowCut (st : Own fr al w0 L w) {i k n c g : Nat} {E : TypeId} {xs : List Value} (hi : L[i]? = some (rowI E k (.slice (some ⟨g, 0, none⟩) n c) n xs)) (m : Nat) (hm : m ≤ n) :
    Own fr al w0 (L.set i (rowI E k (.slice (some ⟨g, 0, none⟩) m c) m (xs.take (m * k)))) w := by
  refine st.conv hi fun e s ⟨h1, h2⟩ h3 => ⟨e, s, ⟨⟨?_, ?_⟩, fun q hq => h2 q hq⟩, fun _ q => q, fun _ q => .inr q, h3⟩
  · have := h1.1
    have : m * k ≤ n * k := Nat.mul_le_mul_right _ hm
    simp; omega
  · rcases h1.2 with ⟨h5, _⟩ | ⟨g', cap, cur, hv, hb, hg, hc, hmx, hs, ht⟩
    · cases h5
    · cases hv
      refine .inr ⟨g, c, cur, rfl, hb, hg, Nat.le_trans hm hc, hmx, hs, ?_⟩
      rw [← ht, List.take_take, Nat.min_eq_left (Nat.mul_le_mul_right _ hm)]
end
section
variable {α : Type} [Flt α]
theorem spl_in (cs : List Value) : ∀ (xs : List Value) (j q : Nat), (spl xs j cs)[q]? = if j ≤ q ∧ q < j + cs.length ∧ q < xs.length then cs[q - j]? else xs[q]? := by
  induction cs with
  | nil => intro xs j q; simp [spl]; intro h1 h2; omega
  | cons u cs ih =>
    intro xs j q
    rw [spl, ih]
    simp only [List.length_set, List.length_cons]
    by_cases h1 : q = j
    · subst h1
      rw [if_neg (by omega)]
      by_cases h2 : q < xs.length
      · rw [if_pos ⟨Nat.le_refl _, by omega, h2⟩]; simp [h2]
      · rw [if_neg (by omega)]; simp [h2]
    · rw [List.getElem?_set, if_neg (Ne.symm h1)]
      by_cases h2 : j + 1 ≤ q ∧ q < j + 1 + cs.length ∧ q < xs.length
      · rw [if_pos h2, if_pos (by omega), show q - j = (q - (j + 1)) + 1 by omega, List.getElem?_cons_succ]
      · rw [if_neg h2, if_neg (by omega)]
theorem cellsL_set (xs : List α) (i : Nat) (y : α) (hi : i < xs.length) : spl (cellsL xs) (i * Flt.k α) (Flt.cells y) = cellsL (xs.set i y) := by
  have hk := Flt.pos (α := α)
  apply List.ext_getElem?
  intro q
  rw [spl_in, Flt.len, cellsL_len]
  have e : q / Flt.k α * Flt.k α + q % Flt.k α = q := by rw [Nat.mul_comm]; exact Nat.div_add_mod _ _
  have hr : q % Flt.k α < Flt.k α := Nat.mod_lt _ hk
  by_cases hq : q < xs.length * Flt.k α
  · have hd : q / Flt.k α < xs.length := (Nat.div_lt_iff_lt_mul hk).2 hq
    by_cases hiq : q / Flt.k α = i
    · have h1 : (cellsL (xs.set i y))[q]? = (Flt.cells y)[q % Flt.k α]? := by
        have := cellsL_get (xs := xs.set i y) (i := q / Flt.k α) (j := q % Flt.k α) (x := y) (by rw [hiq]; simp [hi]) hr
        rwa [e] at this
      have e2 : i * Flt.k α + q % Flt.k α = q := by rw [← hiq]; exact e
      rw [h1, if_pos ⟨by omega, by omega, hq⟩]
      congr 1; omega
    · have h1 : (cellsL (xs.set i y))[q]? = (cellsL xs)[q]? := by
        have g1 := cellsL_get (xs := xs.set i y) (i := q / Flt.k α) (j := q % Flt.k α) (x := xs[q / Flt.k α]) (by rw [List.getElem?_set, if_neg (Ne.symm hiq)]; exact List.getElem?_eq_getElem hd) hr
        have g2 := cellsL_get (xs := xs) (List.getElem?_eq_getElem hd) hr
        rw [e] at g1 g2; rw [g1, g2]
      rw [h1, if_neg]
      rintro ⟨h2, h3, _⟩
      apply hiq
      have : i * Flt.k α + Flt.k α = (i + 1) * Flt.k α := by rw [Nat.add_mul, Nat.one_mul]
      have h5 : i ≤ q / Flt.k α := (Nat.le_div_iff_mul_le hk).2 h2
      have h6 : q / Flt.k α < i + 1 := (Nat.div_lt_iff_lt_mul hk).2 (by omega)
      omega
  · rw [if_neg (by omega)]
    rw [List.getElem?_eq_none (by rw [cellsL_len]; omega), List.getElem?_eq_none (by rw [cellsL_len, List.length_set]; omega)]
theorem cellsL_take (xs : List α) (m : Nat) : (cellsL xs).take (m * Flt.k α) = cellsL (xs.take m) := by
  by_cases hm : m ≤ xs.length
  · have h1 : cellsL xs = cellsL (xs.take m) ++ cellsL (xs.drop m) := by rw [← cellsL_append, List.take_append_drop]
    have h2 : (cellsL (xs.take m)).length = m * Flt.k α := by rw [cellsL_len]; simp [Nat.min_eq_left hm]
    rw [h1, List.take_append_of_le_length (by omega), List.take_of_length_le (by omega)]
  · rw [List.take_of_length_le (l := xs) (by omega), List.take_of_length_le]
    rw [cellsL_len]; exact Nat.mul_le_mul_right _ (by omega)
end
end Go.Proofs.Ytpenjnccdachaaa

namespace Go.Proofs.Ytpenjnccdachaaa
set_option linter.unusedSimpArgs false
set_option linter.unusedVariables false
open Go
/-- An order on what P lets. -/
structure SOrd {α : Type} (lt : α → α → Bool) (P : α → Bool) : Prop where
  irr : ∀ x, lt x x = false
  tr : ∀ x y z, lt x y = true → lt y z = true → lt x z = true
  tri : ∀ x y, P x = true → P y = true → lt x y = true ∨ x = y ∨ lt y x = true
/-- Strictly rising, and just those of l that P lets. -/
def SSet {α : Type} (lt : α → α → Bool) (P : α → Bool) (l out : List α) : Prop := out.Pairwise (fun x y => lt x y = true) ∧ ∀ x, x ∈ out ↔ x ∈ l ∧ P x = true
section
variable {α : Type} {lt : α → α → Bool} {P : α → Bool}
theorem pairwise_ext (irr : ∀ x, lt x x = false) (tr : ∀ x y z, lt x y = true → lt y z = true → lt x z = true) : ∀ {a b : List α}, a.Pairwise (fun x y => lt x y = true) → b.Pairwise (fun x y => lt x y = true) → (∀ x, x ∈ a ↔ x ∈ b) → a = b
  | [], [], _, _, _ => rfl
  | [], y :: b, _, _, h => absurd ((h y).2 (by simp)) (by simp)
  | x :: a, [], _, _, h => absurd ((h x).1 (by simp)) (by simp)
  | x :: a, y :: b, ha, hb, h => by
    obtain ⟨ha1, ha2⟩ := List.pairwise_cons.1 ha
    obtain ⟨hb1, hb2⟩ := List.pairwise_cons.1 hb
    have hxy : x = y := by
      rcases List.mem_cons.1 ((h x).1 (by simp)) with e | e
      · exact e
      · rcases List.mem_cons.1 ((h y).2 (by simp)) with e' | e'
        · exact e'.symm
        · have := tr _ _ _ (hb1 x e) (ha1 y e'); rw [irr] at this; cases this
    subst hxy
    have : a = b := pairwise_ext irr tr ha2 hb2 fun z => by
      have hz := h z
      simp only [List.mem_cons] at hz
      constructor
      · intro q
        rcases hz.1 (.inr q) with e | e
        · subst e; have := ha1 z q; rw [irr] at this; cases this
        · exact e
      · intro q
        rcases hz.2 (.inr q) with e | e
        · subst e; have := hb1 z q; rw [irr] at this; cases this
        · exact e
    rw [this]
theorem SSet.uniq (o : SOrd lt P) {l a b : List α} (ha : SSet lt P l a) (hb : SSet lt P l b) : a = b := pairwise_ext o.irr o.tr ha.1 hb.1 fun x => (ha.2 x).trans (hb.2 x).symm
/-- Of the same members. -/
theorem SSet.mem {l l' a b : List α} (o : SOrd lt P) (ha : SSet lt P l a) (hb : SSet lt P l' b) (h : ∀ x, P x = true → (x ∈ l ↔ x ∈ l')) : a = b := by
  refine pairwise_ext o.irr o.tr ha.1 hb.1 fun x => ?_
  rw [ha.2, hb.2]
  constructor
  · rintro ⟨h1, h2⟩; exact ⟨(h x h2).1 h1, h2⟩
  · rintro ⟨h1, h2⟩; exact ⟨(h x h2).2 h1, h2⟩
/-- The least candidate, the first of the like. -/
def pickMin (lt : α → α → Bool) (cand : α → Bool) (l : List α) : Option α := l.foldl (fun b x => if cand x && b.all (fun y => lt x y) then some x else b) none
theorem pickMin_snoc (cand : α → Bool) (l : List α) (x : α) : pickMin lt cand (l ++ [x]) = if cand x && (pickMin lt cand l).all (fun y => lt x y) then some x else pickMin lt cand l := by
  unfold pickMin; rw [List.foldl_append]; rfl
theorem pickMin_take (cand : α → Bool) (l : List α) (j : Nat) (h : j < l.length) : pickMin lt cand (l.take (j + 1)) = if cand l[j] && (pickMin lt cand (l.take j)).all (fun y => lt l[j] y) then some l[j] else pickMin lt cand (l.take j) := by
  rw [← List.take_append_getElem h, pickMin_snoc]
theorem list_snoc {motive : List α → Prop} (nil : motive []) (snoc : ∀ l x, motive l → motive (l ++ [x])) : ∀ l, motive l := by
  intro l
  have : ∀ r : List α, motive r.reverse := by
    intro r
    induction r with
    | nil => exact nil
    | cons x r ih => rw [List.reverse_cons]; exact snoc _ _ ih
  have := this l.reverse
  rwa [List.reverse_reverse] at this
theorem pickMin_spec (tr : ∀ x y z, lt x y = true → lt y z = true → lt x z = true) (irr : ∀ x, lt x x = false) (cand : α → Bool) (l : List α) :
    (pickMin lt cand l = none → ∀ x ∈ l, cand x = false) ∧ (∀ y, pickMin lt cand l = some y → y ∈ l ∧ cand y = true ∧ ∀ x ∈ l, cand x = true → lt x y = false) := by
  induction l using list_snoc with
  | nil => exact ⟨fun _ x hx => by simp at hx, fun y hy => by simp [pickMin] at hy⟩
  | snoc l x ih =>
    rw [pickMin_snoc]
    by_cases hc : (cand x && (pickMin lt cand l).all (fun y => lt x y)) = true
    · rw [if_pos hc]
      simp only [Bool.and_eq_true] at hc
      refine ⟨fun h => (by cases h), fun y hy => ?_⟩
      cases hy
      refine ⟨by simp, hc.1, fun z hz hcz => ?_⟩
      rcases List.mem_append.1 hz with q | q
      · cases hp : pickMin lt cand l with
        | none => have := ih.1 hp z q; rw [this] at hcz; cases hcz
        | some y0 =>
          have h1 := (ih.2 y0 hp).2.2 z q hcz
          have h2 : lt x y0 = true := by have := hc.2; rw [hp] at this; simpa using this
          cases h3 : lt z x with
          | false => rfl
          | true => have := tr _ _ _ h3 h2; rw [this] at h1; cases h1
      · rw [List.mem_singleton.1 q]; exact irr x
    · rw [if_neg hc]
      refine ⟨fun h z hz => ?_, fun y hy => ?_⟩
      · rcases List.mem_append.1 hz with q | q
        · exact ih.1 h z q
        · rw [List.mem_singleton.1 q]
          cases hcx : cand x with
          | false => rfl
          | true => rw [h, hcx] at hc; simp at hc
      · obtain ⟨h1, h2, h3⟩ := ih.2 y hy
        refine ⟨List.mem_append.2 (.inl h1), h2, fun z hz hcz => ?_⟩
        rcases List.mem_append.1 hz with q | q
        · exact h3 z q hcz
        · rw [List.mem_singleton.1 q] at hcz ⊢
          rw [hcz, hy] at hc
          simpa using hc
/-- What may come behind out. -/
def cnd (lt : α → α → Bool) (P : α → Bool) (out : List α) (x : α) : Bool := P x && out.getLast?.all (fun z => lt z x)
/-- A set that grows by its least candidate. -/
def GInv (lt : α → α → Bool) (P : α → Bool) (l out : List α) : Prop := out.Pairwise (fun x y => lt x y = true) ∧ (∀ x ∈ out, x ∈ l ∧ P x = true) ∧ ∀ x ∈ l, P x = true → cnd lt P out x = false → x ∈ out
theorem GInv.nil (l : List α) : GInv lt P l [] := ⟨List.Pairwise.nil, fun x hx => by simp at hx, fun x _ hp hc => by simp [cnd, hp] at hc⟩
theorem GInv.step (o : SOrd lt P) {l out : List α} {y : α} (h : GInv lt P l out) (hy : pickMin lt (cnd lt P out) l = some y) : GInv lt P l (out ++ [y]) := by
  obtain ⟨h1, h2, h3⟩ := h
  obtain ⟨q1, q2, q3⟩ := (pickMin_spec o.tr o.irr (cnd lt P out) l).2 y hy
  have q2' := q2
  simp only [cnd, Bool.and_eq_true] at q2'
  refine ⟨?_, ?_, ?_⟩
  · rw [List.pairwise_append]
    refine ⟨h1, List.pairwise_singleton _ _, fun a ha b hb => ?_⟩
    rw [List.mem_singleton.1 hb]
    obtain ⟨z, hz⟩ : ∃ z, out.getLast? = some z := by
      cases hl : out.getLast? with
      | none => rw [List.getLast?_eq_none_iff] at hl; subst hl; simp at ha
      | some z => exact ⟨z, rfl⟩
    have hzy : lt z y = true := by have := q2'.2; rw [hz] at this; simpa using this
    obtain ⟨pre, rfl⟩ := List.getLast?_eq_some_iff.1 hz
    rcases List.mem_append.1 ha with q | q
    · exact o.tr _ _ _ ((List.pairwise_append.1 h1).2.2 a q z (by simp)) hzy
    · rw [List.mem_singleton.1 q]; exact hzy
  · intro x hx
    rcases List.mem_append.1 hx with q | q
    · exact h2 x q
    · rw [List.mem_singleton.1 q]; exact ⟨q1, q2'.1⟩
  · intro x hx hp hc
    have hyx : lt y x = false := by simpa [cnd, hp] using hc
    cases hcx : cnd lt P out x with
    | false => exact List.mem_append.2 (.inl (h3 x hx hp hcx))
    | true =>
      have hxy := q3 x hx hcx
      rcases o.tri x y hp q2'.1 with q | q | q
      · rw [q] at hxy; cases hxy
      · rw [q]; simp
      · rw [q] at hyx; cases hyx
theorem GInv.done (o : SOrd lt P) {l out : List α} (h : GInv lt P l out) (hn : pickMin lt (cnd lt P out) l = none) : SSet lt P l out := by
  obtain ⟨h1, h2, h3⟩ := h
  exact ⟨h1, fun x => ⟨h2 x, fun ⟨q1, q2⟩ => h3 x q1 q2 ((pickMin_spec o.tr o.irr _ _).1 hn x q1)⟩⟩
theorem filter_len_le (p q : α → Bool) (l : List α) (h : ∀ x ∈ l, p x = true → q x = true) : (l.filter p).length ≤ (l.filter q).length := by
  induction l with
  | nil => simp
  | cons x l ih =>
    have i := ih fun y hy => h y (List.mem_cons_of_mem _ hy)
    have hx := h x (by simp)
    simp only [List.filter_cons]
    split
    · rename_i hp; rw [if_pos (hx hp)]; simp; omega
    · split <;> simp <;> omega
theorem filter_len_lt (p q : α → Bool) : ∀ (l : List α), (∀ x ∈ l, p x = true → q x = true) → ∀ y ∈ l, q y = true → p y = false → (l.filter p).length < (l.filter q).length
  | [], _, y, hy, _, _ => by simp at hy
  | x :: l, h, y, hy, h1, h2 => by
    have h' : ∀ z ∈ l, p z = true → q z = true := fun z hz => h z (List.mem_cons_of_mem _ hz)
    have hle := filter_len_le p q l h'
    simp only [List.filter_cons]
    rcases List.mem_cons.1 hy with rfl | hm
    · rw [if_pos h1, if_neg (by rw [h2]; simp)]; simp; omega
    · have ih := filter_len_lt p q l h' y hm h1 h2
      have hx := h x (by simp)
      split
      · rename_i hp; rw [if_pos (hx hp)]; simp; omega
      · split <;> simp <;> omega
/-- How many may come yet. -/
def left (lt : α → α → Bool) (P : α → Bool) (l out : List α) : Nat := (l.filter (cnd lt P out)).length
theorem left_step (o : SOrd lt P) {l out : List α} {y : α} (hy : pickMin lt (cnd lt P out) l = some y) : left lt P l (out ++ [y]) < left lt P l out := by
  obtain ⟨q1, q2, q3⟩ := (pickMin_spec o.tr o.irr (cnd lt P out) l).2 y hy
  refine filter_len_lt _ _ l (fun x hx hc => ?_) y q1 q2 (by simp [cnd, o.irr])
  simp only [cnd, Bool.and_eq_true, List.getLast?_append, List.getLast?_singleton, Option.some_or, Option.all_some] at hc q2 ⊢
  refine ⟨hc.1, ?_⟩
  cases hl : out.getLast? with
  | none => rfl
  | some z => rw [hl] at q2; simp only [Option.all_some] at q2 ⊢; exact o.tr _ _ _ q2.2 hc.2
theorem SSet.len {l out : List α} (irr : ∀ x, lt x x = false) (h : SSet lt P l out) : out.length ≤ l.length := by
  have hnd : out.Nodup := h.1.imp fun {a b} hab e => by subst e; rw [irr] at hab; cases hab
  exact (List.Nodup.length_le_of_subset hnd fun x hx => ((h.2 x).1 hx).1)
theorem GInv.len {l out : List α} (irr : ∀ x, lt x x = false) (h : GInv lt P l out) : out.length ≤ l.length := by
  have hnd : out.Nodup := h.1.imp fun {a b} hab e => by subst e; rw [irr] at hab; cases hab
  exact (List.Nodup.length_le_of_subset hnd fun x hx => (h.2.1 x hx).1)
end
end Go.Proofs.Ytpenjnccdachaaa

namespace Go.Proofs.Ytpenjnccdachaaa
set_option linter.unusedSimpArgs false
set_option linter.unusedVariables false
open Go
section
variable {α : Type} [Inhabited α] [DecidableEq α] {lt : α → α → Bool} {P : α → Bool}
theorem compact_inv (tr : ∀ x y z, lt x y = true → lt y z = true → lt x z = true) (irr : ∀ x, lt x x = false) (xs : List α) (tri : ∀ x ∈ xs, ∀ y ∈ xs, lt x y = true ∨ x = y ∨ lt y x = true)
    (hs : xs.Pairwise (fun x y => lt y x = false)) : ∀ m, m ≤ xs.length → (Lib.compactUpTo xs.toArray m).Pairwise (fun x y => lt x y = true) ∧ (∀ x, x ∈ Lib.compactUpTo xs.toArray m ↔ x ∈ xs.take m) ∧ (0 < m → (Lib.compactUpTo xs.toArray m).getLast? = xs[m - 1]?) := by
  intro m
  induction m with
  | zero => intro _; exact ⟨by simp [Lib.compactUpTo], by simp [Lib.compactUpTo], by omega⟩
  | succ m ih =>
    intro hm
    obtain ⟨h1, h2, h3⟩ := ih (by omega)
    have hx : xs.toArray[m]! = xs[m] := by simp [show m < xs.length by omega]
    have ht : xs.take (m + 1) = xs.take m ++ [xs[m]] := (List.take_append_getElem (by omega)).symm
    rw [Lib.compactUpTo_succ, ht]
    by_cases hk : Lib.keeps xs.toArray m = true
    · rw [if_pos hk, hx]
      refine ⟨?_, fun x => ?_, fun _ => ?_⟩
      · rw [List.pairwise_append]
        refine ⟨h1, List.pairwise_singleton _ _, fun a ha b hb => ?_⟩
        rw [List.mem_singleton.1 hb]
        have hm0 : 0 < m := by
          rcases Nat.eq_zero_or_pos m with q | q
          · subst q; simp [Lib.compactUpTo] at ha
          · exact q
        have hl := h3 hm0
        rw [List.getElem?_eq_getElem (by omega)] at hl
        have hne : xs[m] ≠ xs[m - 1] := by
          simp only [Lib.keeps, decide_eq_true_eq] at hk
          rcases hk with q | q
          · omega
          · have e1 : xs.toArray[m - 1]! = xs[m - 1] := by simp [show m - 1 < xs.length by omega]
            rw [hx, e1] at q; exact q
        have hlt : lt xs[m - 1] xs[m] = true := by
          have hns := List.pairwise_iff_getElem.1 hs (m - 1) m (by omega) (by omega) (by omega)
          rcases tri xs[m - 1] (List.getElem_mem _) xs[m] (List.getElem_mem _) with q | q | q
          · exact q
          · exact absurd q.symm hne
          · rw [q] at hns; cases hns
        obtain ⟨pre, hpre⟩ := List.getLast?_eq_some_iff.1 hl
        rw [hpre] at ha h1
        rcases List.mem_append.1 ha with q | q
        · exact tr _ _ _ ((List.pairwise_append.1 h1).2.2 a q _ (by simp)) hlt
        · rw [List.mem_singleton.1 q]; exact hlt
      · rw [List.mem_append, List.mem_append, h2]
      · simp [show m < xs.length by omega]
    · have hk' : Lib.keeps xs.toArray m = false := by simpa using hk
      rw [if_neg hk, List.append_nil]
      simp only [Lib.keeps, decide_eq_false_iff_not, not_or, Decidable.not_not] at hk'
      obtain ⟨hm0, he⟩ := hk'
      have e1 : xs.toArray[m - 1]! = xs[m - 1] := by simp [show m - 1 < xs.length by omega]
      rw [hx, e1] at he
      refine ⟨h1, fun x => ?_, fun _ => ?_⟩
      · rw [h2, List.mem_append]
        refine ⟨.inl, fun q => ?_⟩
        rcases q with q | q
        · exact q
        · rw [List.mem_singleton.1 q, he]
          rw [List.mem_take_iff_getElem]
          exact ⟨m - 1, by omega, rfl⟩
      · rw [h3 (by omega), Nat.add_sub_cancel, List.getElem?_eq_getElem (by omega), List.getElem?_eq_getElem (by omega), he]
theorem compact_set (o : SOrd lt P) (xs l : List α) (hP : ∀ x, x ∈ xs ↔ x ∈ l ∧ P x = true) (hs : xs.Pairwise (fun x y => lt y x = false)) : SSet lt P l (Lib.compact xs) := by
  obtain ⟨h1, h2, _⟩ := compact_inv o.tr o.irr xs (fun x hx y hy => o.tri x y ((hP x).1 hx).2 ((hP y).1 hy).2) hs xs.length (Nat.le_refl _)
  refine ⟨h1, fun x => ?_⟩
  rw [show Lib.compact xs = Lib.compactUpTo xs.toArray xs.length from rfl, h2, List.take_length, hP]
end
end Go.Proofs.Ytpenjnccdachaaa

namespace Go.Proofs.Ytpenjnccdachaaa
set_option linter.unusedSimpArgs false
set_option linter.unusedVariables false
open Go Go.RowKit
/-- A letter; a sign of a name. -/
def ltr (c : UInt8) : Bool := decide (97 ≤ c.toNat) && decide (c.toNat ≤ 122)
def sgn (c : UInt8) : Bool := ltr c || (decide (48 ≤ c.toNat) && decide (c.toNat ≤ 57)) || decide (c.toNat = 45)
/-- A right name. -/
def nameR : List UInt8 → Bool
  | [] => false
  | c :: s => decide (s.length + 1 ≤ 16) && ltr c && (c :: s).all sgn
end Go.Proofs.Ytpenjnccdachaaa
