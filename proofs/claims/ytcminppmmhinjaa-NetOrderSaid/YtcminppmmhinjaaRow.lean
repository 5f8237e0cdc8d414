/- Rows of one's own that are written in place: store, clear, a shorter slice. -/
import Derived.Test.YtcminppmmhinjaaFlat
namespace Go.Proofs.Ytcminppmmhinjaa
set_option linter.unusedSimpArgs false
set_option linter.unusedVariables false
open Go Go.RowKit
section
variable {fr al : Nat → Prop} {w0 w w' : World} {L : List It} {P : Program} {o : Oper} {a : Act} {K : Act → World → Prop} {Q : Exit → Act → World → Prop}
theorem Own.tail {I : It} (st : Own fr al w0 (I :: L) w) : Own fr al w0 L w := by
  obtain ⟨hm, e, s, F⟩ := st
  exact ⟨hm, fun i => e (i + 1), fun i => s (i + 1), fun i J hi => F.holds (i + 1) J (by simpa using hi), fun i b hi => F.lo (i + 1) b (by simpa using hi), fun i b hi => F.fr (i + 1) b (by simpa using hi), fun i b hi => F.al (i + 1) b (by simpa using hi),
    fun i j b hi hj hne => F.ee (i + 1) (j + 1) b (by simpa using hi) (by simpa using hj) (by omega), fun i j b hi hj => F.es (i + 1) (j + 1) b (by simpa using hi) (by simpa using hj)⟩
theorem set_take_list {α : Type} (l : List α) (m i : Nat) (v : α) (h : i < m) : (l.set i v).take m = (l.take m).set i v := by rw [List.take_set]
/-- A cell of the row is stored. -/
theorem Own.rowSet1 (st : Own fr al w0 L w) {i k n c g : Nat} {E : TypeId} {xs : List Value} (hi : L[i]? = some (rowI E k (.slice (some ⟨g, 0, none⟩) n c) n xs)) (j : Nat) (v : Value) (hj : j < n * k) :
    Own fr al w0 (L.set i (rowI E k (.slice (some ⟨g, 0, none⟩) n c) n (xs.set j v))) (w.setCell ⟨g, j, none⟩ v) := by
  refine st.upd hi fun e s ⟨h1, h2⟩ h3 h4 => ⟨e, s, ⟨⟨by simpa using h1.1, ?_⟩, h2⟩, fun q hq => ⟨by simpa [World.setCell] using h3 q (.inl hq), .inl hq⟩, fun q hq => ⟨by simpa [World.setCell] using h3 q (.inr hq), .inr (.inl hq)⟩, h4, MutO.set (MutO.refl _ _) (h2 g rfl) _⟩
  rcases h1.2 with ⟨h5, _⟩ | ⟨g', cap, cur, hv, hb, hg, hc, hm, hs, ht⟩
  · cases h5
  · cases hv
    refine .inr ⟨g, c, cur.setIfInBounds j v, rfl, hb, ?_, hc, hm, by simpa using hs, ?_⟩
    · simp only [World.setCell, Array.getElem?_modify, hg]; simp
    · rw [Array.toList_setIfInBounds, List.take_set, ht]
theorem Own.rowSet (cs : List Value) : ∀ {w : World} {L : List It} {i k n c g : Nat} {E : TypeId} {xs : List Value} (_ : Own fr al w0 L w) (_ : L[i]? = some (rowI E k (.slice (some ⟨g, 0, none⟩) n c) n xs)) (j : Nat) (_ : j + cs.length ≤ n * k),
    Own fr al w0 (L.set i (rowI E k (.slice (some ⟨g, 0, none⟩) n c) n (spl xs j cs))) (w.setCells g j cs) := by
  induction cs with
  | nil =>
    intro w L i k n c g E xs st hi j hj
    have : L.set i (rowI E k (.slice (some ⟨g, 0, none⟩) n c) n xs) = L := by
      apply List.ext_getElem?
      intro q
      rw [List.getElem?_set]
      split
      · rename_i h; subst h; rw [hi, if_pos (get_lt hi)]
      · rfl
    simpa [spl, World.setCells, this] using st
  | cons u cs ih =>
    intro w L i k n c g E xs st hi j hj
    simp only [List.length_cons] at hj
    have h1 := st.rowSet1 hi j u (by omega)
    have h2 := ih h1 (i := i) (k := k) (n := n) (c := c) (g := g) (E := E) (xs := xs.set j u) (by simp [List.getElem?_set, get_lt hi]) (j + 1) (by omega)
    rw [List.set_set] at h2
    exact h2
/-- What a row's store needs to know of its cells. -/
theorem row_cell {E : TypeId} {k n c g : Nat} {xs : List Value} (h : w.ownsRow 0 E k (.slice (some ⟨g, 0, none⟩) n c) n xs) (j : Nat) (hj : j < n * k) : w.cell? ⟨g, j, none⟩ = xs[j]? ∧ w.frozen? ⟨g, j, none⟩ = false ∧ j < xs.length := by
  rcases h.2 with ⟨h5, _⟩ | ⟨g', cap, cur, hv, hb, hg, hc, hm, hs, ht⟩
  · cases h5
  · cases hv
    have hcn : n * k ≤ c * k := Nat.mul_le_mul_right _ hc
    have hjc : j < cur.size := by omega
    have hx : xs[j]? = cur[j]? := by rw [← ht, List.getElem?_take_of_lt hj]; simp
    have hlt : j < xs.length := by
      rw [Array.getElem?_eq_getElem hjc] at hx
      exact (List.getElem?_eq_some_iff.1 hx).1
    refine ⟨?_, by simp [World.frozen?, hg], hlt⟩
    rw [hx]; simp [World.cell?, hg]
theorem run_storeAt_row {E T : TypeId} {k n c g j : Nat} {xs cs : List Value} {v : Value} (h : w.ownsRow 0 E k (.slice (some ⟨g, 0, none⟩) n c) n xs) (hcs : v.cells.toList = cs) (hT : (P.info? T).map (·.size) = some cs.length) (hk : j + cs.length ≤ n * k) (h1 : cs.all (·.oneCell') = true) :
    (Instr.storeAt T (.pointer (some ⟨g, j, none⟩)) v).run P w = .ok () (w.setCells g j cs) := by
  subst hcs
  have := run_storeCells_cells (P := P) g j v.cells.toList 0 w (fun q hq => by
      have := row_cell h (j + q) (by omega)
      rw [Nat.add_zero, this.1, List.getElem?_eq_getElem this.2.2]; rfl) (fun q hq => (row_cell h (j + 0 + q) (by omega)).2.1) (fun u hu => (List.all_eq_true.1 h1) u hu)
  cases hq : P.info? T with
  | none => simp [hq] at hT
  | some i =>
    have hs : v.cells.size = i.size := by simp [hq] at hT; omega
    simp only [Nat.add_zero] at this
    simp [Instr.storeAt, Instr.sureAddr, storeVar, sizeOf, typeInfo, hq, hs, this]
/-- An element of the row is stored. -/
theorem owp_storeRow {T : TypeId} {x y : Operand} (ho : o.op = .store T x y) (st : Own fr al w0 L w) (i : Nat) {E : TypeId} {k n c g j : Nat} {xs cs : List Value} {v : Value}
    (hi : L[i]? = some (rowI E k (.slice (some ⟨g, 0, none⟩) n c) n xs)) (hx : a.eval x = .pointer (some ⟨g, j, none⟩)) (hy : a.eval y = v) (hcs : v.cells.toList = cs) (hT : (P.info? T).map (·.size) = some cs.length) (hj : j + cs.length ≤ n * k) (h1 : cs.all (·.oneCell') = true)
    (h : ∀ w', Own fr al w0 (L.set i (rowI E k (.slice (some ⟨g, 0, none⟩) n c) n (spl xs j cs))) w' → K (a.put o.dst undef) w') : o.wp P a w K Q := by
  unfold Oper.wp execOp
  simp only [ho, hx, hy, Sem.run_bind, run_storeAt_row (P := P) (st.row hi) hcs hT hj h1, Result.andThen, Sem.run_pure]
  exact h _ (st.rowSet cs hi j hj)
theorem owp_storeRow' {T : TypeId} {x y : Operand} (ho : o.op = .store T x y) (st : Own fr al w0 L w)
    (h : ∃ ad v, a.eval x = .pointer (some ad) ∧ a.eval y = v ∧ ∃ (i : Nat) (E : TypeId) (k n c g j : Nat) (xs cs : List Value), L[i]? = some (rowI E k (.slice (some ⟨g, 0, none⟩) n c) n xs) ∧ ad = ⟨g, j, none⟩ ∧ v.cells.toList = cs ∧ (P.info? T).map (·.size) = some cs.length ∧ j + cs.length ≤ n * k ∧ cs.all (·.oneCell') = true ∧
      ∀ w', Own fr al w0 (L.set i (rowI E k (.slice (some ⟨g, 0, none⟩) n c) n (spl xs j cs))) w' → K (a.put o.dst undef) w') : o.wp P a w K Q := by
  obtain ⟨ad, v, hx, hy, i, E, k, n, c, g, j, xs, cs, hi, rfl, hcs, hT, hj, h1, h⟩ := h
  exact owp_storeRow ho st i hi hx hy hcs hT hj h1 h
theorem spl_take (cs : List Value) : ∀ (xs : List Value) (j q : Nat), q ≤ j → (spl xs j cs).take q = xs.take q := by
  induction cs with
  | nil => intro xs j q _; rfl
  | cons u cs ih =>
    intro xs j q h
    rw [spl, ih _ _ _ (by omega), List.take_set]
    apply List.ext_getElem?
    intro m
    rw [List.getElem?_set]
    split
    · rename_i e; subst e
      split
      · rename_i hh; simp at hh; omega
      · rename_i hh; rw [List.getElem?_eq_none (by simp at hh ⊢; omega)]
    · rfl
/-- clear(s[m:]): the elements from m on are turned, the others stay. -/
theorem owp_clearRow {x : Operand} {t E : TypeId} (ho : o.op = .call { callee := .builtin .clear, args := #[x], argTypes := #[t] }) (st : Own fr al w0 L w) (i : Nat) {k n c g m c' : Nat} {xs : List Value} {inf : TypeInfo} {z : Value}
    (hi : L[i]? = some (rowI E k (.slice (some ⟨g, 0, none⟩) n c) n xs)) (ht : P.underlying t = some (.slice E)) (hinf : P.info? E = some inf) (hz : inf.zero = some z) (hk : 0 < k) (hzs : z.cells.size = k) (hz1 : z.cells.toList.all (·.oneCell') = true)
    (hmn : m ≤ n) (hx : a.eval x = .slice (some ⟨g, m * k, none⟩) (n - m) c')
    (h : ∀ w' ys, ys.take (m * k) = xs.take (m * k) → ys.length = xs.length → Own fr al w0 (L.set i (rowI E k (.slice (some ⟨g, 0, none⟩) n c) n ys)) w' → K (a.put o.dst (.tuple #[])) w') : o.wp P a w K Q := by
  have hrow := st.row hi
  by_cases h0 : n - m = 0
  · refine owp_run (v := .tuple #[]) (w' := w) ?_ (h w xs rfl rfl ?_)
    · rw [h0] at hx
      simp [execOp, ho, resolve, invoke, builtin, hx, Builtin.clear_, run_underlying ht]
    · have : L.set i (rowI E k (.slice (some ⟨g, 0, none⟩) n c) n xs) = L := by
        apply List.ext_getElem?
        intro q
        rw [List.getElem?_set]
        split
        · rename_i h; subst h; rw [hi, if_pos (get_lt hi)]
        · rfl
      rw [this]; exact st
  · obtain ⟨q, hq⟩ : ∃ q, n - m = q + 1 := ⟨n - m - 1, by omega⟩
    have hlen : (Builtin.zeroCells z.cells (n - m)).toList.length = (n - m) * k := by
      rw [Array.length_toList, size_zeroCells, hzs]
    have hnk : m * k + (n - m) * k = n * k := by rw [← Nat.add_mul]; congr 1; omega
    have hall : (Builtin.zeroCells z.cells (n - m)).toList.all (·.oneCell') = true := by
      rw [List.all_eq_true] at hz1 ⊢
      intro u hu
      simp only [Builtin.zeroCells, Array.toList_map, List.mem_map] at hu
      obtain ⟨r, _, rfl⟩ := hu
      have hr : r % z.cells.size < z.cells.size := Nat.mod_lt _ (by omega)
      apply hz1
      rw [getElem!_pos z.cells _ hr]
      exact Array.getElem_mem_toList hr
    have hst := run_storeCells_cells (P := P) g (m * k) (Builtin.zeroCells z.cells (n - m)).toList 0 w (fun q hq => by
        have := row_cell hrow (m * k + q) (by omega)
        rw [Nat.add_zero, this.1, List.getElem?_eq_getElem this.2.2]; rfl) (fun q hq => (row_cell hrow (m * k + 0 + q) (by omega)).2.1) (fun u hu => (List.all_eq_true.1 hall) u hu)
    simp only [Nat.add_zero] at hst
    refine owp_run (v := .tuple #[]) (w' := w.setCells g (m * k) (Builtin.zeroCells z.cells (n - m)).toList) ?_ (h _ _ (spl_take _ _ _ _ (Nat.le_refl _)) (spl_len _ _ _) (st.rowSet _ hi (m * k) (by omega)))
    rw [hq] at hx hst ⊢
    simp [execOp, ho, resolve, invoke, builtin, hx, Builtin.clear_, run_underlying ht, zeroValue, typeInfo, hinf, hz, hst, Result.andThen]
theorem owp_clearRow' {x : Operand} {t E : TypeId} (ho : o.op = .call { callee := .builtin .clear, args := #[x], argTypes := #[t] }) (st : Own fr al w0 L w) (ht : P.underlying t = some (.slice E))
    (h : ∃ ad q c', a.eval x = .slice (some ad) q c' ∧ ∃ (i : Nat) (k n c g m : Nat) (xs : List Value) (inf : TypeInfo) (z : Value), L[i]? = some (rowI E k (.slice (some ⟨g, 0, none⟩) n c) n xs) ∧ P.info? E = some inf ∧ inf.zero = some z ∧ 0 < k ∧ z.cells.size = k ∧ z.cells.toList.all (·.oneCell') = true ∧
      m ≤ n ∧ ad = ⟨g, m * k, none⟩ ∧ q = n - m ∧ ∀ w' ys, ys.take (m * k) = xs.take (m * k) → ys.length = xs.length → Own fr al w0 (L.set i (rowI E k (.slice (some ⟨g, 0, none⟩) n c) n ys)) w' → K (a.put o.dst (.tuple #[])) w') : o.wp P a w K Q := by
  obtain ⟨ad, q, c', hx, i, k, n, c, g, m, xs, inf, z, hi, hinf, hz, hk, hzs, hz1, hmn, rfl, rfl, h⟩ := h
  exact owp_clearRow ho st i hi ht hinf hz hk hzs hz1 hmn hx h
/-- A slice literal as a row that may grow. -/
theorem owp_buildRow {T : TypeId} {q : Nat} {ps : Array (Nat × Operand)} (ho : o.op = .buildSlice T q ps) (st : Own fr al w0 L w) (E : TypeId) (k : Nat) (h : ∃ (m : Nat) (cs : Array Value), (execOp a.eval o).run P w = .ok (.value (.slice (some ⟨w.heap.size, 0, none⟩) m m)) (w.alloc (.cells cs E)) ∧
    cs.size = m * k ∧ m ≤ maxLen ∧ ∀ b w', w.heap.size ≤ b → Own fr al w0 (L ++ [rowI E k (.slice (some ⟨b, 0, none⟩) m m) m cs.toList]) w' → K (a.put o.dst (.slice (some ⟨b, 0, none⟩) m m)) w') : o.wp P a w K Q := by
  obtain ⟨m, cs, hr, h1, h2, h⟩ := h
  refine owp_run hr (h _ _ (Nat.le_refl _) (st.new (Ext.new w _) (e' := fun b => b = w.heap.size) (s' := fun _ => False) ⟨⟨by simpa using h1, .inr ⟨w.heap.size, m, cs, rfl, Nat.zero_le _, ?_, Nat.le_refl _, h2, h1, ?_⟩⟩, fun b hb => by cases hb; rfl⟩ (fun b hb => ?_) (fun _ q => q.elim) (fun _ _ q => q)))
  · show (w.heap.push _)[_]? = _; simp
  · rw [List.take_of_length_le]; simp [h1]
  · subst hb; exact ⟨by show _ < (w.heap.push _).size; simp, Nat.le_refl _⟩
/-- s[:m] -/
theorem Own.rowCut (st : Own fr al w0 L w) {i k n c g : Nat} {E : TypeId} {xs : List Value} (hi : L[i]? = some (rowI E k (.slice (some ⟨g, 0, none⟩) n c) n xs)) (m : Nat) (hm : m ≤ n) :
    Own fr al w0 (L.set i (rowI E k (.slice (some ⟨g, 0, none⟩) m c) m (xs.take (m * k)))) w := by
  refine st.conv hi fun e s ⟨h1, h2⟩ h3 => ⟨e, s, ⟨⟨?_, ?_⟩, fun q hq => h2 q hq⟩, fun _ q => q, fun _ q => .inr q, h3⟩
  · have := h1.1
    have : m * k ≤ n * k := Nat.mul_le_mul_right _ hm
    simp; omega
  · rcases h1.2 with ⟨h5, _⟩ | ⟨g', cap, cur, hv, hb, hg, hc, hmx, hs, ht⟩
    · cases h5
    · cases hv
      refine .inr ⟨g, c, cur, rfl, hb, hg, Nat.le_trans hm hc, hmx, hs, ?_⟩
      rw [← ht, List.take_take, Nat.min_eq_left (Nat.mul_le_mul_right _ hm)]
end
section
variable {α : Type} [Flt α]
theorem spl_in (cs : List Value) : ∀ (xs : List Value) (j q : Nat), (spl xs j cs)[q]? = if j ≤ q ∧ q < j + cs.length ∧ q < xs.length then cs[q - j]? else xs[q]? := by
  induction cs with
  | nil => intro xs j q; simp [spl]; intro h1 h2; omega
  | cons u cs ih =>
    intro xs j q
    rw [spl, ih]
    simp only [List.length_set, List.length_cons]
    by_cases h1 : q = j
    · subst h1
      rw [if_neg (by omega)]
      by_cases h2 : q < xs.length
      · rw [if_pos ⟨Nat.le_refl _, by omega, h2⟩]; simp [h2]
      · rw [if_neg (by omega)]; simp [h2]
    · rw [List.getElem?_set, if_neg (Ne.symm h1)]
      by_cases h2 : j + 1 ≤ q ∧ q < j + 1 + cs.length ∧ q < xs.length
      · rw [if_pos h2, if_pos (by omega), show q - j = (q - (j + 1)) + 1 by omega, List.getElem?_cons_succ]
      · rw [if_neg h2, if_neg (by omega)]
theorem cellsL_set (xs : List α) (i : Nat) (y : α) (hi : i < xs.length) : spl (cellsL xs) (i * Flt.k α) (Flt.cells y) = cellsL (xs.set i y) := by
  have hk := Flt.pos (α := α)
  apply List.ext_getElem?
  intro q
  rw [spl_in, Flt.len, cellsL_len]
  have e : q / Flt.k α * Flt.k α + q % Flt.k α = q := by rw [Nat.mul_comm]; exact Nat.div_add_mod _ _
  have hr : q % Flt.k α < Flt.k α := Nat.mod_lt _ hk
  by_cases hq : q < xs.length * Flt.k α
  · have hd : q / Flt.k α < xs.length := (Nat.div_lt_iff_lt_mul hk).2 hq
    by_cases hiq : q / Flt.k α = i
    · have h1 : (cellsL (xs.set i y))[q]? = (Flt.cells y)[q % Flt.k α]? := by
        have := cellsL_get (xs := xs.set i y) (i := q / Flt.k α) (j := q % Flt.k α) (x := y) (by rw [hiq]; simp [hi]) hr
        rwa [e] at this
      have e2 : i * Flt.k α + q % Flt.k α = q := by rw [← hiq]; exact e
      rw [h1, if_pos ⟨by omega, by omega, hq⟩]
      congr 1; omega
    · have h1 : (cellsL (xs.set i y))[q]? = (cellsL xs)[q]? := by
        have g1 := cellsL_get (xs := xs.set i y) (i := q / Flt.k α) (j := q % Flt.k α) (x := xs[q / Flt.k α]) (by rw [List.getElem?_set, if_neg (Ne.symm hiq)]; exact List.getElem?_eq_getElem hd) hr
        have g2 := cellsL_get (xs := xs) (List.getElem?_eq_getElem hd) hr
        rw [e] at g1 g2; rw [g1, g2]
      rw [h1, if_neg]
      rintro ⟨h2, h3, _⟩
      apply hiq
      have : i * Flt.k α + Flt.k α = (i + 1) * Flt.k α := by rw [Nat.add_mul, Nat.one_mul]
      have h5 : i ≤ q / Flt.k α := (Nat.le_div_iff_mul_le hk).2 h2
      have h6 : q / Flt.k α < i + 1 := (Nat.div_lt_iff_lt_mul hk).2 (by omega)
      omega
  · rw [if_neg (by omega)]
    rw [List.getElem?_eq_none (by rw [cellsL_len]; omega), List.getElem?_eq_none (by rw [cellsL_len, List.length_set]; omega)]
theorem cellsL_take (xs : List α) (m : Nat) : (cellsL xs).take (m * Flt.k α) = cellsL (xs.take m) := by
  by_cases hm : m ≤ xs.length
  · have h1 : cellsL xs = cellsL (xs.take m) ++ cellsL (xs.drop m) := by rw [← cellsL_append, List.take_append_drop]
    have h2 : (cellsL (xs.take m)).length = m * Flt.k α := by rw [cellsL_len]; simp [Nat.min_eq_left hm]
    rw [h1, List.take_append_of_le_length (by omega), List.take_of_length_le (by omega)]
  · rw [List.take_of_length_le (l := xs) (by omega), List.take_of_length_le]
    rw [cellsL_len]; exact Nat.mul_le_mul_right _ (by omega)
end
end Go.Proofs.Ytcminppmmhinjaa
