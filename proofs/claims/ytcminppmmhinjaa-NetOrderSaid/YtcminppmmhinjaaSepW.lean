/- The walk's steps over pieces of memory. -/
import Derived.Test.YtcminppmmhinjaaSep
import Derived.Test.YtcminppmmhinjaaRegion
import Derived.Deep.MidRow
namespace Go.Proofs.Ytcminppmmhinjaa
set_option linter.unusedSimpArgs false
set_option linter.unusedVariables false
open Go Go.RowKit

theorem get0 {x0 : It} {l : List It} : (x0 :: l)[0]? = some x0 := rfl
theorem get1 {x0 x1 : It} {l : List It} : (x0 :: x1 :: l)[1]? = some x1 := rfl
theorem get2 {x0 x1 x2 : It} {l : List It} : (x0 :: x1 :: x2 :: l)[2]? = some x2 := rfl
theorem get3 {x0 x1 x2 x3 : It} {l : List It} : (x0 :: x1 :: x2 :: x3 :: l)[3]? = some x3 := rfl
theorem get4 {x0 x1 x2 x3 x4 : It} {l : List It} : (x0 :: x1 :: x2 :: x3 :: x4 :: l)[4]? = some x4 := rfl
theorem get5 {x0 x1 x2 x3 x4 x5 : It} {l : List It} : (x0 :: x1 :: x2 :: x3 :: x4 :: x5 :: l)[5]? = some x5 := rfl
theorem get6 {x0 x1 x2 x3 x4 x5 x6 : It} {l : List It} : (x0 :: x1 :: x2 :: x3 :: x4 :: x5 :: x6 :: l)[6]? = some x6 := rfl
theorem get7 {x0 x1 x2 x3 x4 x5 x6 x7 : It} {l : List It} : (x0 :: x1 :: x2 :: x3 :: x4 :: x5 :: x6 :: x7 :: l)[7]? = some x7 := rfl
theorem get8 {x0 x1 x2 x3 x4 x5 x6 x7 x8 : It} {l : List It} : (x0 :: x1 :: x2 :: x3 :: x4 :: x5 :: x6 :: x7 :: x8 :: l)[8]? = some x8 := rfl
theorem get9 {x0 x1 x2 x3 x4 x5 x6 x7 x8 x9 : It} {l : List It} : (x0 :: x1 :: x2 :: x3 :: x4 :: x5 :: x6 :: x7 :: x8 :: x9 :: l)[9]? = some x9 := rfl
theorem get10 {x0 x1 x2 x3 x4 x5 x6 x7 x8 x9 x10 : It} {l : List It} : (x0 :: x1 :: x2 :: x3 :: x4 :: x5 :: x6 :: x7 :: x8 :: x9 :: x10 :: l)[10]? = some x10 := rfl
theorem get11 {x0 x1 x2 x3 x4 x5 x6 x7 x8 x9 x10 x11 : It} {l : List It} : (x0 :: x1 :: x2 :: x3 :: x4 :: x5 :: x6 :: x7 :: x8 :: x9 :: x10 :: x11 :: l)[11]? = some x11 := rfl
theorem get12 {x0 x1 x2 x3 x4 x5 x6 x7 x8 x9 x10 x11 x12 : It} {l : List It} : (x0 :: x1 :: x2 :: x3 :: x4 :: x5 :: x6 :: x7 :: x8 :: x9 :: x10 :: x11 :: x12 :: l)[12]? = some x12 := rfl
def blkFacts (w : World) (b : Nat) : Nat → List Value → Prop
  | _, [] => True
  | i, v :: vs => w.cell? ⟨b, i, none⟩ = some v ∧ blkFacts w b (i + 1) vs
theorem blkFacts_of {w : World} {b : Nat} : ∀ (vs : List Value) (i : Nat), (∀ j, j < vs.length → w.cell? ⟨b, i + j, none⟩ = vs[j]?) → blkFacts w b i vs
  | [], _, _ => trivial
  | v :: vs, i, h => ⟨by have := h 0 (by simp); simpa using this, blkFacts_of vs (i + 1) fun j hj => by
      have := h (j + 1) (by simp; omega)
      rw [show i + 1 + j = i + (j + 1) by omega]; simpa using this⟩
/-- A block of one's own, whole: the cells vs. -/
def blkI (b : Nat) (vs : List Value) : It where
  P e _ w := e b ∧ Blk w b vs
  st := fun ⟨h1, ty, h2⟩ hag => ⟨h1, ty, by rw [hag b (.inl h1)]; exact h2⟩
  facts w := blkFacts w b 0 vs
  ok := fun ⟨_, h⟩ => blkFacts_of _ 0 fun j _ => by rw [Nat.zero_add]; exact h.cell j
theorem row_agree {w w' : World} {E : TypeId} {size n : Nat} {v : Value} {xs : List Value} (h : w.ownsRow 0 E size v n xs) (hag : ∀ k, v.ownBlock = some k → w'.heap[k]? = w.heap[k]?) : w'.ownsRow 0 E size v n xs := by
  refine ⟨h.1, h.2.imp id ?_⟩
  rintro ⟨g, cap, cur, hv, hb, hg, r⟩
  exact ⟨g, cap, cur, hv, hb, by rw [hag g (by rw [hv]; rfl)]; exact hg, r⟩
/-- A slice of one's own that may grow: n elements of type E, the cells xs. -/
def rowI (E : TypeId) (size : Nat) (v : Value) (n : Nat) (xs : List Value) : It where
  P e _ w := w.ownsRow 0 E size v n xs ∧ ∀ k, v.ownBlock = some k → e k
  st := fun ⟨h1, h2⟩ hag => ⟨row_agree h1 fun k hk => hag k (.inl (h2 k hk)), h2⟩
  facts _ := True
  ok := fun _ => trivial
/-- A byte slice that is shared. -/
def byI (a : Option Addr) (n : Nat) (xs : List UInt8) : It where
  P _ s w := By w a n xs ∧ (0 < n → ∀ ad, a = some ad → s ad.block)
  st := by
    rintro e s w w' ⟨h1, h2⟩ hag
    refine ⟨⟨h1.1, fun h0 => ?_⟩, h2⟩
    obtain ⟨b, off, rfl, hc⟩ := h1.2 h0
    refine ⟨b, off, rfl, fun i x hi => ?_⟩
    have := hc i x hi
    unfold byteR at *
    rw [World.cell?_of_block (w := w) (hag b (.inr (h2 h0 _ rfl)))]
    exact this
  facts _ := True
  ok := fun _ => trivial
/-- What is shared, in whatever form. -/
structure Dat where
  Q : (Nat → Prop) → World → Prop
  st : ∀ {s w w'}, Q s w → (∀ b, s b → w'.heap[b]? = w.heap[b]?) → Q s w'
def datI (d : Dat) : It where
  P _ s w := d.Q s w
  st := fun h hag => d.st h fun b hb => hag b (.inr hb)
  facts _ := True
  ok := fun _ => trivial

/-- The memory of W0 is as it was, and is shared. -/
def oldI (W0 : World) : It where
  P _ s w := (∀ b, b < W0.heap.size → s b) ∧ W0.heap.size ≤ w.heap.size ∧ ∀ b, b < W0.heap.size → w.heap[b]? = W0.heap[b]?
  st := by
    rintro e s w w' ⟨h1, h2, h3⟩ hag
    refine ⟨h1, ?_, fun b hb => (hag b (.inr (h1 b hb))).trans (h3 b hb)⟩
    rcases Nat.eq_zero_or_pos W0.heap.size with q | q
    · omega
    · have e1 := hag (W0.heap.size - 1) (.inr (h1 _ (by omega)))
      have e2 : ∃ o, W0.heap[W0.heap.size - 1]? = some o := ⟨_, Array.getElem?_eq_getElem (by omega)⟩
      obtain ⟨o, e2⟩ := e2
      rw [h3 _ (by omega), e2] at e1
      have := (Array.getElem?_eq_some_iff.1 e1).1
      omega
  facts _ := True
  ok := fun _ => trivial
section
variable {fr al : Nat → Prop} {w0 w w' : World} {L : List It}
theorem Own.old (st : Own fr al w0 L w) {i : Nat} {W0 : World} (hi : L[i]? = some (oldI W0)) : W0.heap.size ≤ w.heap.size ∧ ∀ b, b < W0.heap.size → w.heap[b]? = W0.heap[b]? := let ⟨_, _, h, _⟩ := st.get hi; ⟨h.2.1, h.2.2⟩
theorem Own.oldCell (st : Own fr al w0 L w) {i : Nat} {W0 : World} (hi : L[i]? = some (oldI W0)) {p : Addr} {v : Value} (h : W0.cell? p = some v) : w.cell? p = some v := by
  rw [World.cell?_of_block (w := W0) ((st.old hi).2 _ (World.block_lt_of_cell? W0 p h))]
  exact h
theorem Own.oldBy (st : Own fr al w0 L w) {i : Nat} {W0 : World} (hi : L[i]? = some (oldI W0)) {A : Option Addr} {n : Nat} {xs : List UInt8} (h : By W0 A n xs) : By w A n xs :=
  ⟨h.1, fun h0 => let ⟨b, off, e, hc⟩ := h.2 h0; ⟨b, off, e, fun j x hj => st.oldCell hi (hc j x hj)⟩⟩
theorem Own.blk (st : Own fr al w0 L w) {i b : Nat} {vs : List Value} (hi : L[i]? = some (blkI b vs)) : Blk w b vs := let ⟨_, _, h, _⟩ := st.get hi; h.2
theorem Own.row (st : Own fr al w0 L w) {i n size : Nat} {E : TypeId} {v : Value} {xs : List Value} (hi : L[i]? = some (rowI E size v n xs)) : w.ownsRow 0 E size v n xs := let ⟨_, _, h, _⟩ := st.get hi; h.1
theorem Own.by (st : Own fr al w0 L w) {i n : Nat} {a : Option Addr} {xs : List UInt8} (hi : L[i]? = some (byI a n xs)) : By w a n xs := let ⟨_, _, h, _⟩ := st.get hi; h.1
theorem Own.alloc (st : Own fr al w0 L w) (cs : List Value) (T : TypeId) {b : Nat} (hb : b = w.heap.size) : Own fr al w0 (L ++ [blkI b cs]) (w.alloc (.cells cs.toArray T)) := by
  subst hb
  refine st.new (I := blkI w.heap.size cs) (e' := fun k => k = w.heap.size) (s' := fun _ => False) (Ext.new w _) ⟨rfl, Blk.new w cs T⟩ ?_ (fun _ q => q.elim) (fun _ _ q => q.elim)
  rintro b rfl
  exact ⟨by show _ < (w.heap.push _).size; simp, Nat.le_refl _⟩
theorem Own.drew (st : Own fr al w0 L w) : Own fr al w0 L w.drew := st.ext (Ext.refl w).drew
theorem Own.rowAt (st : Own fr al w0 L w) {i n size : Nat} {E : TypeId} {v : Value} {xs : List Value} (hi : L[i]? = some (rowI E size v n xs)) (hn : 0 < n) :
    ∃ g cap, v = .slice (some ⟨g, 0, none⟩) n cap ∧ (n ≤ cap ∧ cap ≤ maxLen) ∧ ∀ j u, xs[j]? = some u → w.cell? ⟨g, j, none⟩ = some u := by
  have h := st.row hi
  rcases h.2 with ⟨rfl, h0⟩ | ⟨g, cap, cur, rfl, hb, hg, hc, hm, hs, ht⟩
  · omega
  · refine ⟨g, cap, rfl, ⟨hc, hm⟩, fun j u hj => ?_⟩
    have := h.cells (g := g) rfl j u hj
    rwa [addr_add, Nat.zero_add] at this
theorem Own.row_nil (st : Own fr al w0 L w) (E : TypeId) (size : Nat) : Own fr al w0 (L ++ [rowI E size (.slice none 0 0) 0 []]) w :=
  st.bare ⟨⟨by simp, .inl ⟨rfl, rfl⟩⟩, fun k hk => by simp [Value.ownBlock] at hk⟩
theorem Own.set (st : Own fr al w0 L w) {i b : Nat} {vs : List Value} (hi : L[i]? = some (blkI b vs)) (k : Nat) (v : Value) : Own fr al w0 (L.set i (blkI b (vs.set k v))) (w.setCell ⟨b, k, none⟩ v) :=
  st.upd hi fun e s ⟨h1, h2⟩ h3 h4 => ⟨e, s, ⟨h1, h2.set k v⟩, fun q hq => ⟨by simpa [World.setCell] using h3 q (.inl hq), .inl hq⟩, fun q hq => ⟨by simpa [World.setCell] using h3 q (.inr hq), .inr (.inl hq)⟩, h4, MutO.set (MutO.refl _ _) h1 _⟩
/-- Several cells. -/
def spl (vs : List Value) : Nat → List Value → List Value
  | _, [] => vs
  | k, c :: cs => spl (vs.set k c) (k + 1) cs
theorem spl_len (cs : List Value) : ∀ (vs : List Value) (k : Nat), (spl vs k cs).length = vs.length := by
  induction cs with
  | nil => intro vs k; rfl
  | cons c cs ih => intro vs k; rw [spl, ih]; simp
theorem Own.setCells (st : Own fr al w0 L w) {i b : Nat} {vs : List Value} (hi : L[i]? = some (blkI b vs)) (cs : List Value) (k : Nat) : Own fr al w0 (L.set i (blkI b (spl vs k cs))) (w.setCells b k cs) := by
  induction cs generalizing L w vs k with
  | nil =>
    have : L.set i (blkI b vs) = L := by
      apply List.ext_getElem?
      intro j
      rw [List.getElem?_set]
      split
      · rename_i h; subst h; rw [hi, if_pos (get_lt hi)]
      · rfl
    simpa [spl, World.setCells, this] using st
  | cons c cs ih =>
    have h1 := st.set hi k c
    have h2 := ih h1 (vs := vs.set k c) (k := k + 1) (by simp [List.getElem?_set, get_lt hi])
    rw [List.set_set] at h2
    exact h2
theorem run_storeAt_own {P : Program} {w : World} {b k : Nat} {vs : List Value} {v : Value} {T : TypeId} {cs : List Value} (h : Blk w b vs) (hcs : v.cells.toList = cs) (hT : (P.info? T).map (·.size) = some cs.length) (hk : k + cs.length ≤ vs.length) (h1 : cs.all (·.oneCell') = true) :
    (Instr.storeAt T (.pointer (some ⟨b, k, none⟩)) v).run P w = .ok () (w.setCells b k cs) := by
  subst hcs
  have := run_storeCells_cells (P := P) b k v.cells.toList 0 w (fun j hj => by rw [Nat.add_zero, h.cell, List.getElem?_eq_getElem (by omega)]; rfl) (fun j _ => h.free _) (fun u hu => (List.all_eq_true.1 h1) u hu)
  cases hq : P.info? T with
  | none => simp [hq] at hT
  | some i =>
    have hs : v.cells.size = i.size := by simp [hq] at hT; omega
    simp only [Nat.add_zero] at this
    simp [Instr.storeAt, Instr.sureAddr, storeVar, sizeOf, typeInfo, hq, hs, this]
end

section
variable {fr al : Nat → Prop} {w0 w : World} {L : List It} {P : Program} {o : Oper} {a : Act} {K : Act → World → Prop} {Q : Exit → Act → World → Prop}
/-- At a plain region's list. -/
theorem wpl_at {ops : Array Oper} {rest : List Oper} (hg : Region.wanted o (yielded ops a.tmps) = true) (h : ∀ K : Act → World → Prop, (∀ a w, wpList P ops Q rest a w → K a w) → o.wp P a w K Q) : wpList P ops Q (o :: rest) a w := by
  unfold wpList
  rw [if_pos hg]
  exact .inl (h _ fun _ _ q => q)
theorem wl_box {ops : Array Oper} {rest : List Oper} {d : Option Tmp} {T : TypeId} {x : Operand} {ty : TypeId} {pos : String} {af : Array Edge} {gd : Option (Nat × Bool)} (hg : Region.wanted ⟨d, .box T x, ty, pos, af, gd⟩ (yielded ops a.tmps) = true)
    (h : ∀ K : Act → World → Prop, (∀ a w, wpList P ops Q rest a w → K a w) → Oper.wp P ⟨d, .box T x, ty, pos, af, gd⟩ a w K Q) : wpList P ops Q (⟨d, .box T x, ty, pos, af, gd⟩ :: rest) a w := wpl_at hg h
theorem wl_alloc {ops : Array Oper} {rest : List Oper} {d : Option Tmp} {T : TypeId} {ty : TypeId} {pos : String} {af : Array Edge} {gd : Option (Nat × Bool)} (hg : Region.wanted ⟨d, .alloc T, ty, pos, af, gd⟩ (yielded ops a.tmps) = true)
    (h : ∀ K : Act → World → Prop, (∀ a w, wpList P ops Q rest a w → K a w) → Oper.wp P ⟨d, .alloc T, ty, pos, af, gd⟩ a w K Q) : wpList P ops Q (⟨d, .alloc T, ty, pos, af, gd⟩ :: rest) a w := wpl_at hg h
theorem wl_buildSlice {ops : Array Oper} {rest : List Oper} {d : Option Tmp} {T : TypeId} {m : Nat} {ps : Array (Nat × Operand)} {ty : TypeId} {pos : String} {af : Array Edge} {gd : Option (Nat × Bool)} (hg : Region.wanted ⟨d, .buildSlice T m ps, ty, pos, af, gd⟩ (yielded ops a.tmps) = true)
    (h : ∀ K : Act → World → Prop, (∀ a w, wpList P ops Q rest a w → K a w) → Oper.wp P ⟨d, .buildSlice T m ps, ty, pos, af, gd⟩ a w K Q) : wpList P ops Q (⟨d, .buildSlice T m ps, ty, pos, af, gd⟩ :: rest) a w := wpl_at hg h
theorem wl_store {ops : Array Oper} {rest : List Oper} {d : Option Tmp} {T : TypeId} {x y : Operand} {ty : TypeId} {pos : String} {af : Array Edge} {gd : Option (Nat × Bool)} (hg : Region.wanted ⟨d, .store T x y, ty, pos, af, gd⟩ (yielded ops a.tmps) = true)
    (h : ∀ K : Act → World → Prop, (∀ a w, wpList P ops Q rest a w → K a w) → Oper.wp P ⟨d, .store T x y, ty, pos, af, gd⟩ a w K Q) : wpList P ops Q (⟨d, .store T x y, ty, pos, af, gd⟩ :: rest) a w := wpl_at hg h
theorem wl_convert {ops : Array Oper} {rest : List Oper} {d : Option Tmp} {s t : TypeId} {x : Operand} {ty : TypeId} {pos : String} {af : Array Edge} {gd : Option (Nat × Bool)} (hg : Region.wanted ⟨d, .convert s t x, ty, pos, af, gd⟩ (yielded ops a.tmps) = true)
    (h : ∀ K : Act → World → Prop, (∀ a w, wpList P ops Q rest a w → K a w) → Oper.wp P ⟨d, .convert s t x, ty, pos, af, gd⟩ a w K Q) : wpList P ops Q (⟨d, .convert s t x, ty, pos, af, gd⟩ :: rest) a w := wpl_at hg h
theorem wl_append {ops : Array Oper} {rest : List Oper} {d : Option Tmp} {s x : Operand} {t : TypeId} {ty : TypeId} {pos : String} {af : Array Edge} {gd : Option (Nat × Bool)} (hg : Region.wanted ⟨d, .call { callee := .builtin .append, args := #[s, x], argTypes := #[t, t] }, ty, pos, af, gd⟩ (yielded ops a.tmps) = true)
    (h : ∀ K : Act → World → Prop, (∀ a w, wpList P ops Q rest a w → K a w) → Oper.wp P ⟨d, .call { callee := .builtin .append, args := #[s, x], argTypes := #[t, t] }, ty, pos, af, gd⟩ a w K Q) : wpList P ops Q (⟨d, .call { callee := .builtin .append, args := #[s, x], argTypes := #[t, t] }, ty, pos, af, gd⟩ :: rest) a w := wpl_at hg h
theorem owp_run {w' : World} {v : Value} (hr : (execOp a.eval o).run P w = .ok (.value v) w') (h : K (a.put o.dst v) w') : o.wp P a w K Q := by unfold Oper.wp; rw [hr]; exact h
theorem owp_store {T : TypeId} {x y : Operand} (ho : o.op = .store T x y) (st : Own fr al w0 L w)
    (h : ∃ ad v, a.eval x = .pointer (some ad) ∧ a.eval y = v ∧ ∃ (i b k : Nat) (vs cs : List Value), L[i]? = some (blkI b vs) ∧ ad = ⟨b, k, none⟩ ∧ v.cells.toList = cs ∧ (P.info? T).map (·.size) = some cs.length ∧ k + cs.length ≤ vs.length ∧ cs.all (·.oneCell') = true ∧
      ∀ w', Own fr al w0 (L.set i (blkI b (spl vs k cs))) w' → K (a.put o.dst undef) w') : o.wp P a w K Q := by
  obtain ⟨ad, v, hx, hy, i, b, k, vs, cs, hi, rfl, hcs, hT, hk, h1, h⟩ := h
  unfold Oper.wp execOp
  simp only [ho, hx, hy, Sem.run_bind, run_storeAt_own (P := P) (st.blk hi) hcs hT hk h1, Result.andThen, Sem.run_pure]
  exact h _ (st.setCells hi cs k)
theorem owp_box {T : TypeId} {x : Operand} (ho : o.op = .box T x) (st : Own fr al w0 L w)
    (h : ∃ v, a.eval x = v ∧ ∀ b w', w.heap.size ≤ b → Own fr al w0 (L ++ [blkI b v.cells.toList]) w' → K (a.put o.dst (.pointer (some ⟨b, 0, none⟩))) w') : o.wp P a w K Q := by
  obtain ⟨v, hx, h⟩ := h
  refine owp_run (v := .pointer (some ⟨w.heap.size, 0, none⟩)) (w' := w.alloc (.cells v.cells T)) ?_ (h _ _ (Nat.le_refl _) (by have := st.alloc v.cells.toList T rfl; simpa using this))
  unfold execOp
  simp only [ho, hx]
  simp [Instr.box, newVar, newRow, go_sem]
theorem owp_alloc {T : TypeId} (ho : o.op = .alloc T) (st : Own fr al w0 L w) (h : ∃ (cs : Array Value) (T' : TypeId), (execOp a.eval o).run P w = .ok (.value (.pointer (some ⟨w.heap.size, 0, none⟩))) (w.alloc (.cells cs T')) ∧
    ∀ b w', w.heap.size ≤ b → Own fr al w0 (L ++ [blkI b cs.toList]) w' → K (a.put o.dst (.pointer (some ⟨b, 0, none⟩))) w') : o.wp P a w K Q :=
  let ⟨cs, T', hr, h⟩ := h
  owp_run hr (h _ _ (Nat.le_refl _) (by have := st.alloc cs.toList T' rfl; simpa using this))
theorem owp_buildSlice {T : TypeId} {k : Nat} {ps : Array (Nat × Operand)} (ho : o.op = .buildSlice T k ps) (st : Own fr al w0 L w) (h : ∃ (m c : Nat) (cs : Array Value) (T' : TypeId), (execOp a.eval o).run P w = .ok (.value (.slice (some ⟨w.heap.size, 0, none⟩) m c)) (w.alloc (.cells cs T')) ∧
    ∀ b w', w.heap.size ≤ b → Own fr al w0 (L ++ [blkI b cs.toList]) w' → K (a.put o.dst (.slice (some ⟨b, 0, none⟩) m c)) w') : o.wp P a w K Q :=
  let ⟨_, _, cs, T', hr, h⟩ := h
  owp_run hr (h _ _ (Nat.le_refl _) (by have := st.alloc cs.toList T' rfl; simpa using this))
/-- append to a slice of one's own: the new elements are somewhere. -/
theorem owp_append {s x : Operand} {t : TypeId} (ho : o.op = .call { callee := .builtin .append, args := #[s, x], argTypes := #[t, t] }) (st : Own fr al w0 L w) (i : Nat) {E : TypeId} {inf : TypeInfo} {z v : Value} {size bytes n m c : Nat} {xs news : List Value} {A : Option Addr}
    (hi : L[i]? = some (rowI E size v n xs)) (ht : P.underlying t = some (.slice E)) (hinf : P.info? E = some inf) (hz : inf.zero = some z) (hsize : inf.size = size) (hby : inf.bytes = bytes) (hzs : z.cells.size = size) (hsz : 0 < size)
    (hs : a.eval s = v) (hx : a.eval x = .slice A m c) (hf : Flat w A m size news) (h1 : ∀ u ∈ news, u.oneCell' = true) (h63 : n + m ≤ maxLen) (hbytes : (n + m) * bytes ≤ 140737488355328)
    (h : ∀ v' w', Own fr al w0 (L.set i (rowI E size v' (n + m) (xs ++ news))) w' → K (a.put o.dst v') w') : o.wp P a w K Q := by
  have hown := st.row hi
  obtain ⟨v', w', hr, h2, h3⟩ := run_append_any (P := P) 0 t o.type E inf z size bytes ht hinf hz hsize hby hzs hsz v n xs hown A m c news hf h1 h63 hbytes (Nat.zero_le _)
  have h4 := append_block (P := P) 0 t o.type E inf z size bytes ht hinf hz hsize hby hsz v v' n xs hown A m c news hf h1 h63 hbytes hr
  refine owp_run (v := v') (w' := w') (by simp [execOp, ho, resolve, invoke, builtin, hs, hx, hr, Result.andThen]) (h v' w' ?_)
  refine st.upd hi fun e s ⟨_, q2⟩ q3 q4 => ⟨fun k => e k ∨ (w.heap.size ≤ k ∧ k < w'.heap.size), s, ⟨h2, fun k hk => ?_⟩, fun b hb => ?_, fun b hb => ⟨Nat.lt_of_lt_of_le (q3 b (.inr hb)) h3.size, .inr (.inl hb)⟩, fun b hb hb' => ?_, ?_⟩
  · rcases h4 with h | h
    · rw [h] at hk; exact .inl (q2 k hk)
    · rw [h] at hk; injection hk with hk; subst hk
      exact .inr ⟨Nat.le_refl _, (h2.lt _ h).2⟩
  · rcases hb with hb | hb
    · exact ⟨Nat.lt_of_lt_of_le (q3 b (.inl hb)) h3.size, .inl hb⟩
    · exact ⟨hb.2, .inr hb.1⟩
  · rcases hb with hb | hb
    · exact q4 b hb hb'
    · have := q3 b (.inr hb'); omega
  · exact MutO.grown (MutO.refl _ _) h3 fun k hk _ => q2 k hk
/-- The elements lie in a block of one's own. -/
theorem Blk.flat {w : World} {b size m : Nat} {vs : List Value} (h : Blk w b vs) (hm : vs.length = m * size) : Flat w (some ⟨b, 0, none⟩) m size vs :=
  ⟨hm, fun _ => ⟨_, rfl, fun j u hj => by rw [addr_add, Nat.zero_add, h.cell]; exact hj⟩⟩
end

section
variable {fr al : Nat → Prop} {w0 w : World} {L : List It}
/-- Some of the items stay; the others are forgotten. -/
theorem Own.keep (st : Own fr al w0 L w) (idx : List Nat) (hn : idx.Nodup) (hr : ∀ i ∈ idx, i < L.length) : Own fr al w0 (pick L idx) w := by
  obtain ⟨hm, e, s, F⟩ := st
  have hpl : (pick L idx).length = idx.length := by simp [pick]
  have hix : ∀ {k}, k < idx.length → idx.getD k 0 < L.length := fun {k} h => by
    rw [List.getD_eq_getElem?_getD, List.getElem?_eq_getElem h]; exact hr _ (List.getElem_mem h)
  have hxn : ∀ {k k'}, k < idx.length → k' < idx.length → k ≠ k' → idx.getD k 0 ≠ idx.getD k' 0 := fun {k k'} h h' hne he => by
    rw [List.getD_eq_getElem?_getD, List.getElem?_eq_getElem h, List.getD_eq_getElem?_getD, List.getElem?_eq_getElem h'] at he
    exact hne ((List.getElem_inj (h₀ := h) (h₁ := h') hn).1 (by simpa using he))
  refine ⟨hm, fun k => e (idx.getD k 0), fun k => s (idx.getD k 0), ?_, ?_, ?_, ?_, ?_, ?_⟩
  · intro k I hk
    obtain ⟨i, h1, h2, h3⟩ := pick_get L idx k hr I hk
    rw [List.getD_eq_getElem?_getD, h1]
    exact F.holds i I h3
  · intro k b hk hb; rw [hpl] at hk; exact F.lo _ b (hix hk) hb
  · intro k b hk hb hb0; rw [hpl] at hk; exact F.fr _ b (hix hk) hb hb0
  · intro k b hk hb hb0; rw [hpl] at hk; exact F.al _ b (hix hk) hb hb0
  · intro k k' b hk hk' hne hb; rw [hpl] at hk hk'; exact F.ee _ _ b (hix hk) (hix hk') (hxn hk hk' hne) hb
  · intro k k' b hk hk' hb; rw [hpl] at hk hk'; exact F.es _ _ b (hix hk) (hix hk') hb
/-- A shared byte slice of new blocks. -/
theorem Own.addBy (st : Own fr al w0 L w) {w' : World} (hx : Ext w w') {a : Option Addr} {n : Nat} {xs : List UInt8} (h : By w' a n xs) (hf : 0 < n → ∀ ad, a = some ad → w.heap.size ≤ ad.block) : Own fr al w0 (L ++ [byI a n xs]) w' := by
  refine st.new hx (e' := fun _ => False) (s' := fun b => 0 < n ∧ ∃ ad, a = some ad ∧ ad.block = b) ⟨h, fun h0 ad had => ⟨h0, ad, had, rfl⟩⟩ (fun _ q => q.elim) ?_ (fun _ q => q.elim)
  rintro b ⟨h0, ad, rfl, rfl⟩
  refine ⟨?_, hf h0 _ rfl⟩
  obtain ⟨b, off, hb, hc⟩ := h.2 h0
  cases hb
  exact World.block_lt_of_cell? w' _ (hc 0 _ (List.getElem?_eq_getElem (by have := h.1; omega)))
/-- A block of one's own is given away: it is shared from now on. -/
theorem Own.freeze (st : Own fr al w0 L w) {i b : Nat} {xs : List UInt8} (hi : L[i]? = some (blkI b (xs.map B))) : Own fr al w0 (L.set i (byI (some ⟨b, 0, none⟩) xs.length xs)) w :=
  st.conv hi fun e s ⟨h1, h2⟩ _ => ⟨fun _ => False, fun k => k = b, ⟨h2.by, fun _ ad had => by cases had; rfl⟩, fun _ q => q.elim, fun k hk => .inl (hk ▸ h1), fun _ q => q.elim⟩
theorem Own.freezeRow (st : Own fr al w0 L w) {i n c : Nat} {E : TypeId} {a : Option Addr} {xs : List UInt8} (hi : L[i]? = some (rowI E 1 (.slice a n c) n (xs.map B))) : Own fr al w0 (L.set i (byI a n xs)) w :=
  st.conv hi fun e s ⟨h1, h2⟩ h3 => ⟨fun _ => False, fun k => e k, ⟨(own_by h1).arr.2, fun h0 ad had => by
    refine h2 _ ?_
    rw [had]; rfl⟩, fun _ q => q.elim, fun k hk => .inl hk, fun _ q => q.elim⟩
end

section
variable {fr al : Nat → Prop} {w0 w : World} {L : List It} {P : Program} {o : Oper} {a : Act} {K : Act → World → Prop} {Q : Exit → Act → World → Prop}
/-- string(b) of a shared slice. -/
theorem owp_bs {src dst e : TypeId} {x : Operand} (ho : o.op = .convert src dst x) (st : Own fr al w0 L w) (i : Nat) {A : Option Addr} {n c : Nat} {xs : List UInt8} (hi : L[i]? = some (byI A n xs)) (hx : a.eval x = .slice A n c)
    (hs : P.underlying src = some (.slice e)) (he : P.underlying e = some (.int .u8)) (hd : P.underlying dst = some .string) (h : K (a.put o.dst (.string ⟨xs.toArray⟩)) w) : o.wp P a w K Q := by
  refine owp_run (v := S xs) (w' := w) ?_ h
  unfold execOp
  simp only [ho, hx, Sem.run_bind, conv_bs (P := P) (w := w) (c := c) hs he hd (st.by hi), Result.andThen, Sem.run_pure]
/-- []byte(s). -/
theorem owp_sb {src dst e : TypeId} {x : Operand} (ho : o.op = .convert src dst x) (st : Own fr al w0 L w) {xs : List UInt8} (hx : a.eval x = .string ⟨xs.toArray⟩)
    (hs : P.underlying src = some .string) (hd : P.underlying dst = some (.slice e)) (he : P.underlying e = some (.int .u8)) (hl : xs.length ≤ maxLen)
    (h : ∀ A c w', (xs.length ≤ c ∧ c ≤ maxLen) → Own fr al w0 (L ++ [byI A xs.length xs]) w' → K (a.put o.dst (.slice A xs.length c)) w') : o.wp P a w K Q := by
  have hr := run_bytes_of_string (P := P) w src dst e ⟨xs.toArray⟩ hs hd he
  obtain ⟨v, w', hr', ⟨A, n, c, rfl, h1, h2, h3⟩, hx'⟩ := conv_sb (P := P) (w := w) (src := src) (dst := dst) (e := e) xs hs hd he hl
  obtain rfl : n = xs.length := h3.1
  refine owp_run (v := .slice A xs.length c) (w' := w') ?_ (h A c w' ⟨h1, h2⟩ (st.addBy hx' h3 fun _ ad had => ?_))
  · unfold execOp
    simp only [ho, hx]
    rw [show (.string ⟨xs.toArray⟩ : Value) = S xs from rfl]
    simp only [Sem.run_bind, hr', Result.andThen, Sem.run_pure]
  · rw [show (.string ⟨xs.toArray⟩ : Value) = S xs from rfl] at hr
    rw [hr'] at hr
    injection hr with hr _
    injection hr with hr _ _
    rw [had] at hr
    injection hr with hr
    subst hr
    exact Nat.le_refl _
/-- What came in. -/
theorem Own.argBy (st : Own (fun _ => False) (fun _ => True) w L w) {A : Option Addr} {n : Nat} {xs : List UInt8} (h : By w A n xs) : Own (fun _ => False) (fun _ => True) w (L ++ [byI A n xs]) w := by
  refine st.snoc (Ext.refl w) (e' := fun _ => False) (s' := fun b => 0 < n ∧ ∃ ad, A = some ad ∧ ad.block = b) ⟨h, fun h0 ad had => ⟨h0, ad, had, rfl⟩⟩ (fun _ q => q.elim) ?_ (fun _ q => q.elim)
  rintro b ⟨h0, ad, rfl, rfl⟩
  obtain ⟨b, off, hb, hc⟩ := h.2 h0
  cases hb
  have := World.block_lt_of_cell? w _ (hc 0 _ (List.getElem?_eq_getElem (by have := h.1; omega)))
  exact ⟨this, .inr ⟨fun _ => trivial, fun f t F i hi hf => F.fr i _ hi hf this⟩⟩
/-- A constant's bytes get their mark. -/
def unB : Value → UInt8
  | .int _ n => UInt8.ofNat n.toNat
  | _ => 0
theorem run_mark {P : Program} {w : World} {t e : TypeId} {b m c : Nat} {vs : List Value} (h : Blk w b vs) (ht : P.underlying t = some (.slice e)) (he : P.underlying e = some (.int .u8)) :
    (convert t t (.slice (some ⟨b, 0, none⟩) m c)).run P w = .ok (.slice (some ⟨b, 0, none⟩) m c) (w.freeze ⟨b, vs.length, none⟩ 1) := by
  obtain ⟨ty, hb⟩ := h
  have hsh : w.shape? b = some (ty, vs.length) := by unfold World.shape?; rw [hb]; simp
  simp [convert, run_underlying ht, run_underlying he, markStringish, shape, Sem.run_bind, hsh, freeze, Sem.run]
theorem owp_mark {t e : TypeId} {x : Operand} (ho : o.op = .convert t t x) (st : Own fr al w0 L w) (i : Nat) {b m c : Nat} {vs : List Value} (hi : L[i]? = some (blkI b vs)) (hx : a.eval x = .slice (some ⟨b, 0, none⟩) m c)
    (ht : P.underlying t = some (.slice e)) (he : P.underlying e = some (.int .u8)) (hm : m = vs.length) (hv : vs = (vs.map unB).map B)
    (h : ∀ w', Own fr al w0 (L.set i (byI (some ⟨b, 0, none⟩) m (vs.map unB))) w' → K (a.put o.dst (.slice (some ⟨b, 0, none⟩) m c)) w') : o.wp P a w K Q := by
  have hmu : MutO (fun k => k = b) w (w.freeze ⟨b, vs.length, none⟩ 1) := ⟨rfl, rfl, rfl, by simp [World.freeze], Nat.le_refl _, fun k _ hn => by simp [World.freeze, Array.getElem?_modify, Ne.symm hn]⟩
  have hr := run_mark (m := m) (c := c) (st.blk hi) ht he
  refine owp_run (v := .slice (some ⟨b, 0, none⟩) m c) (w' := w.freeze ⟨b, vs.length, none⟩ 1) ?_ (h _ ?_)
  · unfold execOp
    simp only [ho, hx, Sem.run_bind, hr, Result.andThen, Sem.run_pure]
  · refine st.upd hi fun e s ⟨h1, h2⟩ h3 h4 => ⟨fun _ => False, fun k => k = b, ⟨?_, fun _ ad had => by cases had; rfl⟩, fun _ q => q.elim, fun k hk => ?_, fun _ q => q.elim, hmu.mono fun k hk => by subst hk; exact h1⟩
    · obtain ⟨ty, h2⟩ := h2
      have hbb : ∃ mk, (w.freeze ⟨b, vs.length, none⟩ 1).heap[b]? = some (.cells vs.toArray ty mk) := by simp [World.freeze, Array.getElem?_modify, h2]
      obtain ⟨mk, hbb⟩ := hbb
      refine ⟨by simp [hm], fun _ => ⟨b, 0, rfl, fun j x hj => ?_⟩⟩
      unfold byteR
      have : (vs[0 + j * 1]?) = some (B x) := by
        rw [hv, Nat.zero_add, Nat.mul_one, List.getElem?_map, hj]; rfl
      simp [World.cell?, hbb, ← this]
    · subst hk
      exact ⟨Nat.lt_of_lt_of_le (h3 k (.inl h1)) hmu.size, .inl h1⟩
/-- The memory at the start. -/
theorem Own.startOld (w : World) : Own (fun _ => False) (fun _ => True) w [oldI w] w := by
  have := (Own.start (fun _ => False) (fun _ => True) w).snoc (I := oldI w) (Ext.refl w) (e' := fun _ => False) (s' := fun b => b < w.heap.size) ⟨fun _ h => h, Nat.le_refl _, fun _ _ => rfl⟩ (fun _ q => q.elim)
    (fun b hb => ⟨hb, .inr ⟨fun _ => trivial, fun _ _ _ i hi => by simp at hi⟩⟩) (fun _ q => q.elim)
  simpa using this
/-- A datum of the old memory, as an item. -/
theorem Own.addOldBy (st : Own fr al w0 L w) {i : Nat} {W0 : World} (hi : L[i]? = some (oldI W0)) {A : Option Addr} {n : Nat} {xs : List UInt8} (h : By W0 A n xs) : Own fr al w0 (L ++ [byI A n xs]) w :=
  st.share hi fun e s h1 => ⟨st.oldBy hi h, fun h0 ad had => by
    obtain ⟨b, off, hb, hc⟩ := h.2 h0
    rw [had] at hb
    cases hb
    exact h1.1 _ (World.block_lt_of_cell? W0 _ (hc 0 _ (List.getElem?_eq_getElem (by have := h.1; omega))))⟩
end
end Go.Proofs.Ytcminppmmhinjaa
