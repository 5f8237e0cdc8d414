/- Slices that a call made itself: append, store. -/
import Derived.Test.YtcminppmmhinjaaBase
import Derived.Laws.AppendOwnNone
namespace Go.Proofs.Ytcminppmmhinjaa
set_option linter.unusedSimpArgs false
set_option linter.unusedVariables false
open Go Go.RowKit

/-- The m elements (of 'size' cells each) at 'a' are the cells 'news'. -/
def Flat (w : World) (a : Option Addr) (m size : Nat) (news : List Value) : Prop := news.length = m * size ∧ (0 < news.length → ∃ ad, a = some ad ∧ ∀ j u, news[j]? = some u → w.cell? (ad.add j) = some u)
theorem addr_add (b off j : Nat) : (⟨b, off, none⟩ : Addr).add j = ⟨b, off + j, none⟩ := by unfold Addr.add; split <;> simp_all
theorem By.flat {w : World} {a : Option Addr} {n : Nat} {xs : List UInt8} (h : By w a n xs) : Flat w a n 1 (xs.map B) := by
  refine ⟨by simp [h.1], fun h0 => ?_⟩
  obtain ⟨b, off, rfl, hc⟩ := h.2 (by have := h.1; simp at h0; omega)
  refine ⟨_, rfl, fun j u hj => ?_⟩
  rw [List.getElem?_map] at hj
  cases hx : xs[j]? with
  | none => rw [hx] at hj; cases hj
  | some x =>
    rw [hx] at hj
    simp at hj
    have := hc j x hx
    rw [Nat.mul_one] at this
    rw [addr_add, ← hj]
    exact this
theorem flat_one (w : World) (x : Value) (ty : TypeId) : Flat (w.alloc (.cells #[x] ty)) (some ⟨w.heap.size, 0, none⟩) 1 1 [x] :=
  ⟨rfl, fun _ => ⟨_, rfl, fun j u hj => by
    have hj0 : j = 0 := by have := (List.getElem?_eq_some_iff.1 hj).1; simp at this; omega
    subst hj0
    simp at hj
    subst hj
    have := World.cell?_alloc_mark w #[x] ty (0, 0) 0
    exact this.trans (by simp)⟩⟩
theorem one_mem {x : Value} (h : x.oneCell' = true) : ∀ u ∈ [x], u.oneCell' = true := fun u hu => by simp at hu; subst hu; exact h
theorem grown_at {w w1 : World} {row : Option Nat} {p : Addr} {v : Value} (hg : GrownBy w w1 row) (hc : w.cell? p = some v) (hf : w.frozen? p = false) (hne : some p.block ≠ row) : w1.cell? p = some v ∧ w1.frozen? p = false :=
  ⟨hg.g.cell hc hne, (World.frozen?_of_block (hg.block _ (World.block_lt_of_cell? w p hc) hne)).trans hf⟩
theorem alloc_at {w : World} {p : Addr} {v : Value} (o : Obj) (hc : w.cell? p = some v) (hf : w.frozen? p = false) : (w.alloc o).cell? p = some v ∧ (w.alloc o).frozen? p = false :=
  ⟨(Ext.new w o).cell hc, ((Ext.new w o).frozen (World.block_lt_of_cell? w p hc)).trans hf⟩
theorem run_append_any {P : Program} {w : World} (base : Nat) (t ty e : TypeId) (i : TypeInfo) (z : Value) (size bytes : Nat) (ht : P.underlying t = some (.slice e)) (hi : P.info? e = some i) (hz : i.zero = some z)
    (hsize : i.size = size) (hby : i.bytes = bytes) (hzs : z.cells.size = size) (hsz : 0 < size)
    (v : Value) (n : Nat) (xs : List Value) (hown : w.ownsRow base e size v n xs)
    (a : Option Addr) (m c : Nat) (news : List Value) (hf : Flat w a m size news) (h1 : ∀ u ∈ news, u.oneCell' = true)
    (h63 : n + m ≤ maxLen) (hbytes : (n + m) * bytes ≤ 140737488355328) (hbase : base ≤ w.heap.size) :
    ∃ v' w', (Builtin.append_ #[t, t] ty #[v, .slice a m c]).run P w = .ok v' w' ∧ w'.ownsRow base e size v' (n + m) (xs ++ news) ∧ GrownBy w w' v.ownBlock := by
  by_cases h0 : 0 < m
  · obtain ⟨ad, rfl, hc⟩ := hf.2 (by rw [hf.1]; exact Nat.mul_pos h0 hsz)
    obtain ⟨v', w', hr, h2, h3, _⟩ := run_append_own (P := P) w base t ty e i z size bytes ht hi hz hsize hby hzs hsz v n xs hown ad m c news hf.1 hc h1 h63 hbytes hbase
    exact ⟨v', w', hr, h2, h3, sem_drawn _ _ _ _ hr⟩
  · obtain rfl : m = 0 := by omega
    have hn : news = [] := List.eq_nil_of_length_eq_zero (by rw [hf.1]; simp)
    subst hn
    cases a with
    | some ad =>
      obtain ⟨v', w', hr, h2, h3, _⟩ := run_append_own (P := P) w base t ty e i z size bytes ht hi hz hsize hby hzs hsz v n xs hown ad 0 c [] hf.1 (fun j u hj => by simp at hj) h1 h63 hbytes hbase
      exact ⟨v', w', hr, h2, h3, sem_drawn _ _ _ _ hr⟩
    | none =>
      refine ⟨v, w, ?_, by simpa using hown, ⟨rfl, rfl, rfl, Nat.le_refl _, fun _ _ _ => rfl⟩, Nat.le_refl _⟩
      rcases hown.2 with ⟨rfl, rfl⟩ | ⟨g, cap, cur, rfl, _, _, hnc, _⟩
      · simp [Builtin.append_, run_underlying ht, sizeOf, typeInfo, hi, Builtin.lenOf, Builtin.firstCells]
      · simp [Builtin.append_, run_underlying ht, sizeOf, typeInfo, hi, Builtin.lenOf, Builtin.firstCells, hnc, storeCells]
/-- Where the result of an append lies: where the slice lay, or in a new block. -/
theorem append_block {P : Program} {w w' : World} (base : Nat) (t ty e : TypeId) (i : TypeInfo) (z : Value) (size bytes : Nat) (ht : P.underlying t = some (.slice e)) (hi : P.info? e = some i) (hz : i.zero = some z)
    (hsize : i.size = size) (hby : i.bytes = bytes) (hsz : 0 < size)
    (v v' : Value) (n : Nat) (xs : List Value) (hown : w.ownsRow base e size v n xs)
    (a : Option Addr) (m c : Nat) (news : List Value) (hf : Flat w a m size news) (h1 : ∀ u ∈ news, u.oneCell' = true)
    (h63 : n + m ≤ maxLen) (hbytes : (n + m) * bytes ≤ 140737488355328)
    (hr : (Builtin.append_ #[t, t] ty #[v, .slice a m c]).run P w = .ok v' w') : v'.ownBlock = v.ownBlock ∨ v'.ownBlock = some w.heap.size := by
  subst hsize hby
  have hsmall : n + m ≤ 9223372036854775807 := by simp only [maxLen] at h63; omega
  have hout : ∀ {u : Value} {w1 : World}, (Builtin.append_ #[t, t] ty #[v, .slice a m c]).run P w = .ok u w1 → v' = u := fun h => by rw [h] at hr; injection hr with h2 _; exact h2.symm
  by_cases h0 : 0 < m
  · obtain ⟨ad, rfl, hc⟩ := hf.2 (by rw [hf.1]; exact Nat.mul_pos h0 hsz)
    rcases hown.2 with ⟨rfl, rfl⟩ | ⟨g, cap, cur, rfl, _, hg, hnc, _, hcs, htake⟩
    · have := run_append_nil (P := P) w t ty e i z ht hi hz ad m c news hf.1 hc h0 (by omega) (by have hb := hbytes; simp only [Nat.zero_add] at hb; omega)
      rw [hout this]; right; rfl
    · by_cases hroom : n + m ≤ cap
      · have hfit : n * i.size + news.length ≤ cur.size := by rw [hf.1, hcs, ← Nat.add_mul]; exact Nat.mul_le_mul_right _ hroom
        have := run_append_room (P := P) w t ty e i ht hi g n cap cur hg ad m c news hf.1 hc h1 hroom hfit
        rw [hout this]; left; rfl
      · have := run_append_grow (P := P) w t ty e i z ht hi hz ⟨g, 0, none⟩ n cap xs hown.1 (hown.cells (g := g) rfl) ad m c news hf.1 hc (by omega) (by omega) (growslice_fits (by omega) hbytes)
        rw [hout this]; right; rfl
  · obtain rfl : m = 0 := by omega
    have hn : news = [] := List.eq_nil_of_length_eq_zero (by rw [hf.1]; simp)
    subst hn
    rcases hown.2 with ⟨rfl, rfl⟩ | ⟨g, cap, cur, rfl, _, hg, hnc, _, hcs, htake⟩
    · cases a with
      | none =>
        have : (Builtin.append_ #[t, t] ty #[.slice none 0 0, .slice none 0 c]).run P w = .ok (.slice none 0 0) w := by
          simp [Builtin.append_, run_underlying ht, sizeOf, typeInfo, hi, Builtin.lenOf, Builtin.firstCells]
        rw [hout this]; left; rfl
      | some ad =>
        have : (Builtin.append_ #[t, t] ty #[.slice none 0 0, .slice (some ad) 0 c]).run P w = .ok (.slice none 0 0) w := by
          simp [Builtin.append_, run_underlying ht, sizeOf, typeInfo, hi, Builtin.lenOf, Builtin.firstCells, loadCells, loadCellsFrom]
        rw [hout this]; left; rfl
    · cases a with
      | none =>
        have : (Builtin.append_ #[t, t] ty #[.slice (some ⟨g, 0, none⟩) n cap, .slice none 0 c]).run P w = .ok (.slice (some ⟨g, 0, none⟩) n cap) w := by
          simp [Builtin.append_, run_underlying ht, sizeOf, typeInfo, hi, Builtin.lenOf, Builtin.firstCells, hnc, storeCells]
        rw [hout this]; left; rfl
      | some ad =>
        have := run_append_room (P := P) w t ty e i ht hi g n cap cur hg ad 0 c [] (by simp) (fun j u hj => by simp at hj) (fun u hu => by simp at hu) hnc (by simp; rw [hcs]; exact Nat.mul_le_mul_right _ hnc)
        rw [hout this]; left; rfl
theorem wpList_append_fp {P : Program} {w : World} {ops : Array Oper} {rest : List Oper} {o : Oper} {A : Act} {Q : Exit → Act → World → Prop} (hw : Region.wanted o (yielded ops A.tmps) = true) (s x : Operand) (t : TypeId)
    (ho : o.op = .call { callee := .builtin .append, args := #[s, x], argTypes := #[t, t] })
    (base : Nat) (e : TypeId) (i : TypeInfo) (z : Value) (size bytes : Nat) (ht : P.underlying t = some (.slice e)) (hi : P.info? e = some i) (hz : i.zero = some z)
    (hsize : i.size = size) (hby : i.bytes = bytes) (hzs : z.cells.size = size) (hsz : 0 < size)
    (v : Value) (n : Nat) (xs : List Value) (hs : A.eval s = v) (hown : w.ownsRow base e size v n xs)
    (a : Option Addr) (m c : Nat) (news : List Value) (hx : A.eval x = .slice a m c) (hf : Flat w a m size news) (h1 : ∀ u ∈ news, u.oneCell' = true)
    (h63 : n + m ≤ maxLen) (hbytes : (n + m) * bytes ≤ 140737488355328) (hbase : base ≤ w.heap.size)
    (h : ∀ v' w', w'.ownsRow base e size v' (n + m) (xs ++ news) → GrownBy w w' v.ownBlock → (v'.ownBlock = v.ownBlock ∨ v'.ownBlock = some w.heap.size) → wpList P ops Q rest (A.put o.dst v') w') : wpList P ops Q (o :: rest) A w := by
  obtain ⟨v', w', hr, h2, h3⟩ := run_append_any (P := P) base t o.type e i z size bytes ht hi hz hsize hby hzs hsz v n xs hown a m c news hf h1 h63 hbytes hbase
  have h4 := append_block (P := P) base t o.type e i z size bytes ht hi hz hsize hby hsz v v' n xs hown a m c news hf h1 h63 hbytes hr
  refine wpList_run hw ?_ (h v' w' h2 h3 h4)
  simp [execOp, ho, resolve, invoke, builtin, hs, hx, hr, Result.andThen]
theorem wpList_append_any {P : Program} {w : World} {ops : Array Oper} {rest : List Oper} {o : Oper} {A : Act} {Q : Exit → Act → World → Prop} (hw : Region.wanted o (yielded ops A.tmps) = true) (s x : Operand) (t : TypeId)
    (ho : o.op = .call { callee := .builtin .append, args := #[s, x], argTypes := #[t, t] })
    (base : Nat) (e : TypeId) (i : TypeInfo) (z : Value) (size bytes : Nat) (ht : P.underlying t = some (.slice e)) (hi : P.info? e = some i) (hz : i.zero = some z)
    (hsize : i.size = size) (hby : i.bytes = bytes) (hzs : z.cells.size = size) (hsz : 0 < size)
    (v : Value) (n : Nat) (xs : List Value) (hs : A.eval s = v) (hown : w.ownsRow base e size v n xs)
    (a : Option Addr) (m c : Nat) (news : List Value) (hx : A.eval x = .slice a m c) (hf : Flat w a m size news) (h1 : ∀ u ∈ news, u.oneCell' = true)
    (h63 : n + m ≤ maxLen) (hbytes : (n + m) * bytes ≤ 140737488355328) (hbase : base ≤ w.heap.size)
    (h : ∀ v' w', w'.ownsRow base e size v' (n + m) (xs ++ news) → GrownBy w w' v.ownBlock → wpList P ops Q rest (A.put o.dst v') w') : wpList P ops Q (o :: rest) A w := by
  obtain ⟨v', w', hr, h2, h3⟩ := run_append_any (P := P) base t o.type e i z size bytes ht hi hz hsize hby hzs hsz v n xs hown a m c news hf h1 h63 hbytes hbase
  refine wpList_run hw ?_ (h v' w' h2 h3)
  simp [execOp, ho, resolve, invoke, builtin, hs, hx, hr, Result.andThen]
theorem own_ext {w w' : World} {base size n : Nat} {e : TypeId} {v : Value} {xs : List Value} (h : w.ownsRow base e size v n xs) (hx : Ext w w') : w'.ownsRow base e size v n xs := by
  refine ⟨h.1, h.2.imp id ?_⟩
  rintro ⟨g, cap, cur, hv, hb, hg, r⟩
  exact ⟨g, cap, cur, hv, hb, hx.block hg, r⟩
theorem own_by {w : World} {base n : Nat} {e : TypeId} {v : Value} {xs : List UInt8} (h : w.ownsRow base e 1 v n (xs.map B)) : IsBy w v xs := by
  obtain ⟨h1, h2⟩ := h
  have hn : n = xs.length := by simpa using h1.symm
  subst hn
  rcases h2 with ⟨rfl, h0⟩ | ⟨g, cap, cur, rfl, hb, hg, hc, hm, hs, ht⟩
  · have : xs = [] := List.eq_nil_of_length_eq_zero h0
    subst this; exact IsBy.nil w
  · refine ⟨_, _, _, rfl, hc, hm, rfl, fun _ => ⟨g, 0, rfl, fun i x hi => ?_⟩⟩
    unfold byteR
    rw [cell_of_row w g _ cur e (0, 0) hg]
    have h3 : (xs.map B)[i]? = some (B x) := by simp [hi]
    rw [← ht, List.getElem?_take] at h3
    split at h3
    · simpa using h3
    · cases h3
/-- What a slice of the call's own looks like when it has an element. -/
theorem own_form {w : World} {base n : Nat} {e : TypeId} {v : Value} {xs : List Value} (h : w.ownsRow base e 1 v n xs) (h0 : 0 < n) :
    ∃ g cap, v = .slice (some ⟨g, 0, none⟩) n cap ∧ base ≤ g ∧ (n ≤ cap ∧ cap ≤ maxLen) ∧ n = xs.length ∧ (∀ j, j < n → w.cell? ⟨g, j, none⟩ = xs[j]?) ∧ (∀ j, w.frozen? ⟨g, j, none⟩ = false) ∧ ∀ j u, j < n → (w.setCell ⟨g, j, none⟩ u).ownsRow base e 1 v n (xs.set j u) := by
  have hh := h
  obtain ⟨h1, h2⟩ := h
  rcases h2 with ⟨rfl, h⟩ | ⟨g, cap, cur, rfl, hb, hg, hc, hm, hs, ht⟩
  · omega
  · refine ⟨g, cap, rfl, hb, ⟨hc, hm⟩, by omega, fun j hj => hh.cellAt j (by omega), fun j => hh.frozenAt j, fun j u hj => ?_⟩
    refine ⟨by simpa using h1, .inr ⟨g, cap, cur.setIfInBounds j u, rfl, hb, ?_, hc, hm, by simpa using hs, ?_⟩⟩
    · simp only [World.setCell, Array.getElem?_modify, hg]
      simp
    · rw [← ht]
      rw [Array.toList_setIfInBounds, List.take_set]
theorem own_slice {w : World} {base n size : Nat} {e : TypeId} {v : Value} {xs : List Value} (h : w.ownsRow base e size v n xs) : ∃ a c, v = .slice a n c := by
  rcases h.2 with ⟨rfl, rfl⟩ | ⟨g, cap, cur, rfl, _⟩
  · exact ⟨_, _, rfl⟩
  · exact ⟨_, _, rfl⟩
theorem own_empty (w : World) (base : Nat) (e : TypeId) (b : Nat) (hb : b = w.heap.size) (hbase : base ≤ w.heap.size) : (w.alloc (.cells #[] e)).ownsRow base e 1 (.slice (some ⟨b, 0, none⟩) 0 0) 0 [] :=
  hb ▸ World.ownsRow_made w #[] 0 hbase (by simp [maxLen]) (by simp)
theorem B_one (xs : List UInt8) : ∀ u ∈ xs.map B, u.oneCell' = true := by
  intro u hu
  obtain ⟨x, _, rfl⟩ := List.mem_map.1 hu
  rfl
end Go.Proofs.Ytcminppmmhinjaa
