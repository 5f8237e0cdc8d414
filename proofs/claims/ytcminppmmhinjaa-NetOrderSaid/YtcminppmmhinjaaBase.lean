/- Plain predicates on memory: slices that read as lists, worlds that extend one another. No program in sight. -/
import Derived.WalkKit
import Derived.WalkSpells
import Derived.WalkLawsBesides
import Derived.Lib.Hide
import Derived.Deep.Draws
import Derived.Lib.SmallJoins
namespace Go.Proofs.Ytcminppmmhinjaa
set_option linter.unusedSimpArgs false
set_option linter.unusedVariables false
open Go Go.RowKit

/-- What a computation draws is counted upwards. -/
theorem viewStore_drawn {P : Program} {w w' : World} {at_ : Addr} {u : TypeId} {a : Addr} {v : Value} {b : Bool} {l : List Addr} (h : w.viewStore P at_ u a v b = .ok (w', l)) : w'.drawn = w.drawn := by
  unfold World.viewStore at h
  repeat' (first | (split at h) | (simp only [bind, Except.bind, pure, Except.pure, MonadExcept.throw, throwThe, MonadExceptOf.throw] at h))
  all_goals first | (cases h; done) | (injection h with h; injection h with h1 h2; subst h1; rfl) | skip
theorem farStore_drawn {P : Program} {w w' : World} {a : Addr} {v : Value} {b : Bool} {l : List Addr} (h : w.farStore P a v b = .ok (w', l)) : w'.drawn = w.drawn := by
  unfold World.farStore at h
  split at h
  · split at h
    · injection h with h; subst h
      exact viewStore_drawn (by assumption)
    · cases h
  · cases h
theorem ask_drawn {α : Type} : ∀ (k : Ask α) (w : World), w.drawn ≤ (w.ask k).2.drawn := by
  intro k
  induction k with
  | done a => intro w; unfold World.ask; exact Nat.le_refl _
  | ask what range k ih =>
    intro w; unfold World.ask
    simp only
    split
    · exact ih _ _
    · exact Nat.le_trans (Nat.le_succ _) (ih _ { w with drawn := w.drawn + 1 })
theorem sem_drawn {P : Program} {α : Type} : ∀ (s : Sem α) (w w' : World) (v : α), s.run P w = .ok v w' → w.drawn ≤ w'.drawn := by
  intro s
  induction s with
  | pure a => intro w w' v h; unfold Sem.run at h; injection h with _ h; subst h; exact Nat.le_refl _
  | load m a k ih =>
    intro w w' v h; unfold Sem.run at h
    split at h
    · exact ih _ _ _ _ h
    · split at h
      · exact ih _ _ _ _ h
      · cases h
  | store m a v k ih =>
    intro w w' u h
    have hs : ∀ (h : (match w.cell? a with
      | some _ => if w.frozen? a then Result.halt (.unsupported (.unsafePointer "a write to bytes that a string shares")) w else k.run P (w.setCell a v)
      | none => match w.farStore P a v (m == .atomic) with
        | .ok (w, _) => k.run P w
        | .error h => .halt h w) = Result.ok u w'), w.drawn ≤ w'.drawn := by
      intro h
      split at h
      · split at h
        · cases h
        · have := ih _ _ _ h; exact this
      · split at h
        · have := ih _ _ _ h; rename_i hf; rw [farStore_drawn hf] at this; exact this
        · cases h
    cases v <;> first | exact hs h | (simp only [Sem.run] at h; cases h; done)
  | new o k ih => intro w w' v h; unfold Sem.run at h; have := ih _ _ _ _ h; exact this
  | shape r k ih => intro w w' v h; unfold Sem.run at h; exact ih _ _ _ _ h
  | freeze a n k ih =>
    intro w w' v h; unfold Sem.run at h; have := ih _ _ _ h
    have e : (w.freeze a n).drawn = w.drawn := by first | rfl | (unfold World.freeze; rfl) | (unfold World.freeze; split <;> rfl)
    rw [e] at this; exact this
  | frozen a k ih => intro w w' v h; unfold Sem.run at h; exact ih _ _ _ _ h
  | getObj r k ih =>
    intro w w' v h; unfold Sem.run at h
    split at h
    · cases h
    · exact ih _ _ _ _ h
    · cases h
  | setObj r o k ih =>
    intro w w' v h; unfold Sem.run at h
    split at h
    · cases h
    · have := ih _ _ _ h; exact this
    · cases h
  | choose q k ih =>
    intro w w' v h; unfold Sem.run at h
    split at h
    · exact ih _ _ _ _ h
    · have := ih _ _ _ _ h; exact Nat.le_trans (Nat.le_succ _) this
  | sys c k ih =>
    intro w w' v h; unfold Sem.run at h
    have := ih _ _ _ _ h
    refine Nat.le_trans ?_ this
    unfold World.sys
    split
    · exact Nat.le_refl _
    · rename_i hq
      have := ask_drawn (Kernel.perform c w.os) w
      rw [hq] at this
      exact this
  | program k ih => intro w w' v h; unfold Sem.run at h; exact ih _ _ _ _ h
  | mark m k ih => intro w w' v h; unfold Sem.run at h; exact ih _ _ _ h
  | halt h => intro w w' v h; unfold Sem.run at h; cases h
/-- Old memory reads as it did. -/
structure Ext (w w' : World) : Prop where
  bel : Below w.heap.size w w'
  drawn : w.drawn ≤ w'.drawn
theorem Ext.os {w w' : World} (h : Ext w w') : w'.os = w.os := h.bel.os
theorem Ext.tape {w w' : World} (h : Ext w w') : w'.tape = w.tape := h.bel.tape
theorem Ext.output {w w' : World} (h : Ext w w') : w'.output = w.output := h.bel.output
theorem Ext.size {w w' : World} (h : Ext w w') : w.heap.size ≤ w'.heap.size := h.bel.size
theorem Ext.refl (w : World) : Ext w w := ⟨Below.refl _ _, Nat.le_refl _⟩
theorem Ext.trans {a b c : World} (h : Ext a b) (k : Ext b c) : Ext a c := ⟨Below.trans h.bel (Below.mono k.bel h.bel.size), Nat.le_trans h.drawn k.drawn⟩
theorem Ext.drew {a w : World} (h : Ext a w) : Ext a w.drew := ⟨Below.drew h.bel, Nat.le_trans h.drawn (Nat.le_succ _)⟩
theorem Ext.alloc {a w : World} (h : Ext a w) (o : Obj) : Ext a (w.alloc o) := ⟨Below.alloc h.bel h.bel.size o, h.drawn⟩
theorem Ext.setCell {a w : World} (h : Ext a w) {p : Addr} (hp : a.heap.size ≤ p.block) (u : Value) : Ext a (w.setCell p u) := ⟨Below.setCell h.bel hp u, h.drawn⟩
theorem Ext.le {a w : World} (h : Ext a w) : a.heap.size ≤ w.heap.size := h.size
theorem Ext.cell {w w' : World} (h : Ext w w') {p : Addr} {v : Value} (hc : w.cell? p = some v) : w'.cell? p = some v :=
  (Below.cell h.bel (World.block_lt_of_cell? w p hc)).trans hc
theorem Ext.frozen {w w' : World} (h : Ext w w') {p : Addr} (hp : p.block < w.heap.size) : w'.frozen? p = w.frozen? p := Below.frozen h.bel hp
theorem Ext.block {w w' : World} (h : Ext w w') {k : Nat} {o : Obj} (hk : w.heap[k]? = some o) : w'.heap[k]? = some o :=
  (Below.block h.bel k (Array.getElem?_eq_some_iff.1 hk).1).trans hk
/-- A row grew, and what was drawn is counted upwards. -/
structure GrownBy (w w' : World) (row : Option Nat) : Prop where
  g : w.grownBy w' row
  drawn : w.drawn ≤ w'.drawn
theorem GrownBy.os {w w' : World} {row : Option Nat} (h : GrownBy w w' row) : w'.os = w.os := h.g.os
theorem GrownBy.tape {w w' : World} {row : Option Nat} (h : GrownBy w w' row) : w'.tape = w.tape := h.g.tape
theorem GrownBy.output {w w' : World} {row : Option Nat} (h : GrownBy w w' row) : w'.output = w.output := h.g.output
theorem GrownBy.size {w w' : World} {row : Option Nat} (h : GrownBy w w' row) : w.heap.size ≤ w'.heap.size := h.g.size
theorem GrownBy.block {w w' : World} {row : Option Nat} (h : GrownBy w w' row) (k : Nat) (hk : k < w.heap.size) (hne : some k ≠ row) : w'.heap[k]? = w.heap[k]? := h.g.block k hk hne
theorem Ext.grown {a w w' : World} {row : Option Nat} (h : Ext a w) (hg : GrownBy w w' row) (hr : ∀ k, row = some k → a.heap.size ≤ k) : Ext a w' := ⟨Below.grown h.bel hg.g h.size hr, Nat.le_trans h.drawn hg.drawn⟩

/-- The slice (a, n) reads as the list xs: element i lies at its own s cells. -/
def Arr {α : Type} (s : Nat) (R : World → Nat → Nat → α → Prop) (w : World) (a : Option Addr) (n : Nat) (xs : List α) : Prop :=
  n = xs.length ∧ (0 < n → ∃ b off, a = some ⟨b, off, none⟩ ∧ ∀ i x, xs[i]? = some x → R w b (off + i * s) x)
/-- A slice value that reads as the list xs. -/
def IsSl {α : Type} (s : Nat) (R : World → Nat → Nat → α → Prop) (w : World) (v : Value) (xs : List α) : Prop :=
  ∃ a n c, v = .slice a n c ∧ n ≤ c ∧ c ≤ maxLen ∧ Arr s R w a n xs
class Stb {α : Type} (R : World → Nat → Nat → α → Prop) : Prop where
  st : ∀ w w' b o x, Ext w w' → R w b o x → R w' b o x
theorem Arr.ext {α : Type} {s : Nat} {R : World → Nat → Nat → α → Prop} [hR : Stb R] {w w' : World} {a : Option Addr} {n : Nat} {xs : List α} (h : Arr s R w a n xs) (hx : Ext w w') : Arr s R w' a n xs :=
  ⟨h.1, fun h0 => let ⟨b, off, ha, hc⟩ := h.2 h0; ⟨b, off, ha, fun i x hi => hR.st _ _ _ _ _ hx (hc i x hi)⟩⟩
theorem IsSl.ext {α : Type} {s : Nat} {R : World → Nat → Nat → α → Prop} [hR : Stb R] {w w' : World} {v : Value} {xs : List α} (h : IsSl s R w v xs) (hx : Ext w w') : IsSl s R w' v xs :=
  let ⟨a, n, c, e, h1, h2, h3⟩ := h; ⟨a, n, c, e, h1, h2, h3.ext hx⟩

theorem IsSl.arr {α : Type} {s : Nat} {R : World → Nat → Nat → α → Prop} {w : World} {a : Option Addr} {n c : Nat} {xs : List α} (h : IsSl s R w (.slice a n c) xs) : (n ≤ c ∧ c ≤ maxLen) ∧ Arr s R w a n xs := by
  obtain ⟨a', n', c', e, h1, h2, h3⟩ := h
  injection e with e1 e2 e3
  subst e1 e2 e3
  exact ⟨⟨h1, h2⟩, h3⟩
/-- A byte as a value. -/
def B (c : UInt8) : Value := .int .u8 (c.toNat : Int)
/-- A string as a value. -/
def S (l : List UInt8) : Value := .string ⟨l.toArray⟩
def byteR : World → Nat → Nat → UInt8 → Prop := fun w b o x => w.cell? ⟨b, o, none⟩ = some (B x)
instance byteR_stb : Stb byteR := ⟨fun _ _ _ _ _ hx h => hx.cell h⟩
/-- The byte slice (a, n) reads as xs. -/
abbrev By (w : World) (a : Option Addr) (n : Nat) (xs : List UInt8) : Prop := Arr 1 byteR w a n xs
abbrev IsBy (w : World) (v : Value) (xs : List UInt8) : Prop := IsSl 1 byteR w v xs
theorem By.nil (w : World) (a : Option Addr) : By w a 0 [] := ⟨rfl, fun h => by omega⟩
theorem IsBy.nil (w : World) : IsBy w (.slice none 0 0) [] := ⟨none, 0, 0, rfl, Nat.le_refl _, by simp [maxLen], By.nil _ _⟩
theorem By.at {w : World} {a : Option Addr} {n : Nat} {xs : List UInt8} (h : By w a n xs) {k : Nat} (hk : k < n) :
    ∃ b off, a = some ⟨b, off, none⟩ ∧ (∀ i x, xs[i]? = some x → w.cell? ⟨b, off + i, none⟩ = some (.int .u8 (x.toNat : Int))) ∧ ∃ h' : k < xs.length, w.cell? ⟨b, off + k, none⟩ = some (.int .u8 (xs[k].toNat : Int)) := by
  obtain ⟨b, off, ha, hc⟩ := h.2 (by omega)
  have hk' : k < xs.length := h.1 ▸ hk
  refine ⟨b, off, ha, fun i x hi => ?_, hk', ?_⟩
  · have := hc i x hi; rw [Nat.mul_one] at this; exact this
  · have := hc k xs[k] (List.getElem?_eq_getElem hk'); rw [Nat.mul_one] at this; exact this
/-- A slice of byte slices. -/
def sliceR : World → Nat → Nat → List UInt8 → Prop := fun w b o x => ∃ v, w.cell? ⟨b, o, none⟩ = some v ∧ IsBy w v x
instance sliceR_stb : Stb sliceR := ⟨fun _ _ _ _ _ hx ⟨v, h1, h2⟩ => ⟨v, hx.cell h1, IsSl.ext h2 hx⟩⟩

/-- string(b) -/
theorem conv_bs {P : Program} {w : World} {src dst e : TypeId} {a : Option Addr} {n c : Nat} {xs : List UInt8} (hs : P.underlying src = some (.slice e)) (he : P.underlying e = some (.int .u8)) (hd : P.underlying dst = some .string)
    (h : By w a n xs) : (convert src dst (.slice a n c)).run P w = .ok (S xs) w := by
  obtain ⟨h1, h2⟩ := h
  subst h1
  by_cases h0 : 0 < xs.length
  · obtain ⟨b, off, rfl, hc⟩ := h2 h0
    refine run_convert_bytes_back w src dst e ⟨b, off, none⟩ c xs hs he hd fun j hj => ?_
    have := hc j xs[j] (List.getElem?_eq_getElem hj)
    rw [Nat.mul_one] at this
    unfold byteR at this
    unfold Addr.add
    split
    · subst_vars; simpa [B] using this
    · simpa [B] using this
  · have : xs = [] := List.eq_nil_of_length_eq_zero (by omega)
    subst this
    cases a with
    | none => simp [run_convert_bytes_string w src dst e none 0 c hs he hd, Conv.bytesToString, Sem.run_pure, S]; rfl
    | some a => exact run_convert_bytes_back w src dst e a c [] hs he hd fun j hj => by simp at hj
theorem ba_append (a b : List UInt8) : ((⟨a.toArray⟩ : ByteArray) ++ ⟨b.toArray⟩) = ⟨(a ++ b).toArray⟩ := by
  apply ByteArray.ext; simp
/-- string([]byte{x}) -/
theorem conv_one {P : Program} {src dst e : TypeId} (hs : P.underlying src = some (.slice e)) (he : P.underlying e = some (.int .u8)) (hd : P.underlying dst = some .string) (ty : TypeId) (w : World) (x : Int) :
    (convert src dst (.slice (some ⟨w.heap.size, 0, none⟩) 1 1)).run P (w.alloc (.cells #[.int .u8 x] ty)) = .ok (.string ⟨#[UInt8.ofNat x.toNat]⟩) (w.alloc (.cells #[.int .u8 x] ty)) := by
  rw [run_convert_bytes_string _ src dst e _ 1 1 hs he hd, run_bytesToString _ _ 1 1 [x]]
  · rfl
  · have := run_loadCells_list (P := P) (w.alloc (.cells #[.int .u8 x] ty)) ⟨w.heap.size, 0, none⟩ [.int .u8 x] (fun j v hj => by
      have hj0 : j = 0 := by have := (List.getElem?_eq_some_iff.1 hj).1; simp at this; omega
      subst hj0
      have hc := World.cell?_alloc_mark w #[.int .u8 x] ty (0, 0) 0
      simp at hj
      subst hj
      exact hc.trans (by simp))
    exact this
/-- []byte(s): what is made. -/
theorem conv_sb {P : Program} {w : World} {src dst e : TypeId} (s : List UInt8) (hs : P.underlying src = some .string) (hd : P.underlying dst = some (.slice e)) (he : P.underlying e = some (.int .u8)) (hl : s.length ≤ maxLen) :
    ∃ v w', (convert src dst (S s)).run P w = .ok v w' ∧ IsBy w' v s ∧ Ext w w' := by
  have hr := run_bytes_of_string (P := P) w src dst e ⟨s.toArray⟩ hs hd he
  refine ⟨_, _, hr, ⟨_, _, _, rfl, ?_, ?_, ?_⟩, ?_⟩
  · exact grownCap_ge _ _ _ _
  · exact grownCap_le_maxLen _ _ _ _ hl
  · refine ⟨by simp [ByteArray.size], fun _ => ⟨_, _, rfl, fun i x hi => ?_⟩⟩
    unfold byteR
    have := World.cell?_alloc_mark w.drew (bytesRow ⟨s.toArray⟩ (grownCap w (ByteArray.size ⟨s.toArray⟩) 0 e)) e ((bytesRow ⟨s.toArray⟩ (grownCap w (ByteArray.size ⟨s.toArray⟩) 0 e)).size, (bytesRow ⟨s.toArray⟩ (grownCap w (ByteArray.size ⟨s.toArray⟩) 0 e)).size + 1) (0 + i * 1)
    refine Eq.trans this ?_
    have hi' : i < s.length := (List.getElem?_eq_some_iff.1 hi).1
    simp [bytesRow, Array.getElem?_append, hi', B]
    have := (List.getElem?_eq_some_iff.1 hi).2
    simp [this]
  · exact Ext.alloc (Ext.drew (Ext.refl w)) _
theorem wpList_conv_sb {P : Program} {ops : Array Oper} {Q : Exit → Act → World → Prop} {rest : List Oper} {o : Oper} {a : Act} {w : World} (hg : o.guard = none) (src dst e : TypeId) (x : Operand) (s : List UInt8) (ho : o.op = .convert src dst x)
    (hx : a.eval x = .string ⟨s.toArray⟩) (hs : P.underlying src = some .string) (hd : P.underlying dst = some (.slice e)) (he : P.underlying e = some (.int .u8)) (hl : s.length ≤ maxLen)
    (h : ∀ v w', IsBy w' v s → Ext w w' → wpList P ops Q rest (a.put o.dst v) w') : wpList P ops Q (o :: rest) a w := by
  obtain ⟨v, w', hr, hb, hx'⟩ := conv_sb (P := P) (w := w) (src := src) (dst := dst) (e := e) s hs hd he hl
  refine wpList_plain hg fun K hK => ?_
  unfold Oper.wp execOp
  simp only [ho, hx]
  rw [show (.string ⟨s.toArray⟩ : Value) = S s from rfl]
  simp only [Sem.run_bind, hr, Result.andThen, Sem.run_pure]
  exact hK _ _ (h v w' hb hx')
/-- One operation, wanted, that runs to a value. -/
theorem wpList_run {P : Program} {ops : Array Oper} {Q : Exit → Act → World → Prop} {rest : List Oper} {o : Oper} {a : Act} {w w' : World} {v : Value} (hw : Region.wanted o (yielded ops a.tmps) = true) (hr : (execOp a.eval o).run P w = .ok (.value v) w')
    (h : wpList P ops Q rest (a.put o.dst v) w') : wpList P ops Q (o :: rest) a w := by
  unfold wpList
  rw [if_pos hw]
  left
  unfold Oper.wp
  rw [hr]
  exact h
/-- []byte of a constant: the row that was laid just now gets its mark. -/
theorem wpList_mark {P : Program} {ops : Array Oper} {Q : Exit → Act → World → Prop} {rest : List Oper} {o : Oper} {a : Act} {w : World} {C : Array Value} {e : TypeId} (hw : Region.wanted o (yielded ops a.tmps) = true) (t : TypeId) (x : Operand) (n c g : Nat)
    (ho : o.op = .convert t t x) (hx : a.eval x = .slice (some ⟨g, 0, none⟩) n c) (hg : g = w.heap.size) (ht : P.underlying t = some (.slice e)) (he : P.underlying e = some (.int .u8))
    (h : wpList P ops Q rest (a.put o.dst (.slice (some ⟨g, 0, none⟩) n c)) (w.alloc (.cells C e (C.size, C.size + 1)))) : wpList P ops Q (o :: rest) a (w.alloc (.cells C e)) := by
  refine wpList_run hw ?_ h
  unfold execOp
  simp only [ho, hx, Sem.run_bind, Go.Joins.run_convert_bytes_const_at (P := P) w t e C n c g hg ht he, Result.andThen, Sem.run_pure]

/-- Two lists, member by member. -/
def All2 {α β : Type} (R : α → β → Prop) : List α → List β → Prop
  | [], [] => True
  | a :: l, b :: l' => R a b ∧ All2 R l l'
  | _, _ => False
theorem All2.at {α β : Type} {R : α → β → Prop} : ∀ {l : List α} {l' : List β}, All2 R l l' → ∀ {i : Nat} {y : β}, l'[i]? = some y → ∃ x, l[i]? = some x ∧ R x y
  | [], [], _, i, y, h => by simp at h
  | a :: l, b :: l', h, 0, y, hy => by simp at hy; subst hy; exact ⟨a, by simp, h.1⟩
  | a :: l, b :: l', h, i + 1, y, hy => by
    obtain ⟨x, h1, h2⟩ := All2.at h.2 (i := i) (y := y) (by simpa using hy)
    exact ⟨x, by simpa using h1, h2⟩
  | [], _ :: _, h, _, _, _ => h.elim
  | _ :: _, [], h, _, _, _ => h.elim
theorem All2.length {α β : Type} {R : α → β → Prop} : ∀ {l : List α} {l' : List β}, All2 R l l' → l.length = l'.length
  | [], [], _ => rfl
  | _ :: _, _ :: _, h => by simp [All2.length h.2]
  | [], _ :: _, h => h.elim
  | _ :: _, [], h => h.elim
/-- A new row of one-cell elements reads as a list. -/
theorem Arr.lit {α : Type} {R : World → Nat → Nat → α → Prop} {E : World → Value → α → Prop} (hE : ∀ w b o v x, w.cell? ⟨b, o, none⟩ = some v → E w v x → R w b o x) (w : World) (vs : List Value) (ty : TypeId) (fr : Nat × Nat) (xs : List α) (b n : Nat)
    (hb : b = w.heap.size) (hn : n = vs.length) (h : All2 (E (w.alloc (.cells vs.toArray ty fr))) vs xs) : Arr 1 R (w.alloc (.cells vs.toArray ty fr)) (some ⟨b, 0, none⟩) n xs := by
  subst hb hn
  refine ⟨h.length, fun _ => ⟨_, _, rfl, fun i x hi => ?_⟩⟩
  obtain ⟨v, h1, h2⟩ := h.at hi
  refine hE _ _ _ v _ ?_ h2
  rw [World.cell?_alloc_mark]
  simpa using h1
theorem By.lit (w : World) (vs : List Value) (ty : TypeId) (fr : Nat × Nat) (xs : List UInt8) (b n : Nat) (hb : b = w.heap.size) (hn : n = vs.length) (h : All2 (fun v x => v = B x) vs xs) :
    By (w.alloc (.cells vs.toArray ty fr)) (some ⟨b, 0, none⟩) n xs :=
  Arr.lit (E := fun _ v x => v = B x) (fun w b o v x hc he => by unfold byteR; rw [hc, he]) w vs ty fr xs b n hb hn h
theorem Bys.lit (w : World) (vs : List Value) (ty : TypeId) (fr : Nat × Nat) (xs : List (List UInt8)) (b n : Nat) (hb : b = w.heap.size) (hn : n = vs.length) (h : All2 (IsBy (w.alloc (.cells vs.toArray ty fr))) vs xs) :
    Arr 1 sliceR (w.alloc (.cells vs.toArray ty fr)) (some ⟨b, 0, none⟩) n xs :=
  Arr.lit (E := IsBy) (fun w b o v x hc he => ⟨v, hc, he⟩) w vs ty fr xs b n hb hn h
theorem Arr.isSl {α : Type} {s : Nat} {R : World → Nat → Nat → α → Prop} {w : World} {a : Option Addr} {n : Nat} {xs : List α} (h : Arr s R w a n xs) {c : Nat} (h1 : n ≤ c) (h2 : c ≤ maxLen) : IsSl s R w (.slice a n c) xs := ⟨a, n, c, rfl, h1, h2, h⟩
theorem Ext.new (w : World) (o : Obj) : Ext w (w.alloc o) := (Ext.refl w).alloc o

/-- Block b is a row of the cells vs, none frozen. -/
def Blk (w : World) (b : Nat) (vs : List Value) : Prop := ∃ ty, w.heap[b]? = some (.cells vs.toArray ty (0, 0))
theorem Blk.cell {w : World} {b : Nat} {vs : List Value} (h : Blk w b vs) (i : Nat) : w.cell? ⟨b, i, none⟩ = vs[i]? := by
  obtain ⟨ty, h⟩ := h
  simp [World.cell?, h]
theorem Blk.free {w : World} {b : Nat} {vs : List Value} (h : Blk w b vs) (i : Nat) : w.frozen? ⟨b, i, none⟩ = false := by
  obtain ⟨ty, h⟩ := h
  simp [World.frozen?, h]
theorem Blk.new (w : World) (vs : List Value) (ty : TypeId) : Blk (w.alloc (.cells vs.toArray ty)) w.heap.size vs := ⟨ty, by show (w.heap.push _)[_]? = _; simp⟩
theorem Blk.lit (w : World) (vs : List Value) (ty : TypeId) (b : Nat) (hb : b = w.heap.size) : Blk (w.alloc (.cells vs.toArray ty)) b vs := hb ▸ Blk.new w vs ty
theorem Blk.lt {w : World} {b : Nat} {vs : List Value} (h : Blk w b vs) : b < w.heap.size := by
  obtain ⟨ty, h⟩ := h
  exact (Array.getElem?_eq_some_iff.1 h).1
theorem Blk.set {w : World} {b : Nat} {vs : List Value} (h : Blk w b vs) (i : Nat) (v : Value) : Blk (w.setCell ⟨b, i, none⟩ v) b (vs.set i v) := by
  obtain ⟨ty, h⟩ := h
  refine ⟨ty, ?_⟩
  simp only [World.setCell, Array.getElem?_modify, h]
  simp
theorem Blk.set_other {w : World} {b : Nat} {vs : List Value} (h : Blk w b vs) {p : Addr} (hp : p.block ≠ b) (v : Value) : Blk (w.setCell p v) b vs := by
  obtain ⟨ty, h⟩ := h
  exact ⟨ty, by rw [Below.heap_setCell _ _ _ _ (fun e => hp e.symm)]; exact h⟩
theorem Blk.ext {w w' : World} {b : Nat} {vs : List Value} (h : Blk w b vs) (hx : Ext w w') : Blk w' b vs := let ⟨ty, h⟩ := h; ⟨ty, hx.block h⟩
theorem Blk.by {w : World} {b : Nat} {xs : List UInt8} (h : Blk w b (xs.map B)) : By w (some ⟨b, 0, none⟩) xs.length xs :=
  ⟨rfl, fun _ => ⟨b, 0, rfl, fun i x hi => by unfold byteR; rw [h.cell]; simp [hi]⟩⟩
/-- A byte slice that came in. -/
theorem By.of_row {w : World} {a : Option Addr} {len cap : Nat} {zs : List Int}
    (h : (a = none ∧ len = 0 ∧ cap = 0 ∧ zs = []) ∨ ∃ x, a = some x ∧ len ≤ cap ∧ cap ≤ maxLen ∧ zs.length = cap ∧ (∀ i, i < zs.length → w.cell? (x.add i) = some (.int .u8 (zs.getD i 0))) ∧ ∀ n ∈ zs, (Lit.int .u8 n).wf = true) :
    ∃ xs, By w a len xs ∧ len ≤ cap ∧ cap ≤ maxLen := by
  rcases h with ⟨rfl, rfl, rfl, rfl⟩ | ⟨x, rfl, h1, h2, h3, h4, h5⟩
  · exact ⟨[], By.nil _ _, Nat.le_refl _, by simp [maxLen]⟩
  · refine ⟨(zs.take len).map fun n => UInt8.ofNat n.toNat, ⟨by simp; omega, fun h0 => ?_⟩, h1, h2⟩
    have hx : x.spot = none := by
      have := h4 0 (by omega)
      simp only [Addr.add, if_true] at this
      unfold World.cell? at this
      split at this
      · cases hs : x.spot with
        | none => rfl
        | some q => simp [hs] at this
      · cases this
    obtain ⟨b, off, sp⟩ := x
    simp at hx
    subst hx
    refine ⟨b, off, rfl, fun i c hi => ?_⟩
    have hil : i < len := by
      have := (List.getElem?_eq_some_iff.1 hi).1
      simp at this; omega
    have hz := h4 i (by omega)
    have ha : (⟨b, off, none⟩ : Addr).add i = ⟨b, off + i * 1, none⟩ := by
      unfold Addr.add; split <;> simp_all
    rw [ha] at hz
    have hw := h5 (zs.getD i 0) (by
      have h6 : i < zs.length := by omega
      simp only [List.getD, List.getElem?_eq_getElem h6, Option.getD_some]; exact List.getElem_mem _)
    have hr : 0 ≤ zs.getD i 0 ∧ zs.getD i 0 < 256 := by
      generalize zs.getD i 0 = z at *
      simp [Lit.wf, IntKind.min, IntKind.max, IntKind.signed, IntKind.bits] at hw
      omega
    unfold byteR
    rw [hz]
    have hc : c = UInt8.ofNat (zs.getD i 0).toNat := by
      have h6 : i < zs.length := by omega
      simp only [List.getElem?_map, List.getElem?_take_of_lt hil, List.getElem?_eq_getElem h6, Option.map_some, Option.some.injEq] at hi
      rw [← hi]; simp [List.getD, List.getElem?_eq_getElem h6]
    rw [hc]
    unfold B
    generalize zs.getD i 0 = z at *
    congr 2
    simp
    omega
end Go.Proofs.Ytcminppmmhinjaa
