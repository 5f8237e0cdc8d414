/- Plain predicates on memory: slices that read as lists, worlds that extend one another. No program in sight. -/
import Derived.WalkKit
import Derived.WalkSpells
import Derived.WalkLawsBesides
import Derived.Lib.Hide
import Derived.Deep.Draws
import Derived.Lib.SmallJoins
import Derived.Laws.AppendOwnNone
import Derived.Orders
import Derived.Still
import Derived.KernelRfl
import Derived.Tactics
import Derived.Deep.MidRow
import Derived.Test.YthdbobnebpoolaaRows
import Derived.Laws.BitsAllLaws
import Derived.Defers
import Derived.Recover
import Derived.Lib.Builder
import Derived.Scope
import Derived.Deep.LoopGhost
import Derived.Lib.SlicesCompact
import Derived.Sort.Walk0
import Derived.Test.YthdbobnebpoolaaShelf
import Derived.Sort.OwnSorted
import Derived.Lib.AppendZeros
import Derived.Laws.Rows
import Derived.Laws.ResultCell
import Derived.Lib.IndexLaws
namespace Go.Proofs.Ythdbobnebpoolaa
set_option linter.unusedSimpArgs false
set_option linter.unusedVariables false
open Go Go.RowKit

/-- What a computation draws is counted upwards. -/
theorem viewStore_drawn {P : Program} {w w' : World} {at_ : Addr} {u : TypeId} {a : Addr} {v : Value} {b : Bool} {l : List Addr} (h : w.viewStore P at_ u a v b = .ok (w', l)) : w'.drawn = w.drawn := by
  unfold World.viewStore at h
  repeat' (first | (split at h) | (simp only [bind, Except.bind, pure, Except.pure, MonadExcept.throw, throwThe, MonadExceptOf.throw] at h))
  all_goals first | (cases h; done) | (injection h with h; injection h with h1 h2; subst h1; rfl) | skip
theorem farStore_drawn {P : Program} {w w' : World} {a : Addr} {v : Value} {b : Bool} {l : List Addr} (h : w.farStore P a v b = .ok (w', l)) : w'.drawn = w.drawn := by
  unfold World.farStore at h
  split at h
  · split at h
    · injection h with h; subst h
      exact viewStore_drawn (by assumption)
    · cases h
  · cases h
theorem ask_drawn {α : Type} : ∀ (k : Ask α) (w : World), w.drawn ≤ (w.ask k).2.drawn := by
  intro k
  induction k with
  | done a => intro w; unfold World.ask; exact Nat.le_refl _
  | ask what range k ih =>
    intro w; unfold World.ask
    simp only
    split
    · exact ih _ _
    · exact Nat.le_trans (Nat.le_succ _) (ih _ { w with drawn := w.drawn + 1 })
theorem sem_drawn {P : Program} {α : Type} : ∀ (s : Sem α) (w w' : World) (v : α), s.run P w = .ok v w' → w.drawn ≤ w'.drawn := by
  intro s
  induction s with
  | pure a => intro w w' v h; unfold Sem.run at h; injection h with _ h; subst h; exact Nat.le_refl _
  | load m a k ih =>
    intro w w' v h; unfold Sem.run at h
    split at h
    · exact ih _ _ _ _ h
    · split at h
      · exact ih _ _ _ _ h
      · cases h
  | store m a v k ih =>
    intro w w' u h
    have hs : ∀ (h : (match w.cell? a with
      | some _ => if w.frozen? a then Result.halt (.unsupported (.unsafePointer "a write to bytes that a string shares")) w else k.run P (w.setCell a v)
      | none => match w.farStore P a v (m == .atomic) with
        | .ok (w, _) => k.run P w
        | .error h => .halt h w) = Result.ok u w'), w.drawn ≤ w'.drawn := by
      intro h
      split at h
      · split at h
        · cases h
        · have := ih _ _ _ h; exact this
      · split at h
        · have := ih _ _ _ h; rename_i hf; rw [farStore_drawn hf] at this; exact this
        · cases h
    cases v <;> first | exact hs h | (simp only [Sem.run] at h; cases h; done)
  | new o k ih => intro w w' v h; unfold Sem.run at h; have := ih _ _ _ _ h; exact this
  | shape r k ih => intro w w' v h; unfold Sem.run at h; exact ih _ _ _ _ h
  | freeze a n k ih =>
    intro w w' v h; unfold Sem.run at h; have := ih _ _ _ h
    have e : (w.freeze a n).drawn = w.drawn := by first | rfl | (unfold World.freeze; rfl) | (unfold World.freeze; split <;> rfl)
    rw [e] at this; exact this
  | frozen a k ih => intro w w' v h; unfold Sem.run at h; exact ih _ _ _ _ h
  | getObj r k ih =>
    intro w w' v h; unfold Sem.run at h
    split at h
    · cases h
    · exact ih _ _ _ _ h
    · cases h
  | setObj r o k ih =>
    intro w w' v h; unfold Sem.run at h
    split at h
    · cases h
    · have := ih _ _ _ h; exact this
    · cases h
  | choose q k ih =>
    intro w w' v h; unfold Sem.run at h
    split at h
    · exact ih _ _ _ _ h
    · have := ih _ _ _ _ h; exact Nat.le_trans (Nat.le_succ _) this
  | sys c k ih =>
    intro w w' v h; unfold Sem.run at h
    have := ih _ _ _ _ h
    refine Nat.le_trans ?_ this
    unfold World.sys
    split
    · exact Nat.le_refl _
    · rename_i hq
      have := ask_drawn (Kernel.perform c w.os) w
      rw [hq] at this
      exact this
  | program k ih => intro w w' v h; unfold Sem.run at h; exact ih _ _ _ _ h
  | mark m k ih => intro w w' v h; unfold Sem.run at h; exact ih _ _ _ h
  | halt h => intro w w' v h; unfold Sem.run at h; cases h
/- How many draws there were: counted where the seat sorts (the shelf's sort asks it of a comparison), else asked by nobody. -/
def Dr (_ _ : Nat) : Prop := True
theorem Dr.of {m n : Nat} (_ : m ≤ n) : Dr m n := trivial
theorem Dr.trans {m n k : Nat} (_ : Dr m n) (_ : Dr n k) : Dr m k := trivial
/-- Old memory reads as it did. -/
structure Ext (w w' : World) : Prop where
  bel : Below w.heap.size w w'
  drawn : Dr w.drawn w'.drawn
theorem Ext.os {w w' : World} (h : Ext w w') : w'.os = w.os := h.bel.os
theorem Ext.tape {w w' : World} (h : Ext w w') : w'.tape = w.tape := h.bel.tape
theorem Ext.output {w w' : World} (h : Ext w w') : w'.output = w.output := h.bel.output
theorem Ext.size {w w' : World} (h : Ext w w') : w.heap.size ≤ w'.heap.size := h.bel.size
theorem Ext.refl (w : World) : Ext w w := ⟨Below.refl _ _, .of (Nat.le_refl _)⟩
theorem Ext.trans {a b c : World} (h : Ext a b) (k : Ext b c) : Ext a c := ⟨Below.trans h.bel (Below.mono k.bel h.bel.size), Dr.trans h.drawn k.drawn⟩
theorem Ext.drew {a w : World} (h : Ext a w) : Ext a w.drew := ⟨Below.drew h.bel, Dr.trans h.drawn (.of (Nat.le_succ _))⟩
theorem Ext.alloc {a w : World} (h : Ext a w) (o : Obj) : Ext a (w.alloc o) := ⟨Below.alloc h.bel h.bel.size o, h.drawn⟩
theorem Ext.setCell {a w : World} (h : Ext a w) {p : Addr} (hp : a.heap.size ≤ p.block) (u : Value) : Ext a (w.setCell p u) := ⟨Below.setCell h.bel hp u, h.drawn⟩
theorem Ext.le {a w : World} (h : Ext a w) : a.heap.size ≤ w.heap.size := h.size
theorem Ext.cell {w w' : World} (h : Ext w w') {p : Addr} {v : Value} (hc : w.cell? p = some v) : w'.cell? p = some v :=
  (Below.cell h.bel (World.block_lt_of_cell? w p hc)).trans hc
theorem Ext.frozen {w w' : World} (h : Ext w w') {p : Addr} (hp : p.block < w.heap.size) : w'.frozen? p = w.frozen? p := Below.frozen h.bel hp
theorem Ext.block {w w' : World} (h : Ext w w') {k : Nat} {o : Obj} (hk : w.heap[k]? = some o) : w'.heap[k]? = some o :=
  (Below.block h.bel k (Array.getElem?_eq_some_iff.1 hk).1).trans hk
/-- A row grew, and what was drawn is counted upwards. -/
structure GrownBy (w w' : World) (row : Option Nat) : Prop where
  g : w.grownBy w' row
  drawn : Dr w.drawn w'.drawn
theorem GrownBy.os {w w' : World} {row : Option Nat} (h : GrownBy w w' row) : w'.os = w.os := h.g.os
theorem GrownBy.tape {w w' : World} {row : Option Nat} (h : GrownBy w w' row) : w'.tape = w.tape := h.g.tape
theorem GrownBy.output {w w' : World} {row : Option Nat} (h : GrownBy w w' row) : w'.output = w.output := h.g.output
theorem GrownBy.size {w w' : World} {row : Option Nat} (h : GrownBy w w' row) : w.heap.size ≤ w'.heap.size := h.g.size
theorem GrownBy.block {w w' : World} {row : Option Nat} (h : GrownBy w w' row) (k : Nat) (hk : k < w.heap.size) (hne : some k ≠ row) : w'.heap[k]? = w.heap[k]? := h.g.block k hk hne
theorem Ext.grown {a w w' : World} {row : Option Nat} (h : Ext a w) (hg : GrownBy w w' row) (hr : ∀ k, row = some k → a.heap.size ≤ k) : Ext a w' := ⟨Below.grown h.bel hg.g h.size hr, Dr.trans h.drawn hg.drawn⟩

/-- The slice (a, n) reads as the list xs: element i lies at its own s cells. -/
def Arr {α : Type} (s : Nat) (R : World → Nat → Nat → α → Prop) (w : World) (a : Option Addr) (n : Nat) (xs : List α) : Prop :=
  n = xs.length ∧ (0 < n → ∃ b off, a = some ⟨b, off, none⟩ ∧ ∀ i x, xs[i]? = some x → R w b (off + i * s) x)
/-- A slice value that reads as the list xs. -/
def IsSl {α : Type} (s : Nat) (R : World → Nat → Nat → α → Prop) (w : World) (v : Value) (xs : List α) : Prop :=
  ∃ a n c, v = .slice a n c ∧ n ≤ c ∧ c ≤ maxLen ∧ Arr s R w a n xs
class Stb {α : Type} (R : World → Nat → Nat → α → Prop) : Prop where
  st : ∀ w w' b o x, Ext w w' → R w b o x → R w' b o x
theorem Arr.ext {α : Type} {s : Nat} {R : World → Nat → Nat → α → Prop} [hR : Stb R] {w w' : World} {a : Option Addr} {n : Nat} {xs : List α} (h : Arr s R w a n xs) (hx : Ext w w') : Arr s R w' a n xs :=
  ⟨h.1, fun h0 => let ⟨b, off, ha, hc⟩ := h.2 h0; ⟨b, off, ha, fun i x hi => hR.st _ _ _ _ _ hx (hc i x hi)⟩⟩
theorem IsSl.ext {α : Type} {s : Nat} {R : World → Nat → Nat → α → Prop} [hR : Stb R] {w w' : World} {v : Value} {xs : List α} (h : IsSl s R w v xs) (hx : Ext w w') : IsSl s R w' v xs :=
  let ⟨a, n, c, e, h1, h2, h3⟩ := h; ⟨a, n, c, e, h1, h2, h3.ext hx⟩

/-- A byte as a value. -/
def B (c : UInt8) : Value := .int .u8 (c.toNat : Int)
/-- A string as a value. -/
def S (l : List UInt8) : Value := .string ⟨l.toArray⟩
def byteR : World → Nat → Nat → UInt8 → Prop := fun w b o x => w.cell? ⟨b, o, none⟩ = some (B x)
instance byteR_stb : Stb byteR := ⟨fun _ _ _ _ _ hx h => hx.cell h⟩
/-- The byte slice (a, n) reads as xs. -/
abbrev By (w : World) (a : Option Addr) (n : Nat) (xs : List UInt8) : Prop := Arr 1 byteR w a n xs
abbrev IsBy (w : World) (v : Value) (xs : List UInt8) : Prop := IsSl 1 byteR w v xs
theorem By.nil (w : World) (a : Option Addr) : By w a 0 [] := ⟨rfl, fun h => by omega⟩
theorem IsBy.nil (w : World) : IsBy w (.slice none 0 0) [] := ⟨none, 0, 0, rfl, Nat.le_refl _, by simp [maxLen], By.nil _ _⟩
theorem By.at {w : World} {a : Option Addr} {n : Nat} {xs : List UInt8} (h : By w a n xs) {k : Nat} (hk : k < n) :
    ∃ b off, a = some ⟨b, off, none⟩ ∧ (∀ i x, xs[i]? = some x → w.cell? ⟨b, off + i, none⟩ = some (.int .u8 (x.toNat : Int))) ∧ ∃ h' : k < xs.length, w.cell? ⟨b, off + k, none⟩ = some (.int .u8 (xs[k].toNat : Int)) := by
  obtain ⟨b, off, ha, hc⟩ := h.2 (by omega)
  have hk' : k < xs.length := h.1 ▸ hk
  refine ⟨b, off, ha, fun i x hi => ?_, hk', ?_⟩
  · have := hc i x hi; rw [Nat.mul_one] at this; exact this
  · have := hc k xs[k] (List.getElem?_eq_getElem hk'); rw [Nat.mul_one] at this; exact this
/-- A slice of byte slices. -/
def sliceR : World → Nat → Nat → List UInt8 → Prop := fun w b o x => ∃ v, w.cell? ⟨b, o, none⟩ = some v ∧ IsBy w v x
instance sliceR_stb : Stb sliceR := ⟨fun _ _ _ _ _ hx ⟨v, h1, h2⟩ => ⟨v, hx.cell h1, IsSl.ext h2 hx⟩⟩

/-- string(b) -/
theorem conv_bs {P : Program} {w : World} {src dst e : TypeId} {a : Option Addr} {n c : Nat} {xs : List UInt8} (hs : P.underlying src = some (.slice e)) (he : P.underlying e = some (.int .u8)) (hd : P.underlying dst = some .string)
    (h : By w a n xs) : (convert src dst (.slice a n c)).run P w = .ok (S xs) w := by
  obtain ⟨h1, h2⟩ := h
  subst h1
  by_cases h0 : 0 < xs.length
  · obtain ⟨b, off, rfl, hc⟩ := h2 h0
    refine run_convert_bytes_back w src dst e ⟨b, off, none⟩ c xs hs he hd fun j hj => ?_
    have := hc j xs[j] (List.getElem?_eq_getElem hj)
    rw [Nat.mul_one] at this
    unfold byteR at this
    unfold Addr.add
    split
    · subst_vars; simpa [B] using this
    · simpa [B] using this
  · have : xs = [] := List.eq_nil_of_length_eq_zero (by omega)
    subst this
    cases a with
    | none => simp [run_convert_bytes_string w src dst e none 0 c hs he hd, Conv.bytesToString, Sem.run_pure, S]; rfl
    | some a => exact run_convert_bytes_back w src dst e a c [] hs he hd fun j hj => by simp at hj
theorem ba_append (a b : List UInt8) : ((⟨a.toArray⟩ : ByteArray) ++ ⟨b.toArray⟩) = ⟨(a ++ b).toArray⟩ := by
  apply ByteArray.ext; simp
/-- string([]byte{x}) -/
theorem conv_one {P : Program} {src dst e : TypeId} (hs : P.underlying src = some (.slice e)) (he : P.underlying e = some (.int .u8)) (hd : P.underlying dst = some .string) (ty : TypeId) (w : World) (x : Int) :
    (convert src dst (.slice (some ⟨w.heap.size, 0, none⟩) 1 1)).run P (w.alloc (.cells #[.int .u8 x] ty)) = .ok (.string ⟨#[UInt8.ofNat x.toNat]⟩) (w.alloc (.cells #[.int .u8 x] ty)) := by
  rw [run_convert_bytes_string _ src dst e _ 1 1 hs he hd, run_bytesToString _ _ 1 1 [x]]
  · rfl
  · have := run_loadCells_list (P := P) (w.alloc (.cells #[.int .u8 x] ty)) ⟨w.heap.size, 0, none⟩ [.int .u8 x] (fun j v hj => by
      have hj0 : j = 0 := by have := (List.getElem?_eq_some_iff.1 hj).1; simp at this; omega
      subst hj0
      have hc := World.cell?_alloc_mark w #[.int .u8 x] ty (0, 0) 0
      simp at hj
      subst hj
      exact hc.trans (by simp))
    exact this
/-- []byte(s): what is made. -/
theorem conv_sb {P : Program} {w : World} {src dst e : TypeId} (s : List UInt8) (hs : P.underlying src = some .string) (hd : P.underlying dst = some (.slice e)) (he : P.underlying e = some (.int .u8)) (hl : s.length ≤ maxLen) :
    ∃ v w', (convert src dst (S s)).run P w = .ok v w' ∧ IsBy w' v s ∧ Ext w w' := by
  have hr := run_bytes_of_string (P := P) w src dst e ⟨s.toArray⟩ hs hd he
  refine ⟨_, _, hr, ⟨_, _, _, rfl, ?_, ?_, ?_⟩, ?_⟩
  · exact grownCap_ge _ _ _ _
  · exact grownCap_le_maxLen _ _ _ _ hl
  · refine ⟨by simp [ByteArray.size], fun _ => ⟨_, _, rfl, fun i x hi => ?_⟩⟩
    unfold byteR
    have := World.cell?_alloc_mark w.drew (bytesRow ⟨s.toArray⟩ (grownCap w (ByteArray.size ⟨s.toArray⟩) 0 e)) e ((bytesRow ⟨s.toArray⟩ (grownCap w (ByteArray.size ⟨s.toArray⟩) 0 e)).size, (bytesRow ⟨s.toArray⟩ (grownCap w (ByteArray.size ⟨s.toArray⟩) 0 e)).size + 1) (0 + i * 1)
    refine Eq.trans this ?_
    have hi' : i < s.length := (List.getElem?_eq_some_iff.1 hi).1
    simp [bytesRow, Array.getElem?_append, hi', B]
    have := (List.getElem?_eq_some_iff.1 hi).2
    simp [this]
  · exact Ext.alloc (Ext.drew (Ext.refl w)) _
/-- One operation, wanted, that runs to a value. -/
theorem wpList_run {P : Program} {ops : Array Oper} {Q : Exit → Act → World → Prop} {rest : List Oper} {o : Oper} {a : Act} {w w' : World} {v : Value} (hw : Region.wanted o (yielded ops a.tmps) = true) (hr : (execOp a.eval o).run P w = .ok (.value v) w')
    (h : wpList P ops Q rest (a.put o.dst v) w') : wpList P ops Q (o :: rest) a w := by
  unfold wpList
  rw [if_pos hw]
  left
  unfold Oper.wp
  rw [hr]
  exact h
/-- Two lists, member by member. -/
def All2 {α β : Type} (R : α → β → Prop) : List α → List β → Prop
  | [], [] => True
  | a :: l, b :: l' => R a b ∧ All2 R l l'
  | _, _ => False
theorem All2.at {α β : Type} {R : α → β → Prop} : ∀ {l : List α} {l' : List β}, All2 R l l' → ∀ {i : Nat} {y : β}, l'[i]? = some y → ∃ x, l[i]? = some x ∧ R x y
  | [], [], _, i, y, h => by simp at h
  | a :: l, b :: l', h, 0, y, hy => by simp at hy; subst hy; exact ⟨a, by simp, h.1⟩
  | a :: l, b :: l', h, i + 1, y, hy => by
    obtain ⟨x, h1, h2⟩ := All2.at h.2 (i := i) (y := y) (by simpa using hy)
    exact ⟨x, by simpa using h1, h2⟩
  | [], _ :: _, h, _, _, _ => h.elim
  | _ :: _, [], h, _, _, _ => h.elim
theorem All2.length {α β : Type} {R : α → β → Prop} : ∀ {l : List α} {l' : List β}, All2 R l l' → l.length = l'.length
  | [], [], _ => rfl
  | _ :: _, _ :: _, h => by simp [All2.length h.2]
  | [], _ :: _, h => h.elim
  | _ :: _, [], h => h.elim
/-- A new row of one-cell elements reads as a list. -/
theorem Arr.lit {α : Type} {R : World → Nat → Nat → α → Prop} {E : World → Value → α → Prop} (hE : ∀ w b o v x, w.cell? ⟨b, o, none⟩ = some v → E w v x → R w b o x) (w : World) (vs : List Value) (ty : TypeId) (fr : Nat × Nat) (xs : List α) (b n : Nat)
    (hb : b = w.heap.size) (hn : n = vs.length) (h : All2 (E (w.alloc (.cells vs.toArray ty fr))) vs xs) : Arr 1 R (w.alloc (.cells vs.toArray ty fr)) (some ⟨b, 0, none⟩) n xs := by
  subst hb hn
  refine ⟨h.length, fun _ => ⟨_, _, rfl, fun i x hi => ?_⟩⟩
  obtain ⟨v, h1, h2⟩ := h.at hi
  refine hE _ _ _ v _ ?_ h2
  rw [World.cell?_alloc_mark]
  simpa using h1
theorem By.lit (w : World) (vs : List Value) (ty : TypeId) (fr : Nat × Nat) (xs : List UInt8) (b n : Nat) (hb : b = w.heap.size) (hn : n = vs.length) (h : All2 (fun v x => v = B x) vs xs) :
    By (w.alloc (.cells vs.toArray ty fr)) (some ⟨b, 0, none⟩) n xs :=
  Arr.lit (E := fun _ v x => v = B x) (fun w b o v x hc he => by unfold byteR; rw [hc, he]) w vs ty fr xs b n hb hn h
theorem Bys.lit (w : World) (vs : List Value) (ty : TypeId) (fr : Nat × Nat) (xs : List (List UInt8)) (b n : Nat) (hb : b = w.heap.size) (hn : n = vs.length) (h : All2 (IsBy (w.alloc (.cells vs.toArray ty fr))) vs xs) :
    Arr 1 sliceR (w.alloc (.cells vs.toArray ty fr)) (some ⟨b, 0, none⟩) n xs :=
  Arr.lit (E := IsBy) (fun w b o v x hc he => ⟨v, hc, he⟩) w vs ty fr xs b n hb hn h
theorem Ext.new (w : World) (o : Obj) : Ext w (w.alloc o) := (Ext.refl w).alloc o

/-- Block b is a row of the cells vs, none frozen. -/
def Blk (w : World) (b : Nat) (vs : List Value) : Prop := ∃ ty, w.heap[b]? = some (.cells vs.toArray ty (0, 0))
theorem Blk.cell {w : World} {b : Nat} {vs : List Value} (h : Blk w b vs) (i : Nat) : w.cell? ⟨b, i, none⟩ = vs[i]? := by
  obtain ⟨ty, h⟩ := h
  simp [World.cell?, h]
theorem Blk.free {w : World} {b : Nat} {vs : List Value} (h : Blk w b vs) (i : Nat) : w.frozen? ⟨b, i, none⟩ = false := by
  obtain ⟨ty, h⟩ := h
  simp [World.frozen?, h]
theorem Blk.new (w : World) (vs : List Value) (ty : TypeId) : Blk (w.alloc (.cells vs.toArray ty)) w.heap.size vs := ⟨ty, by show (w.heap.push _)[_]? = _; simp⟩
theorem Blk.lit (w : World) (vs : List Value) (ty : TypeId) (b : Nat) (hb : b = w.heap.size) : Blk (w.alloc (.cells vs.toArray ty)) b vs := hb ▸ Blk.new w vs ty
theorem Blk.lt {w : World} {b : Nat} {vs : List Value} (h : Blk w b vs) : b < w.heap.size := by
  obtain ⟨ty, h⟩ := h
  exact (Array.getElem?_eq_some_iff.1 h).1
theorem Blk.set {w : World} {b : Nat} {vs : List Value} (h : Blk w b vs) (i : Nat) (v : Value) : Blk (w.setCell ⟨b, i, none⟩ v) b (vs.set i v) := by
  obtain ⟨ty, h⟩ := h
  refine ⟨ty, ?_⟩
  simp only [World.setCell, Array.getElem?_modify, h]
  simp
theorem Blk.ext {w w' : World} {b : Nat} {vs : List Value} (h : Blk w b vs) (hx : Ext w w') : Blk w' b vs := let ⟨ty, h⟩ := h; ⟨ty, hx.block h⟩
theorem Blk.by {w : World} {b : Nat} {xs : List UInt8} (h : Blk w b (xs.map B)) : By w (some ⟨b, 0, none⟩) xs.length xs :=
  ⟨rfl, fun _ => ⟨b, 0, rfl, fun i x hi => by unfold byteR; rw [h.cell]; simp [hi]⟩⟩
/-- A byte slice that came in. -/
theorem By.of_row {w : World} {a : Option Addr} {len cap : Nat} {zs : List Int}
    (h : (a = none ∧ len = 0 ∧ cap = 0 ∧ zs = []) ∨ ∃ x, a = some x ∧ len ≤ cap ∧ cap ≤ maxLen ∧ zs.length = cap ∧ (∀ i, i < zs.length → w.cell? (x.add i) = some (.int .u8 (zs.getD i 0))) ∧ ∀ n ∈ zs, (Lit.int .u8 n).wf = true) :
    ∃ xs, By w a len xs ∧ len ≤ cap ∧ cap ≤ maxLen := by
  rcases h with ⟨rfl, rfl, rfl, rfl⟩ | ⟨x, rfl, h1, h2, h3, h4, h5⟩
  · exact ⟨[], By.nil _ _, Nat.le_refl _, by simp [maxLen]⟩
  · refine ⟨(zs.take len).map fun n => UInt8.ofNat n.toNat, ⟨by simp; omega, fun h0 => ?_⟩, h1, h2⟩
    have hx : x.spot = none := by
      have := h4 0 (by omega)
      simp only [Addr.add, if_true] at this
      unfold World.cell? at this
      split at this
      · cases hs : x.spot with
        | none => rfl
        | some q => simp [hs] at this
      · cases this
    obtain ⟨b, off, sp⟩ := x
    simp at hx
    subst hx
    refine ⟨b, off, rfl, fun i c hi => ?_⟩
    have hil : i < len := by
      have := (List.getElem?_eq_some_iff.1 hi).1
      simp at this; omega
    have hz := h4 i (by omega)
    have ha : (⟨b, off, none⟩ : Addr).add i = ⟨b, off + i * 1, none⟩ := by
      unfold Addr.add; split <;> simp_all
    rw [ha] at hz
    have hw := h5 (zs.getD i 0) (by
      have h6 : i < zs.length := by omega
      simp only [List.getD, List.getElem?_eq_getElem h6, Option.getD_some]; exact List.getElem_mem _)
    have hr : 0 ≤ zs.getD i 0 ∧ zs.getD i 0 < 256 := by
      generalize zs.getD i 0 = z at *
      simp [Lit.wf, IntKind.min, IntKind.max, IntKind.signed, IntKind.bits] at hw
      omega
    unfold byteR
    rw [hz]
    have hc : c = UInt8.ofNat (zs.getD i 0).toNat := by
      have h6 : i < zs.length := by omega
      simp only [List.getElem?_map, List.getElem?_take_of_lt hil, List.getElem?_eq_getElem h6, Option.map_some, Option.some.injEq] at hi
      rw [← hi]; simp [List.getD, List.getElem?_eq_getElem h6]
    rw [hc]
    unfold B
    generalize zs.getD i 0 = z at *
    congr 2
    simp
    omega
end Go.Proofs.Ythdbobnebpoolaa

namespace Go.Proofs.Ythdbobnebpoolaa
set_option linter.unusedSimpArgs false
set_option linter.unusedVariables false
open Go Go.RowKit

/-- The m elements (of 'size' cells each) at 'a' are the cells 'news'. -/
def Flat (w : World) (a : Option Addr) (m size : Nat) (news : List Value) : Prop := news.length = m * size ∧ (0 < news.length → ∃ ad, a = some ad ∧ ∀ j u, news[j]? = some u → w.cell? (ad.add j) = some u)
theorem addr_add (b off j : Nat) : (⟨b, off, none⟩ : Addr).add j = ⟨b, off + j, none⟩ := by unfold Addr.add; split <;> simp_all
theorem By.flat {w : World} {a : Option Addr} {n : Nat} {xs : List UInt8} (h : By w a n xs) : Flat w a n 1 (xs.map B) := by
  refine ⟨by simp [h.1], fun h0 => ?_⟩
  obtain ⟨b, off, rfl, hc⟩ := h.2 (by have := h.1; simp at h0; omega)
  refine ⟨_, rfl, fun j u hj => ?_⟩
  rw [List.getElem?_map] at hj
  cases hx : xs[j]? with
  | none => rw [hx] at hj; cases hj
  | some x =>
    rw [hx] at hj
    simp at hj
    have := hc j x hx
    rw [Nat.mul_one] at this
    rw [addr_add, ← hj]
    exact this
theorem flat_one (w : World) (x : Value) (ty : TypeId) : Flat (w.alloc (.cells #[x] ty)) (some ⟨w.heap.size, 0, none⟩) 1 1 [x] :=
  ⟨rfl, fun _ => ⟨_, rfl, fun j u hj => by
    have hj0 : j = 0 := by have := (List.getElem?_eq_some_iff.1 hj).1; simp at this; omega
    subst hj0
    simp at hj
    subst hj
    have := World.cell?_alloc_mark w #[x] ty (0, 0) 0
    exact this.trans (by simp)⟩⟩
theorem one_mem {x : Value} (h : x.oneCell' = true) : ∀ u ∈ [x], u.oneCell' = true := fun u hu => by simp at hu; subst hu; exact h
theorem grown_at {w w1 : World} {row : Option Nat} {p : Addr} {v : Value} (hg : GrownBy w w1 row) (hc : w.cell? p = some v) (hf : w.frozen? p = false) (hne : some p.block ≠ row) : w1.cell? p = some v ∧ w1.frozen? p = false :=
  ⟨hg.g.cell hc hne, (World.frozen?_of_block (hg.block _ (World.block_lt_of_cell? w p hc) hne)).trans hf⟩
theorem alloc_at {w : World} {p : Addr} {v : Value} (o : Obj) (hc : w.cell? p = some v) (hf : w.frozen? p = false) : (w.alloc o).cell? p = some v ∧ (w.alloc o).frozen? p = false :=
  ⟨(Ext.new w o).cell hc, ((Ext.new w o).frozen (World.block_lt_of_cell? w p hc)).trans hf⟩
theorem run_append_any {P : Program} {w : World} (base : Nat) (t ty e : TypeId) (i : TypeInfo) (z : Value) (size bytes : Nat) (ht : P.underlying t = some (.slice e)) (hi : P.info? e = some i) (hz : i.zero = some z)
    (hsize : i.size = size) (hby : i.bytes = bytes) (hzs : z.cells.size = size) (hsz : 0 < size)
    (v : Value) (n : Nat) (xs : List Value) (hown : w.ownsRow base e size v n xs)
    (a : Option Addr) (m c : Nat) (news : List Value) (hf : Flat w a m size news) (h1 : ∀ u ∈ news, u.oneCell' = true)
    (h63 : n + m ≤ maxLen) (hbytes : (n + m) * bytes ≤ 140737488355328) (hbase : base ≤ w.heap.size) :
    ∃ v' w', (Builtin.append_ #[t, t] ty #[v, .slice a m c]).run P w = .ok v' w' ∧ w'.ownsRow base e size v' (n + m) (xs ++ news) ∧ GrownBy w w' v.ownBlock := by
  by_cases h0 : 0 < m
  · obtain ⟨ad, rfl, hc⟩ := hf.2 (by rw [hf.1]; exact Nat.mul_pos h0 hsz)
    obtain ⟨v', w', hr, h2, h3, _⟩ := run_append_own (P := P) w base t ty e i z size bytes ht hi hz hsize hby hzs hsz v n xs hown ad m c news hf.1 hc h1 h63 hbytes hbase
    exact ⟨v', w', hr, h2, h3, .of (sem_drawn _ _ _ _ hr)⟩
  · obtain rfl : m = 0 := by omega
    have hn : news = [] := List.eq_nil_of_length_eq_zero (by rw [hf.1]; simp)
    subst hn
    cases a with
    | some ad =>
      obtain ⟨v', w', hr, h2, h3, _⟩ := run_append_own (P := P) w base t ty e i z size bytes ht hi hz hsize hby hzs hsz v n xs hown ad 0 c [] hf.1 (fun j u hj => by simp at hj) h1 h63 hbytes hbase
      exact ⟨v', w', hr, h2, h3, .of (sem_drawn _ _ _ _ hr)⟩
    | none =>
      refine ⟨v, w, ?_, by simpa using hown, ⟨rfl, rfl, rfl, Nat.le_refl _, fun _ _ _ => rfl⟩, .of (Nat.le_refl _)⟩
      rcases hown.2 with ⟨rfl, rfl⟩ | ⟨g, cap, cur, rfl, _, _, hnc, _⟩
      · simp [Builtin.append_, run_underlying ht, sizeOf, typeInfo, hi, Builtin.lenOf, Builtin.firstCells]
      · simp [Builtin.append_, run_underlying ht, sizeOf, typeInfo, hi, Builtin.lenOf, Builtin.firstCells, hnc, storeCells]
/-- Where the result of an append lies: where the slice lay, or in a new block. -/
theorem append_block {P : Program} {w w' : World} (base : Nat) (t ty e : TypeId) (i : TypeInfo) (z : Value) (size bytes : Nat) (ht : P.underlying t = some (.slice e)) (hi : P.info? e = some i) (hz : i.zero = some z)
    (hsize : i.size = size) (hby : i.bytes = bytes) (hsz : 0 < size)
    (v v' : Value) (n : Nat) (xs : List Value) (hown : w.ownsRow base e size v n xs)
    (a : Option Addr) (m c : Nat) (news : List Value) (hf : Flat w a m size news) (h1 : ∀ u ∈ news, u.oneCell' = true)
    (h63 : n + m ≤ maxLen) (hbytes : (n + m) * bytes ≤ 140737488355328)
    (hr : (Builtin.append_ #[t, t] ty #[v, .slice a m c]).run P w = .ok v' w') : v'.ownBlock = v.ownBlock ∨ v'.ownBlock = some w.heap.size := by
  subst hsize hby
  have hsmall : n + m ≤ 9223372036854775807 := by simp only [maxLen] at h63; omega
  have hout : ∀ {u : Value} {w1 : World}, (Builtin.append_ #[t, t] ty #[v, .slice a m c]).run P w = .ok u w1 → v' = u := fun h => by rw [h] at hr; injection hr with h2 _; exact h2.symm
  by_cases h0 : 0 < m
  · obtain ⟨ad, rfl, hc⟩ := hf.2 (by rw [hf.1]; exact Nat.mul_pos h0 hsz)
    rcases hown.2 with ⟨rfl, rfl⟩ | ⟨g, cap, cur, rfl, _, hg, hnc, _, hcs, htake⟩
    · have := run_append_nil (P := P) w t ty e i z ht hi hz ad m c news hf.1 hc h0 (by omega) (by have hb := hbytes; simp only [Nat.zero_add] at hb; omega)
      rw [hout this]; right; rfl
    · by_cases hroom : n + m ≤ cap
      · have hfit : n * i.size + news.length ≤ cur.size := by rw [hf.1, hcs, ← Nat.add_mul]; exact Nat.mul_le_mul_right _ hroom
        have := run_append_room (P := P) w t ty e i ht hi g n cap cur hg ad m c news hf.1 hc h1 hroom hfit
        rw [hout this]; left; rfl
      · have := run_append_grow (P := P) w t ty e i z ht hi hz ⟨g, 0, none⟩ n cap xs hown.1 (hown.cells (g := g) rfl) ad m c news hf.1 hc (by omega) (by omega) (growslice_fits (by omega) hbytes)
        rw [hout this]; right; rfl
  · obtain rfl : m = 0 := by omega
    have hn : news = [] := List.eq_nil_of_length_eq_zero (by rw [hf.1]; simp)
    subst hn
    rcases hown.2 with ⟨rfl, rfl⟩ | ⟨g, cap, cur, rfl, _, hg, hnc, _, hcs, htake⟩
    · cases a with
      | none =>
        have : (Builtin.append_ #[t, t] ty #[.slice none 0 0, .slice none 0 c]).run P w = .ok (.slice none 0 0) w := by
          simp [Builtin.append_, run_underlying ht, sizeOf, typeInfo, hi, Builtin.lenOf, Builtin.firstCells]
        rw [hout this]; left; rfl
      | some ad =>
        have : (Builtin.append_ #[t, t] ty #[.slice none 0 0, .slice (some ad) 0 c]).run P w = .ok (.slice none 0 0) w := by
          simp [Builtin.append_, run_underlying ht, sizeOf, typeInfo, hi, Builtin.lenOf, Builtin.firstCells, loadCells, loadCellsFrom]
        rw [hout this]; left; rfl
    · cases a with
      | none =>
        have : (Builtin.append_ #[t, t] ty #[.slice (some ⟨g, 0, none⟩) n cap, .slice none 0 c]).run P w = .ok (.slice (some ⟨g, 0, none⟩) n cap) w := by
          simp [Builtin.append_, run_underlying ht, sizeOf, typeInfo, hi, Builtin.lenOf, Builtin.firstCells, hnc, storeCells]
        rw [hout this]; left; rfl
      | some ad =>
        have := run_append_room (P := P) w t ty e i ht hi g n cap cur hg ad 0 c [] (by simp) (fun j u hj => by simp at hj) (fun u hu => by simp at hu) hnc (by simp; rw [hcs]; exact Nat.mul_le_mul_right _ hnc)
        rw [hout this]; left; rfl
theorem wpList_append_fp {P : Program} {w : World} {ops : Array Oper} {rest : List Oper} {o : Oper} {A : Act} {Q : Exit → Act → World → Prop} (hw : Region.wanted o (yielded ops A.tmps) = true) (s x : Operand) (t : TypeId)
    (ho : o.op = .call { callee := .builtin .append, args := #[s, x], argTypes := #[t, t] })
    (base : Nat) (e : TypeId) (i : TypeInfo) (z : Value) (size bytes : Nat) (ht : P.underlying t = some (.slice e)) (hi : P.info? e = some i) (hz : i.zero = some z)
    (hsize : i.size = size) (hby : i.bytes = bytes) (hzs : z.cells.size = size) (hsz : 0 < size)
    (v : Value) (n : Nat) (xs : List Value) (hs : A.eval s = v) (hown : w.ownsRow base e size v n xs)
    (a : Option Addr) (m c : Nat) (news : List Value) (hx : A.eval x = .slice a m c) (hf : Flat w a m size news) (h1 : ∀ u ∈ news, u.oneCell' = true)
    (h63 : n + m ≤ maxLen) (hbytes : (n + m) * bytes ≤ 140737488355328) (hbase : base ≤ w.heap.size)
    (h : ∀ v' w', w'.ownsRow base e size v' (n + m) (xs ++ news) → GrownBy w w' v.ownBlock → (v'.ownBlock = v.ownBlock ∨ v'.ownBlock = some w.heap.size) → wpList P ops Q rest (A.put o.dst v') w') : wpList P ops Q (o :: rest) A w := by
  obtain ⟨v', w', hr, h2, h3⟩ := run_append_any (P := P) base t o.type e i z size bytes ht hi hz hsize hby hzs hsz v n xs hown a m c news hf h1 h63 hbytes hbase
  have h4 := append_block (P := P) base t o.type e i z size bytes ht hi hz hsize hby hsz v v' n xs hown a m c news hf h1 h63 hbytes hr
  refine wpList_run hw ?_ (h v' w' h2 h3 h4)
  simp [execOp, ho, resolve, invoke, builtin, hs, hx, hr, Result.andThen]
theorem wpList_append_any {P : Program} {w : World} {ops : Array Oper} {rest : List Oper} {o : Oper} {A : Act} {Q : Exit → Act → World → Prop} (hw : Region.wanted o (yielded ops A.tmps) = true) (s x : Operand) (t : TypeId)
    (ho : o.op = .call { callee := .builtin .append, args := #[s, x], argTypes := #[t, t] })
    (base : Nat) (e : TypeId) (i : TypeInfo) (z : Value) (size bytes : Nat) (ht : P.underlying t = some (.slice e)) (hi : P.info? e = some i) (hz : i.zero = some z)
    (hsize : i.size = size) (hby : i.bytes = bytes) (hzs : z.cells.size = size) (hsz : 0 < size)
    (v : Value) (n : Nat) (xs : List Value) (hs : A.eval s = v) (hown : w.ownsRow base e size v n xs)
    (a : Option Addr) (m c : Nat) (news : List Value) (hx : A.eval x = .slice a m c) (hf : Flat w a m size news) (h1 : ∀ u ∈ news, u.oneCell' = true)
    (h63 : n + m ≤ maxLen) (hbytes : (n + m) * bytes ≤ 140737488355328) (hbase : base ≤ w.heap.size)
    (h : ∀ v' w', w'.ownsRow base e size v' (n + m) (xs ++ news) → GrownBy w w' v.ownBlock → wpList P ops Q rest (A.put o.dst v') w') : wpList P ops Q (o :: rest) A w := by
  obtain ⟨v', w', hr, h2, h3⟩ := run_append_any (P := P) base t o.type e i z size bytes ht hi hz hsize hby hzs hsz v n xs hown a m c news hf h1 h63 hbytes hbase
  refine wpList_run hw ?_ (h v' w' h2 h3)
  simp [execOp, ho, resolve, invoke, builtin, hs, hx, hr, Result.andThen]
theorem own_ext {w w' : World} {base size n : Nat} {e : TypeId} {v : Value} {xs : List Value} (h : w.ownsRow base e size v n xs) (hx : Ext w w') : w'.ownsRow base e size v n xs := by
  refine ⟨h.1, h.2.imp id ?_⟩
  rintro ⟨g, cap, cur, hv, hb, hg, r⟩
  exact ⟨g, cap, cur, hv, hb, hx.block hg, r⟩
theorem own_by {w : World} {base n : Nat} {e : TypeId} {v : Value} {xs : List UInt8} (h : w.ownsRow base e 1 v n (xs.map B)) : IsBy w v xs := by
  obtain ⟨h1, h2⟩ := h
  have hn : n = xs.length := by simpa using h1.symm
  subst hn
  rcases h2 with ⟨rfl, h0⟩ | ⟨g, cap, cur, rfl, hb, hg, hc, hm, hs, ht⟩
  · have : xs = [] := List.eq_nil_of_length_eq_zero h0
    subst this; exact IsBy.nil w
  · refine ⟨_, _, _, rfl, hc, hm, rfl, fun _ => ⟨g, 0, rfl, fun i x hi => ?_⟩⟩
    unfold byteR
    rw [cell_of_row w g _ cur e (0, 0) hg]
    have h3 : (xs.map B)[i]? = some (B x) := by simp [hi]
    rw [← ht, List.getElem?_take] at h3
    split at h3
    · simpa using h3
    · cases h3
theorem own_slice {w : World} {base n size : Nat} {e : TypeId} {v : Value} {xs : List Value} (h : w.ownsRow base e size v n xs) : ∃ a c, v = .slice a n c := by
  rcases h.2 with ⟨rfl, rfl⟩ | ⟨g, cap, cur, rfl, _⟩
  · exact ⟨_, _, rfl⟩
  · exact ⟨_, _, rfl⟩
theorem own_empty (w : World) (base : Nat) (e : TypeId) (b : Nat) (hb : b = w.heap.size) (hbase : base ≤ w.heap.size) : (w.alloc (.cells #[] e)).ownsRow base e 1 (.slice (some ⟨b, 0, none⟩) 0 0) 0 [] :=
  hb ▸ World.ownsRow_made w #[] 0 hbase (by simp [maxLen]) (by simp)
theorem B_one (xs : List UInt8) : ∀ u ∈ xs.map B, u.oneCell' = true := by
  intro u hu
  obtain ⟨x, _, rfl⟩ := List.mem_map.1 hu
  rfl
end Go.Proofs.Ythdbobnebpoolaa

namespace Go.Proofs.Ythdbobnebpoolaa
set_option linter.unusedSimpArgs false
set_option linter.unusedVariables false
open Go Go.RowKit

/-- What is outside the footprint is as it was. -/
structure MutO (fp : Nat → Prop) (w w' : World) : Prop where
  os : w'.os = w.os
  tape : w'.tape = w.tape
  output : w'.output = w.output
  size : w.heap.size ≤ w'.heap.size
  drawn : Dr w.drawn w'.drawn
  block : ∀ k, k < w.heap.size → ¬ fp k → w'.heap[k]? = w.heap[k]?
theorem MutO.refl (fp : Nat → Prop) (w : World) : MutO fp w w := ⟨rfl, rfl, rfl, Nat.le_refl _, .of (Nat.le_refl _), fun _ _ _ => rfl⟩
theorem MutO.of_ext {fp : Nat → Prop} {w w' : World} (h : Ext w w') : MutO fp w w' := ⟨h.os, h.tape, h.output, h.size, h.drawn, fun k hk _ => Below.block h.bel k hk⟩
theorem MutO.ext {fp : Nat → Prop} {w0 w w' : World} (h : Ext w0 w) (hm : MutO fp w w') (hf : ∀ k, fp k → w0.heap.size ≤ k) : Ext w0 w' :=
  ⟨⟨hm.os.trans h.os, hm.tape.trans h.tape, hm.output.trans h.output, Nat.le_trans h.size hm.size, fun k hk =>
    (hm.block k (Nat.lt_of_lt_of_le hk h.size) (fun hk' => by have := hf k hk'; omega)).trans (Below.block h.bel k hk)⟩, Dr.trans h.drawn hm.drawn⟩
theorem MutO.trans {fp fp' : Nat → Prop} {a b c : World} (h : MutO fp a b) (k : MutO fp' b c) (hf : ∀ i, i < a.heap.size → fp' i → fp i) : MutO fp a c :=
  ⟨k.os.trans h.os, k.tape.trans h.tape, k.output.trans h.output, Nat.le_trans h.size k.size, Dr.trans h.drawn k.drawn, fun i hi hn =>
    (k.block i (Nat.lt_of_lt_of_le hi h.size) (fun hx => hn (hf i hi hx))).trans (h.block i hi hn)⟩
theorem MutO.mono {fp fp' : Nat → Prop} {a b : World} (h : MutO fp a b) (hf : ∀ i, fp i → fp' i) : MutO fp' a b := ⟨h.os, h.tape, h.output, h.size, h.drawn, fun i hi hn => h.block i hi (fun hx => hn (hf i hx))⟩
theorem MutO.set {fp : Nat → Prop} {a w : World} (h : MutO fp a w) {p : Addr} (hp : fp p.block) (u : Value) : MutO fp a (w.setCell p u) :=
  h.trans (fp' := fp) ⟨rfl, rfl, rfl, by simp [World.setCell], .of (Nat.le_refl _), fun k _ hn => Below.heap_setCell _ _ _ _ (fun e => hn (e ▸ hp))⟩ (fun _ _ h => h)
theorem MutO.alloc {fp : Nat → Prop} {a w : World} (h : MutO fp a w) (o : Obj) : MutO fp a (w.alloc o) := h.trans (MutO.of_ext (Ext.new w o)) (fun _ _ h => h)
theorem MutO.drew {fp : Nat → Prop} {a w : World} (h : MutO fp a w) : MutO fp a w.drew := ⟨h.os, h.tape, h.output, h.size, Dr.trans h.drawn (.of (Nat.le_succ _)), h.block⟩
theorem MutO.grown {fp : Nat → Prop} {a w w' : World} {row : Option Nat} (h : MutO fp a w) (hg : GrownBy w w' row) (hr : ∀ k, row = some k → k < a.heap.size → fp k) : MutO fp a w' :=
  ⟨hg.os.trans h.os, hg.tape.trans h.tape, hg.output.trans h.output, Nat.le_trans h.size hg.size, Dr.trans h.drawn hg.drawn, fun k hk hn =>
    (hg.block k (Nat.lt_of_lt_of_le hk h.size) (fun e => hn (hr k e.symm hk))).trans (h.block k hk hn)⟩
end Go.Proofs.Ythdbobnebpoolaa

namespace Go.Proofs.Ythdbobnebpoolaa
set_option linter.unusedSimpArgs false
set_option linter.unusedVariables false
open Go Go.RowKit

/-- A piece of memory: P e s w: in w, with the blocks e of its own and the blocks s that are shared. -/
structure It where
  P : (Nat → Prop) → (Nat → Prop) → World → Prop
  st : ∀ {e s w w'}, P e s w → (∀ b, e b ∨ s b → w'.heap[b]? = w.heap[b]?) → P e s w'
  facts : World → Prop
  ok : ∀ {e s w}, P e s w → facts w
def nullI : It := ⟨fun _ _ _ => True, fun _ _ => trivial, fun _ => True, fun _ => trivial⟩

structure Foot (fr al : Nat → Prop) (w0 : World) (L : List It) (w : World) (e s : Nat → Nat → Prop) : Prop where
  holds : ∀ (i : Nat) (I : It), L[i]? = some I → I.P (e i) (s i) w
  lo : ∀ i b, i < L.length → (e i b ∨ s i b) → b < w.heap.size
  fr : ∀ i b, i < L.length → e i b → b < w0.heap.size → fr b
  al : ∀ i b, i < L.length → (e i b ∨ s i b) → b < w0.heap.size → al b
  ee : ∀ i j b, i < L.length → j < L.length → i ≠ j → e i b → ¬ e j b
  es : ∀ i j b, i < L.length → j < L.length → e i b → ¬ s j b
/-- Since w0 nothing but fr has changed; the pieces L lie apart; their old blocks are in al. -/
def Own (fr al : Nat → Prop) (w0 : World) (L : List It) (w : World) : Prop := MutO fr w0 w ∧ ∃ e s, Foot fr al w0 L w e s

section
variable {fr al : Nat → Prop} {w0 w w' : World} {L : List It}
theorem Own.start (fr al : Nat → Prop) (w : World) : Own fr al w [] w :=
  ⟨MutO.refl _ _, fun _ _ => False, fun _ _ => False, fun _ _ h => by simp at h, fun _ _ h => by simp at h, fun _ _ h => by simp at h, fun _ _ h => by simp at h, fun _ _ _ h => by simp at h, fun _ _ _ h => by simp at h⟩
theorem Own.mut (h : Own fr al w0 L w) : MutO fr w0 w := h.1
theorem Own.le (h : Own fr al w0 L w) : w0.heap.size ≤ w.heap.size := h.1.size
theorem Own.ext0 (h : Own (fun _ => False) al w0 L w) : Ext w0 w := ⟨⟨h.1.os, h.1.tape, h.1.output, h.1.size, fun k hk => h.1.block k hk (fun q => q)⟩, h.1.drawn⟩
theorem get_lt {L : List It} {i : Nat} {I : It} (h : L[i]? = some I) : i < L.length := (List.getElem?_eq_some_iff.1 h).1

/-- An item is changed, with blocks of its own and new ones. -/
theorem Foot.upd (hm : MutO fr w0 w) {e s : Nat → Nat → Prop} (F : Foot fr al w0 L w e s) {i : Nat} {I I' : It} (hi : L[i]? = some I)
    (h : I.P (e i) (s i) w → (∀ b, e i b ∨ s i b → b < w.heap.size) → (∀ b, e i b → ¬ s i b) → ∃ e' s' : Nat → Prop, I'.P e' s' w' ∧ (∀ b, e' b → b < w'.heap.size ∧ (e i b ∨ w.heap.size ≤ b)) ∧
      (∀ b, s' b → b < w'.heap.size ∧ (e i b ∨ s i b ∨ w.heap.size ≤ b)) ∧ (∀ b, e' b → ¬ s' b) ∧ MutO (e i) w w') : Own fr al w0 (L.set i I') w' := by
  have hil := get_lt hi
  obtain ⟨e', s', h1, h2, h3, h4, h5⟩ := h (F.holds i I hi) (fun b => F.lo i b hil) (fun b => F.es i i b hil hil)
  have hle := hm.size
  refine ⟨hm.trans h5 fun b hb he => F.fr i b hil he hb, fun j => if j = i then e' else e j, fun j => if j = i then s' else s j, ?_, ?_, ?_, ?_, ?_, ?_⟩
  · intro j J hj
    rw [List.getElem?_set] at hj
    by_cases hji : j = i
    · subst hji
      rw [if_pos rfl, if_pos hil] at hj
      injection hj with hj
      subst hj
      simp only [if_true]
      exact h1
    · rw [if_neg (Ne.symm hji)] at hj
      simp only [hji, if_false]
      have hjl := get_lt hj
      refine J.st (F.holds j J hj) fun b hb => h5.block b (F.lo j b hjl hb) fun he => ?_
      rcases hb with hb | hb
      · exact F.ee i j b hil hjl (Ne.symm hji) he hb
      · exact F.es i j b hil hjl he hb
  · intro j b hj hb
    rw [List.length_set] at hj
    by_cases hji : j = i
    · subst hji
      simp only [if_true] at hb
      rcases hb with hb | hb
      · exact (h2 b hb).1
      · exact (h3 b hb).1
    · simp only [hji, if_false] at hb
      exact Nat.lt_of_lt_of_le (F.lo j b hj hb) h5.size
  · intro j b hj hb hb0
    rw [List.length_set] at hj
    by_cases hji : j = i
    · subst hji
      simp only [if_true] at hb
      rcases (h2 b hb).2 with q | q
      · exact F.fr j b hj q hb0
      · omega
    · simp only [hji, if_false] at hb
      exact F.fr j b hj hb hb0
  · intro j b hj hb hb0
    rw [List.length_set] at hj
    by_cases hji : j = i
    · subst hji
      simp only [if_true] at hb
      rcases hb with hb | hb
      · rcases (h2 b hb).2 with q | q
        · exact F.al j b hj (.inl q) hb0
        · omega
      · rcases (h3 b hb).2 with q | q | q
        · exact F.al j b hj (.inl q) hb0
        · exact F.al j b hj (.inr q) hb0
        · omega
    · simp only [hji, if_false] at hb
      exact F.al j b hj hb hb0
  · intro j k b hj hk hjk hb hb'
    rw [List.length_set] at hj hk
    by_cases hji : j = i
    · subst hji
      have hkj : k ≠ j := Ne.symm hjk
      simp only [if_true, hkj, if_false] at hb hb'
      rcases (h2 b hb).2 with q | q
      · exact F.ee j k b hj hk hjk q hb'
      · have := F.lo k b hk (.inl hb'); omega
    · by_cases hki : k = i
      · subst hki
        simp only [hji, if_true, if_false] at hb hb'
        rcases (h2 b hb').2 with q | q
        · exact F.ee j k b hj hk hjk hb q
        · have := F.lo j b hj (.inl hb); omega
      · simp only [hji, hki, if_false] at hb hb'
        exact F.ee j k b hj hk hjk hb hb'
  · intro j k b hj hk hb hb'
    rw [List.length_set] at hj hk
    by_cases hji : j = i
    · subst hji
      by_cases hki : k = j
      · subst hki
        simp only [if_true] at hb hb'
        exact h4 b hb hb'
      · simp only [if_true, hki, if_false] at hb hb'
        rcases (h2 b hb).2 with q | q
        · exact F.es j k b hj hk q hb'
        · have := F.lo k b hk (.inr hb'); omega
    · by_cases hki : k = i
      · subst hki
        simp only [hji, if_true, if_false] at hb hb'
        rcases (h3 b hb').2 with q | q | q
        · exact F.ee j k b hj hk hji hb q
        · exact F.es j k b hj hk hb q
        · have := F.lo j b hj (.inl hb); omega
      · simp only [hji, hki, if_false] at hb hb'
        exact F.es j k b hj hk hb hb'

theorem Own.upd (st : Own fr al w0 L w) {i : Nat} {I I' : It} (hi : L[i]? = some I)
    (h : ∀ e s : Nat → Prop, I.P e s w → (∀ b, e b ∨ s b → b < w.heap.size) → (∀ b, e b → ¬ s b) → ∃ e' s' : Nat → Prop, I'.P e' s' w' ∧ (∀ b, e' b → b < w'.heap.size ∧ (e b ∨ w.heap.size ≤ b)) ∧
      (∀ b, s' b → b < w'.heap.size ∧ (e b ∨ s b ∨ w.heap.size ≤ b)) ∧ (∀ b, e' b → ¬ s' b) ∧ MutO e w w') : Own fr al w0 (L.set i I') w' :=
  let ⟨hm, _, _, F⟩ := st
  F.upd hm hi (h _ _)
/-- One item alone. -/
theorem Own.mk1 {w' : World} (hm : MutO fr w w') {I : It} {e s : Nat → Prop} (h1 : I.P e s w') (lo : ∀ b, e b ∨ s b → b < w'.heap.size) (hf : ∀ b, e b → b < w.heap.size → fr b) (ha : ∀ b, e b ∨ s b → b < w.heap.size → al b) (hd : ∀ b, e b → ¬ s b) : Own fr al w [I] w' := by
  have z : ∀ {j}, j < [I].length → j = 0 := fun h => by simpa using h
  refine ⟨hm, fun _ => e, fun _ => s, fun j J hj => ?_, fun j b _ => lo b, fun j b _ => hf b, fun j b _ => ha b, fun j k b hj hk hne => absurd ((z hj).trans (z hk).symm) hne, fun j k b _ _ => hd b⟩
  obtain rfl := z (get_lt hj)
  simp at hj; subst hj; exact h1
/-- A new item, of new blocks, or of what others share. -/
theorem Own.snoc (st : Own fr al w0 L w) (hx : Ext w w') {I : It} {e' s' : Nat → Prop} (h1 : I.P e' s' w') (h2 : ∀ b, e' b → b < w'.heap.size ∧ w.heap.size ≤ b)
    (h3 : ∀ b, s' b → b < w'.heap.size ∧ (w.heap.size ≤ b ∨ ((b < w0.heap.size → al b) ∧ ∀ f : Nat → Nat → Prop, ∀ t, Foot fr al w0 L w f t → ∀ i, i < L.length → ¬ f i b))) (h4 : ∀ b, e' b → ¬ s' b) : Own fr al w0 (L ++ [I]) w' := by
  obtain ⟨hm, e, s, F⟩ := st
  have hle := hm.size
  have hlen : ∀ {j}, j < (L ++ [I]).length → j < L.length ∨ j = L.length := fun {j} h => by simp at h; omega
  refine ⟨hm.trans (MutO.of_ext (fp := fun _ => False) hx) fun _ _ q => q.elim, fun j => if j < L.length then e j else e', fun j => if j < L.length then s j else s', ?_, ?_, ?_, ?_, ?_, ?_⟩
  · intro j J hj
    have hjl := get_lt hj
    rcases hlen hjl with h | h
    · rw [List.getElem?_append_left h] at hj
      simp only [h, if_true]
      exact J.st (F.holds j J hj) fun b hb => Below.block hx.bel b (F.lo j b h hb)
    · subst h
      simp at hj
      subst hj
      simp only [Nat.lt_irrefl, if_false]
      exact h1
  · intro j b hj hb
    rcases hlen hj with h | h
    · simp only [h, if_true] at hb
      exact Nat.lt_of_lt_of_le (F.lo j b h hb) hx.le
    · subst h
      simp only [Nat.lt_irrefl, if_false] at hb
      rcases hb with hb | hb
      · exact (h2 b hb).1
      · exact (h3 b hb).1
  · intro j b hj hb hb0
    rcases hlen hj with h | h
    · simp only [h, if_true] at hb
      exact F.fr j b h hb hb0
    · subst h
      simp only [Nat.lt_irrefl, if_false] at hb
      have := (h2 b hb).2; omega
  · intro j b hj hb hb0
    rcases hlen hj with h | h
    · simp only [h, if_true] at hb
      exact F.al j b h hb hb0
    · subst h
      simp only [Nat.lt_irrefl, if_false] at hb
      rcases hb with hb | hb
      · have := (h2 b hb).2; omega
      · rcases (h3 b hb).2 with q | q
        · omega
        · exact q.1 hb0
  · intro j k b hj hk hjk hb hb'
    rcases hlen hj with h | h <;> rcases hlen hk with h' | h'
    · simp only [h, h', if_true] at hb hb'
      exact F.ee j k b h h' hjk hb hb'
    · subst h'
      simp only [h, if_true, Nat.lt_irrefl, if_false] at hb hb'
      have := F.lo j b h (.inl hb); have := (h2 b hb').2; omega
    · subst h
      simp only [h', if_true, Nat.lt_irrefl, if_false] at hb hb'
      have := F.lo k b h' (.inl hb'); have := (h2 b hb).2; omega
    · omega
  · intro j k b hj hk hb hb'
    rcases hlen hj with h | h <;> rcases hlen hk with h' | h'
    · simp only [h, h', if_true] at hb hb'
      exact F.es j k b h h' hb hb'
    · subst h'
      simp only [h, if_true, Nat.lt_irrefl, if_false] at hb hb'
      rcases (h3 b hb').2 with q | q
      · have := F.lo j b h (.inl hb); omega
      · exact q.2 e s F j h hb
    · subst h
      simp only [h', if_true, Nat.lt_irrefl, if_false] at hb hb'
      have := F.lo k b h' (.inr hb'); have := (h2 b hb).2; omega
    · subst h; subst h'
      simp only [Nat.lt_irrefl, if_false] at hb hb'
      exact h4 b hb hb'
theorem Own.ext (st : Own fr al w0 L w) (hx : Ext w w') : Own fr al w0 L w' := by
  obtain ⟨hm, e, s, F⟩ := st
  exact ⟨hm.trans (MutO.of_ext (fp := fun _ => False) hx) fun _ _ q => q.elim, e, s, fun j J hj => J.st (F.holds j J hj) fun b hb => Below.block hx.bel b (F.lo j b (get_lt hj) hb),
    fun j b hj hb => Nat.lt_of_lt_of_le (F.lo j b hj hb) hx.le, F.fr, F.al, F.ee, F.es⟩
/-- A new item of new blocks. -/
theorem Own.new (st : Own fr al w0 L w) (hx : Ext w w') {I : It} {e' s' : Nat → Prop} (h1 : I.P e' s' w') (h2 : ∀ b, e' b → b < w'.heap.size ∧ w.heap.size ≤ b) (h3 : ∀ b, s' b → b < w'.heap.size ∧ w.heap.size ≤ b) (h4 : ∀ b, e' b → ¬ s' b) : Own fr al w0 (L ++ [I]) w' :=
  st.snoc hx h1 h2 (fun b hb => ⟨(h3 b hb).1, .inl (h3 b hb).2⟩) h4
/-- A new item of nothing. -/
theorem Own.bare (st : Own fr al w0 L w) {I : It} (h1 : I.P (fun _ => False) (fun _ => False) w) : Own fr al w0 (L ++ [I]) w :=
  st.new (Ext.refl w) h1 (fun _ q => q.elim) (fun _ q => q.elim) (fun _ q => q.elim)
/-- A new item of what another one shares. -/
theorem Own.share (st : Own fr al w0 L w) {i : Nat} {I I' : It} (hi : L[i]? = some I) (h : ∀ e s, I.P e s w → I'.P (fun _ => False) s w) : Own fr al w0 (L ++ [I']) w := by
  obtain ⟨hm, e, s, F⟩ := st
  have hil := get_lt hi
  have h1 := h _ _ (F.holds i I hi)
  have hlen : ∀ {j}, j < (L ++ [I']).length → j < L.length ∨ j = L.length := fun {j} h => by simp at h; omega
  refine ⟨hm, fun j => if j < L.length then e j else fun _ => False, fun j => if j < L.length then s j else s i, ?_, ?_, ?_, ?_, ?_, ?_⟩
  · intro j J hj
    have hjl := get_lt hj
    rcases hlen hjl with h | h
    · rw [List.getElem?_append_left h] at hj
      simp only [h, if_true]
      exact F.holds j J hj
    · subst h
      simp at hj
      subst hj
      simp only [Nat.lt_irrefl, if_false]
      exact h1
  · intro j b hj hb
    rcases hlen hj with h | h
    · simp only [h, if_true] at hb
      exact F.lo j b h hb
    · subst h
      simp only [Nat.lt_irrefl, if_false, false_or] at hb
      exact F.lo i b hil (.inr hb)
  · intro j b hj hb hb0
    rcases hlen hj with h | h
    · simp only [h, if_true] at hb
      exact F.fr j b h hb hb0
    · subst h
      simp only [Nat.lt_irrefl, if_false] at hb
  · intro j b hj hb hb0
    rcases hlen hj with h | h
    · simp only [h, if_true] at hb
      exact F.al j b h hb hb0
    · subst h
      simp only [Nat.lt_irrefl, if_false, false_or] at hb
      exact F.al i b hil (.inr hb) hb0
  · intro j k b hj hk hjk hb hb'
    rcases hlen hj with h | h <;> rcases hlen hk with h' | h'
    · simp only [h, h', if_true] at hb hb'
      exact F.ee j k b h h' hjk hb hb'
    · subst h'
      simp only [Nat.lt_irrefl, if_false] at hb'
    · subst h
      simp only [Nat.lt_irrefl, if_false] at hb
    · omega
  · intro j k b hj hk hb hb'
    rcases hlen hj with h | h <;> rcases hlen hk with h' | h'
    · simp only [h, h', if_true] at hb hb'
      exact F.es j k b h h' hb hb'
    · subst h'
      simp only [h, if_true, Nat.lt_irrefl, if_false] at hb hb'
      exact F.es j i b h hil hb hb'
    · subst h
      simp only [Nat.lt_irrefl, if_false] at hb
    · subst h
      simp only [Nat.lt_irrefl, if_false] at hb
/-- An item is seen as another one. -/
theorem Own.conv (st : Own fr al w0 L w) {i : Nat} {I I' : It} (hi : L[i]? = some I)
    (h : ∀ e s : Nat → Prop, I.P e s w → (∀ b, e b → ¬ s b) → ∃ e' s' : Nat → Prop, I'.P e' s' w ∧ (∀ b, e' b → e b) ∧ (∀ b, s' b → e b ∨ s b) ∧ (∀ b, e' b → ¬ s' b)) : Own fr al w0 (L.set i I') w :=
  st.upd hi fun e s h1 h2 h3 => by
    obtain ⟨e', s', q1, q2, q3, q4⟩ := h e s h1 h3
    exact ⟨e', s', q1, fun b hb => ⟨h2 b (.inl (q2 b hb)), .inl (q2 b hb)⟩, fun b hb => ⟨h2 b (q3 b hb), by rcases q3 b hb with q | q; exact .inl q; exact .inr (.inl q)⟩, q4, MutO.refl _ _⟩
theorem Own.get (st : Own fr al w0 L w) {i : Nat} {I : It} (hi : L[i]? = some I) : ∃ e s, I.P e s w ∧ (∀ b, e b ∨ s b → b < w.heap.size) ∧ ∀ b, e b → ¬ s b := by
  obtain ⟨hm, e, s, F⟩ := st
  exact ⟨_, _, F.holds i I hi, fun b => F.lo i b (get_lt hi), fun b => F.es i i b (get_lt hi) (get_lt hi)⟩
def factsOf : List It → World → Prop
  | [], _ => True
  | I :: L, w => I.facts w ∧ factsOf L w
theorem factsOf_all {L : List It} {w : World} (h : ∀ (i : Nat) (I : It), L[i]? = some I → I.facts w) : factsOf L w := by
  induction L with
  | nil => trivial
  | cons I L ih => exact ⟨h 0 I rfl, ih fun i J hi => h (i + 1) J (by simpa using hi)⟩
theorem Own.facts (st : Own fr al w0 L w) : factsOf L w := factsOf_all fun i I hi => let ⟨_, _, h, _⟩ := st.get hi; I.ok h

/-- Some of the items. -/
def pick (L : List It) (idx : List Nat) : List It := idx.map fun i => (L[i]?).getD nullI
/-- They came back as M; what M has more goes behind all. -/
def putIt (L : List It) (M : List It) : Nat → List Nat → List It
  | k, [] => L ++ M.drop k
  | k, i :: idx => putIt (L.set i ((M[k]?).getD nullI)) M (k + 1) idx
/-- Where an item of the new list comes from: the old list, or place k of M. -/
def srcOf (n : Nat) : Nat → List Nat → Nat → Nat ⊕ Nat
  | k, [], j => if j < n then .inl j else .inr (k + (j - n))
  | k, i :: idx, j => if idx.contains j = false ∧ j = i then .inr k else srcOf n (k + 1) idx j
theorem putIt_get (M : List It) : ∀ (idx : List Nat) (L : List It) (k j : Nat), (∀ i ∈ idx, i < L.length) → idx.Nodup → k + idx.length ≤ M.length →
    (putIt L M k idx)[j]? = match srcOf L.length k idx j with | .inl i => L[i]? | .inr m => M[m]?
  | [], L, k, j, _, _, hk => by
    simp only [putIt, srcOf]
    by_cases h : j < L.length
    · rw [if_pos h]; simp [List.getElem?_append_left h]
    · rw [if_neg h, List.getElem?_append_right (by omega), List.getElem?_drop]
  | i :: idx, L, k, j, hr, hn, hk => by
    have hn' := List.nodup_cons.1 hn
    have hkl : k < M.length := by simp at hk; omega
    have ih := putIt_get M idx (L.set i ((M[k]?).getD nullI)) (k + 1) j (fun q hq => by rw [List.length_set]; exact hr q (List.mem_cons_of_mem _ hq)) hn'.2 (by simp at hk; omega)
    rw [putIt, ih, List.length_set, srcOf]
    by_cases hji : j = i
    · subst hji
      have hc : idx.contains j = false := by simpa using hn'.1
      rw [if_pos ⟨hc, rfl⟩]
      have hs : ∀ (idx' : List Nat) (k' : Nat), idx'.contains j = false → srcOf L.length k' idx' j = .inl j := by
        intro idx'
        induction idx' with
        | nil => intro k' _; simp [srcOf, hr j (by simp)]
        | cons a t ih => intro k' h; simp at h; rw [srcOf, if_neg (fun q => h.1 q.2), ih _ (by simpa using h.2)]
      rw [hs idx _ hc]
      simp [hr j (by simp), List.getElem?_eq_getElem hkl]
    · rw [if_neg (fun q => hji q.2)]
      cases hsr : srcOf L.length (k + 1) idx j with
      | inl q =>
        simp only
        have hq : q = j := by
          have hs : ∀ (idx' : List Nat) (k' q : Nat), srcOf L.length k' idx' j = .inl q → q = j := by
            intro idx'
            induction idx' with
            | nil => intro k' q h; simp only [srcOf] at h; split at h; injection h with h; exact h.symm; cases h
            | cons a t ih => intro k' q h; rw [srcOf] at h; split at h; cases h; exact ih _ _ h
          exact hs _ _ _ hsr
        subst hq
        rw [List.getElem?_set, if_neg (Ne.symm hji)]
      | inr q => rfl
theorem srcOf_inl {n : Nat} : ∀ {idx : List Nat} {k j q : Nat}, srcOf n k idx j = .inl q → q = j ∧ j < n ∧ j ∉ idx
  | [], k, j, q, h => by
    simp only [srcOf] at h
    split at h
    · injection h with h; exact ⟨h.symm, by assumption, by simp⟩
    · cases h
  | i :: idx, k, j, q, h => by
    rw [srcOf] at h
    split at h
    · cases h
    · rename_i hne
      obtain ⟨h1, h2, h3⟩ := srcOf_inl h
      refine ⟨h1, h2, ?_⟩
      simp only [List.mem_cons, not_or]
      refine ⟨fun e => hne ⟨by simpa using h3, e⟩, h3⟩
theorem srcOf_inj {n : Nat} : ∀ {idx : List Nat} {k j j' m : Nat}, idx.Nodup → srcOf n k idx j = .inr m → srcOf n k idx j' = .inr m → j = j'
  | [], k, j, j', m, _, h, h' => by
    simp only [srcOf] at h h'
    split at h
    · cases h
    · split at h'
      · cases h'
      · injection h with h; injection h' with h'; omega
  | i :: idx, k, j, j', m, hn, h, h' => by
    have hlow : ∀ {idx : List Nat} {k j m : Nat}, srcOf n k idx j = .inr m → k ≤ m := by
      intro idx
      induction idx with
      | nil => intro k j m h; simp only [srcOf] at h; split at h; cases h; injection h with h; omega
      | cons a t ih => intro k j m h; rw [srcOf] at h; split at h; injection h with h; omega; have := ih h; omega
    have hn' := List.nodup_cons.1 hn
    rw [srcOf] at h h'
    split at h <;> split at h'
    · rename_i q q'; exact q.2.trans q'.2.symm
    · injection h with h; have := hlow h'; omega
    · injection h' with h'; have := hlow h; omega
    · exact srcOf_inj hn'.2 h h'
theorem pick_get (L : List It) (idx : List Nat) (k : Nat) (hr : ∀ i ∈ idx, i < L.length) (I : It) (h : (pick L idx)[k]? = some I) : ∃ i, idx[k]? = some i ∧ i < L.length ∧ L[i]? = some I := by
  unfold pick at h
  rw [List.getElem?_map] at h
  cases hk : idx[k]? with
  | none => rw [hk] at h; cases h
  | some i =>
    rw [hk] at h
    have hi := hr i (List.mem_of_getElem? hk)
    simp only [Option.map_some, List.getElem?_eq_getElem hi, Option.getD_some] at h
    exact ⟨i, rfl, hi, by rw [List.getElem?_eq_getElem hi]; exact h⟩
/-- THE FRAME RULE: a call that needs some of the items. -/
theorem Own.sub (st : Own fr al w0 L w) (idx : List Nat) (hn : idx.Nodup) (hr : ∀ i ∈ idx, i < L.length) :
    ∃ fr' al' : Nat → Prop, Own fr' al' w (pick L idx) w ∧ ∀ M w', idx.length ≤ M.length → Own fr' al' w M w' → Own fr al w0 (putIt L M 0 idx) w' := by
  obtain ⟨hm, e, s, F⟩ := st
  have hpl : (pick L idx).length = idx.length := by simp [pick]
  have hix : ∀ {k}, k < idx.length → idx.getD k 0 < L.length := fun {k} h => by
    rw [List.getD_eq_getElem?_getD, List.getElem?_eq_getElem h]; exact hr _ (List.getElem_mem h)
  have hxn : ∀ {k k'}, k < idx.length → k' < idx.length → k ≠ k' → idx.getD k 0 ≠ idx.getD k' 0 := fun {k k'} h h' hne he => by
    rw [List.getD_eq_getElem?_getD, List.getElem?_eq_getElem h, List.getD_eq_getElem?_getD, List.getElem?_eq_getElem h'] at he
    exact hne ((List.getElem_inj (h₀ := h) (h₁ := h') hn).1 (by simpa using he))
  refine ⟨fun b => ∃ i ∈ idx, e i b, fun b => ∃ i ∈ idx, e i b ∨ s i b, ⟨MutO.refl _ _, fun k => e (idx.getD k 0), fun k => s (idx.getD k 0), ?_, ?_, ?_, ?_, ?_, ?_⟩, ?_⟩
  · intro k I hk
    obtain ⟨i, h1, h2, h3⟩ := pick_get L idx k hr I hk
    rw [List.getD_eq_getElem?_getD, h1]
    exact F.holds i I h3
  · intro k b hk hb; rw [hpl] at hk; exact F.lo _ b (hix hk) hb
  · intro k b hk hb _; rw [hpl] at hk
    exact ⟨_, by rw [List.getD_eq_getElem?_getD, List.getElem?_eq_getElem hk]; exact List.getElem_mem hk, hb⟩
  · intro k b hk hb _; rw [hpl] at hk
    exact ⟨_, by rw [List.getD_eq_getElem?_getD, List.getElem?_eq_getElem hk]; exact List.getElem_mem hk, hb⟩
  · intro k k' b hk hk' hne hb; rw [hpl] at hk hk'; exact F.ee _ _ b (hix hk) (hix hk') (hxn hk hk' hne) hb
  · intro k k' b hk hk' hb; rw [hpl] at hk hk'; exact F.es _ _ b (hix hk) (hix hk') hb
  · rintro M w' hML ⟨hm', eM, sM, FM⟩
    have hle := hm.size
    have hget := fun j => putIt_get M idx L 0 j hr hn (by omega)
    have hsrc : ∀ {j}, j < (putIt L M 0 idx).length → (∃ m, srcOf L.length 0 idx j = .inr m ∧ m < M.length) ∨ (srcOf L.length 0 idx j = .inl j ∧ j < L.length ∧ j ∉ idx) := fun {j} hj => by
      have h1 := hget j
      rw [List.getElem?_eq_getElem hj] at h1
      cases hs : srcOf L.length 0 idx j with
      | inr m => rw [hs] at h1; exact .inl ⟨m, rfl, (List.getElem?_eq_some_iff.1 h1.symm).1⟩
      | inl q => obtain ⟨rfl, h2, h3⟩ := srcOf_inl hs; exact .inr ⟨rfl, h2, h3⟩
    -- an item that stays is far from what the call had
    have hfar : ∀ {j b}, j < L.length → j ∉ idx → (e j b ∨ s j b) → ¬ ∃ i ∈ idx, e i b := fun {j b} hj hji hb ⟨i, hi, he⟩ => by
      have hne : i ≠ j := fun q => hji (q ▸ hi)
      rcases hb with hb | hb
      · exact F.ee i j b (hr i hi) hj hne he hb
      · exact F.es i j b (hr i hi) hj he hb
    have hfar' : ∀ {j b}, j < L.length → j ∉ idx → e j b → ¬ ∃ i ∈ idx, e i b ∨ s i b := fun {j b} hj hji hb ⟨i, hi, he⟩ => by
      have hne : i ≠ j := fun q => hji (q ▸ hi)
      rcases he with he | he
      · exact F.ee i j b (hr i hi) hj hne he hb
      · exact F.es j i b hj (hr i hi) hb he
    refine ⟨hm.trans hm' fun b hb ⟨i, hi, he⟩ => F.fr i b (hr i hi) he hb, fun j => match srcOf L.length 0 idx j with | .inl i => e i | .inr m => eM m, fun j => match srcOf L.length 0 idx j with | .inl i => s i | .inr m => sM m, ?_, ?_, ?_, ?_, ?_, ?_⟩
    · intro j J hj
      have hjl := get_lt hj
      rw [hget j] at hj
      rcases hsrc hjl with ⟨m, h1, h2⟩ | ⟨h1, h2, h3⟩
      · simp only [h1] at hj ⊢
        exact FM.holds m J hj
      · simp only [h1] at hj ⊢
        exact J.st (F.holds j J hj) fun b hb => hm'.block b (F.lo j b h2 hb) (hfar h2 h3 hb)
    · intro j b hj hb
      rcases hsrc hj with ⟨m, h1, h2⟩ | ⟨h1, h2, h3⟩
      · simp only [h1] at hb
        exact FM.lo m b h2 hb
      · simp only [h1] at hb
        exact Nat.lt_of_lt_of_le (F.lo j b h2 hb) hm'.size
    · intro j b hj hb hb0
      rcases hsrc hj with ⟨m, h1, h2⟩ | ⟨h1, h2, h3⟩
      · simp only [h1] at hb
        obtain ⟨i, hi, he⟩ := FM.fr m b h2 hb (by omega)
        exact F.fr i b (hr i hi) he hb0
      · simp only [h1] at hb
        exact F.fr j b h2 hb hb0
    · intro j b hj hb hb0
      rcases hsrc hj with ⟨m, h1, h2⟩ | ⟨h1, h2, h3⟩
      · simp only [h1] at hb
        obtain ⟨i, hi, he⟩ := FM.al m b h2 hb (by omega)
        exact F.al i b (hr i hi) he hb0
      · simp only [h1] at hb
        exact F.al j b h2 hb hb0
    · intro j k b hj hk hjk hb hb'
      rcases hsrc hj with ⟨m, h1, h2⟩ | ⟨h1, h2, h3⟩ <;> rcases hsrc hk with ⟨m', h1', h2'⟩ | ⟨h1', h2', h3'⟩
      · simp only [h1, h1'] at hb hb'
        exact FM.ee m m' b h2 h2' (fun q => hjk (srcOf_inj hn h1 (q ▸ h1'))) hb hb'
      · simp only [h1, h1'] at hb hb'
        exact hfar h2' h3' (.inl hb') (FM.fr m b h2 hb (F.lo k b h2' (.inl hb')))
      · simp only [h1, h1'] at hb hb'
        exact hfar h2 h3 (.inl hb) (FM.fr m' b h2' hb' (F.lo j b h2 (.inl hb)))
      · simp only [h1, h1'] at hb hb'
        exact F.ee j k b h2 h2' hjk hb hb'
    · intro j k b hj hk hb hb'
      rcases hsrc hj with ⟨m, h1, h2⟩ | ⟨h1, h2, h3⟩ <;> rcases hsrc hk with ⟨m', h1', h2'⟩ | ⟨h1', h2', h3'⟩
      · simp only [h1, h1'] at hb hb'
        exact FM.es m m' b h2 h2' hb hb'
      · simp only [h1, h1'] at hb hb'
        exact hfar h2' h3' (.inr hb') (FM.fr m b h2 hb (F.lo k b h2' (.inr hb')))
      · simp only [h1, h1'] at hb hb'
        exact hfar' h2 h3 hb (FM.al m' b h2' (.inr hb') (F.lo j b h2 (.inl hb)))
      · simp only [h1, h1'] at hb hb'
        exact F.es j k b h2 h2' hb hb'
end
end Go.Proofs.Ythdbobnebpoolaa

namespace Go.Proofs.Ythdbobnebpoolaa.Rg
set_option linter.unusedSimpArgs false
set_option linter.unusedVariables false
open Go

def relUpon (P : Program) (R : Value → World → Prop) : Result Next → Prop
  | .ok (.value u) w' => R u w'
  | .ok .skip w' => R undef w'
  | .ok (.enter f args) w' => Calls P f args w' (fun e w'' => ∃ v, e = .returned v ∧ R v w'')
  | _ => False

/-- Operation 'o', carried out in 'w', leaves a value and a world that meet 'R'. -/
def relAt (P : Program) (o : Oper) (a : Act) (w : World) (R : Value → World → Prop) : Prop := relUpon P R ((execOp a.eval o).run P w)

section
variable {P : Program} {R : Value → World → Prop} {w : World}
@[go_sem] theorem relUpon_value (u : Value) : relUpon P R (.ok (.value u) w) = R u w := rfl
@[go_sem] theorem relUpon_skip : relUpon P R (.ok .skip w) = R undef w := rfl
@[go_sem] theorem relUpon_enter (f : FuncId) (args : Array Value) : relUpon P R (.ok (.enter f args) w) = Calls P f args w (fun e w'' => ∃ v, e = .returned v ∧ R v w'') := rfl
end
/-- Operation 'o' yields 'c' and leaves the world. -/
def stillAt (P : Program) (o : Oper) (a : Act) (w : World) (c : Value) : Prop := (execOp a.eval o).run P w = .ok (.value c) w

abbrev Facts := Nat → World → Prop
def upd (F : Facts) (k : Nat) (S : World → Prop) : Facts := fun i w => F i w ∧ (i = k → S w)
def none : Facts := fun _ _ => True
def bef (ops : Array Oper) (T : Array Nat) (k m : Nat) : Bool := decide (k < ops.size) && decide (m < ops.size) && (T.getD k 0).testBit m
def Pre (ops : Array Oper) (T : Array Nat) (F : Facts) (k : Nat) (w : World) : Prop := ∀ i, bef ops T k i = true → F i w
def All (F : Facts) (w : World) : Prop := ∀ i, F i w

section
variable (P : Program) (ops : Array Oper) (T : Array Nat) (Rel : World → World → Prop) (w0 : World) (sp : Nat → Option (Value → World → Prop)) (Q : Act → World → Prop)

end

def befOk (ops : Array Oper) (T : Array Nat) : Bool :=
  (List.range ops.size).all fun k => (List.range ops.size).all fun m => !(T.getD k 0).testBit m ||
    match ops[k]? with
    | .some o => o.after.any (fun e => Region.binds .any e && (e.on == m || (decide (e.on < ops.size) && (T.getD e.on 0).testBit m)))
    | .none => false

def Closed (ops : Array Oper) (T : Array Nat) (listed : Array Bool) : Prop := ∀ k m, listed.getD k false = true → bef ops T k m = true → listed.getD m false = true
def StableF (Rel : World → World → Prop) (F : Facts) : Prop := ∀ i w w', Rel w w' → F i w → F i w'

section
variable {P : Program} {ops : Array Oper} {T : Array Nat} {Rel : World → World → Prop} {w0 : World} {sp : Nat → Option (Value → World → Prop)} {Q : Act → World → Prop}

theorem bef_spec (hB : befOk ops T = true) {k m : Nat} {o : Oper} (hk : ops[k]? = .some o) (h : bef ops T k m = true) :
    ∃ e ∈ o.after, Region.binds .any e = true ∧ (e.on = m ∨ bef ops T e.on m = true) := by
  unfold bef at h
  simp only [Bool.and_eq_true, decide_eq_true_eq] at h
  obtain ⟨⟨h1, h2⟩, h3⟩ := h
  unfold befOk at hB
  rw [List.all_eq_true] at hB
  have h4 := hB k (List.mem_range.2 h1)
  rw [List.all_eq_true] at h4
  have h5 := h4 m (List.mem_range.2 h2)
  simp only [h3, Bool.not_true, Bool.false_or, hk] at h5
  obtain ⟨e, he, hb⟩ := Array.any_eq_true'.1 h5
  simp only [Bool.and_eq_true, Bool.or_eq_true, beq_iff_eq, decide_eq_true_eq] at hb
  refine ⟨e, he, hb.1, hb.2.imp id fun h => ?_⟩
  unfold bef
  rw [h.2, decide_eq_true h.1, decide_eq_true h2]; rfl

theorem bef_listed (hB : befOk ops T = true) {listed : Array Bool} (hc : Closed ops T listed) {k m : Nat} (hk : k ∈ Region.ready .any ops listed) (h : bef ops T k m = true) :
    listed.getD m false = true := by
  obtain ⟨_, o, ho, hall⟩ := mem_ready.1 hk
  obtain ⟨e, he, hb, h2⟩ := bef_spec hB ho h
  rcases h2 with rfl | h2
  · exact hall e he hb
  · exact hc _ _ (hall e he hb) h2

theorem not_bef (hB : befOk ops T = true) {listed : Array Bool} (hc : Closed ops T listed) {k m : Nat} (hk : k ∈ Region.ready .any ops listed) (hm : m ∈ Region.ready .any ops listed) :
    ¬ bef ops T k m = true := fun h => by
  have h1 := bef_listed hB hc hk h
  have h0 := (mem_ready.1 hm).1
  rcases Nat.lt_or_ge m listed.size with h' | h'
  · simp [h'] at h0 h1; rw [h0] at h1; cases h1
  · simp [Array.getElem?_eq_none h'] at h1

theorem closed_set (hB : befOk ops T = true) {listed : Array Bool} (hc : Closed ops T listed) {k : Nat} (hk : k ∈ Region.ready .any ops listed) :
    Closed ops T (listed.setIfInBounds k true) := fun i m hi hb => by
  by_cases hik : i = k
  · subst hik; exact getD_set_true (bef_listed hB hc hk hb)
  · rw [getD_set_ne false (Ne.symm hik)] at hi
    exact getD_set_true (hc i m hi hb)

theorem pre_upd {F : Facts} {k m : Nat} {S : World → Prop} {w : World} (h : ¬ bef ops T m k = true) : Pre ops T (upd F k S) m w ↔ Pre ops T F m w :=
  ⟨fun hp i hi => (hp i hi).1, fun hp i hi => ⟨hp i hi, fun e => absurd (e ▸ hi) h⟩⟩
theorem upd_comm (F : Facts) (i j : Nat) (S S' : World → Prop) : upd (upd F i S) j S' = upd (upd F j S') i S := by
  funext k w
  unfold upd
  exact propext ⟨fun ⟨⟨a, b⟩, c⟩ => ⟨⟨a, c⟩, b⟩, fun ⟨⟨a, b⟩, c⟩ => ⟨⟨a, c⟩, b⟩⟩
theorem stable_upd {F : Facts} {k : Nat} {S : World → Prop} (hF : StableF Rel F) (hS : ∀ w w', Rel w w' → S w → S w') : StableF Rel (upd F k S) :=
  fun i w w' hr ⟨h1, h2⟩ => ⟨hF i w w' hr h1, fun e => hS w w' hr (h2 e)⟩
theorem relUpon_exists {R : Value → World → Prop} {r : Result Next} (hr : relUpon P R r) : ∃ v w, R v w := by
  cases r with
  | halt x w => exact hr.elim
  | ok n w =>
    cases n with
    | value u => exact ⟨_, _, hr⟩
    | skip => exact ⟨_, _, hr⟩
    | enter f args => obtain ⟨e, w', fr, ⟨v, _, hv⟩, _⟩ := hr []; exact ⟨_, _, hv⟩
    | _ => exact hr.elim
theorem wp_of_rel {o : Oper} {a : Act} {w : World} {R : Value → World → Prop} {K : Act → World → Prop} {Q' : Exit → Act → World → Prop} (hr : relAt P o a w R) (h : ∀ v w', R v w' → K (a.put o.dst v) w') :
    o.wp P a w K Q' := by
  unfold relAt at hr
  unfold Oper.wp
  generalize (execOp a.eval o).run P w = r at *
  cases r with
  | halt x w => exact hr.elim
  | ok n w =>
    cases n with
    | value u => exact h _ _ hr
    | skip => exact h _ _ hr
    | enter f args =>
      simp only [Oper.upon]
      exact hr.mono fun e w' ⟨v, he, hv⟩ => by subst he; exact h _ _ hv
    | _ => exact hr.elim

section steps
variable {o : Oper} {rest : List Oper} {k : Nat} {F : Facts} {a : Act}
theorem relAt_value {R : Value → World → Prop} {w w' : World} {v : Value} (hr : (execOp a.eval o).run P w = .ok (.value v) w') (h : R v w') : relAt P o a w R := by
  unfold relAt; rw [hr]; exact h
theorem relAt_call {R : Value → World → Prop} {w : World} {f : FuncId} {args : Array Value} (hr : (execOp a.eval o).run P w = .ok (.enter f args) w) (h : Calls P f args w (fun e w'' => ∃ v, e = .returned v ∧ R v w'')) : relAt P o a w R := by
  unfold relAt; rw [hr]; exact h
end steps
end
/-- A property of a value and of memory that later steps keep. -/
structure Sp (Rel : World → World → Prop) where
  S : Value → World → Prop
  st : ∀ v w w', Rel w w' → S v w → S v w'
def Sp.val {Rel : World → World → Prop} (c : Value) : Sp Rel := ⟨fun v _ => v = c, fun _ _ _ _ h => h⟩
def spOf {Rel : World → World → Prop} : List (Nat × Sp Rel) → Nat → Option (Value → World → Prop)
  | [], _ => .none
  | (i, s) :: L, k => if k = i then .some s.S else spOf L k
theorem spOf_stable {Rel : World → World → Prop} : ∀ (L : List (Nat × Sp Rel)) (k : Nat) (S : Value → World → Prop), spOf L k = .some S → ∀ v w w', Rel w w' → S v w → S v w'
  | [], _, _, h => by cases h
  | (i, s) :: L, k, S, h => by
    unfold spOf at h
    split at h
    · injection h with h; subst h; exact s.st
    · exact spOf_stable L k S h
end Go.Proofs.Ythdbobnebpoolaa.Rg

namespace Go.Proofs.Ythdbobnebpoolaa
set_option linter.unusedSimpArgs false
set_option linter.unusedVariables false
open Go Go.RowKit

theorem get0 {x0 : It} {l : List It} : (x0 :: l)[0]? = some x0 := rfl
theorem get1 {x0 x1 : It} {l : List It} : (x0 :: x1 :: l)[1]? = some x1 := rfl
theorem get2 {x0 x1 x2 : It} {l : List It} : (x0 :: x1 :: x2 :: l)[2]? = some x2 := rfl
theorem get3 {x0 x1 x2 x3 : It} {l : List It} : (x0 :: x1 :: x2 :: x3 :: l)[3]? = some x3 := rfl
theorem get4 {x0 x1 x2 x3 x4 : It} {l : List It} : (x0 :: x1 :: x2 :: x3 :: x4 :: l)[4]? = some x4 := rfl
theorem get5 {x0 x1 x2 x3 x4 x5 : It} {l : List It} : (x0 :: x1 :: x2 :: x3 :: x4 :: x5 :: l)[5]? = some x5 := rfl
theorem get6 {x0 x1 x2 x3 x4 x5 x6 : It} {l : List It} : (x0 :: x1 :: x2 :: x3 :: x4 :: x5 :: x6 :: l)[6]? = some x6 := rfl
theorem get7 {x0 x1 x2 x3 x4 x5 x6 x7 : It} {l : List It} : (x0 :: x1 :: x2 :: x3 :: x4 :: x5 :: x6 :: x7 :: l)[7]? = some x7 := rfl
theorem get8 {x0 x1 x2 x3 x4 x5 x6 x7 x8 : It} {l : List It} : (x0 :: x1 :: x2 :: x3 :: x4 :: x5 :: x6 :: x7 :: x8 :: l)[8]? = some x8 := rfl
theorem get9 {x0 x1 x2 x3 x4 x5 x6 x7 x8 x9 : It} {l : List It} : (x0 :: x1 :: x2 :: x3 :: x4 :: x5 :: x6 :: x7 :: x8 :: x9 :: l)[9]? = some x9 := rfl
theorem get10 {x0 x1 x2 x3 x4 x5 x6 x7 x8 x9 x10 : It} {l : List It} : (x0 :: x1 :: x2 :: x3 :: x4 :: x5 :: x6 :: x7 :: x8 :: x9 :: x10 :: l)[10]? = some x10 := rfl
theorem get11 {x0 x1 x2 x3 x4 x5 x6 x7 x8 x9 x10 x11 : It} {l : List It} : (x0 :: x1 :: x2 :: x3 :: x4 :: x5 :: x6 :: x7 :: x8 :: x9 :: x10 :: x11 :: l)[11]? = some x11 := rfl
def blkFacts (w : World) (b : Nat) : Nat → List Value → Prop
  | _, [] => True
  | i, v :: vs => w.cell? ⟨b, i, none⟩ = some v ∧ blkFacts w b (i + 1) vs
theorem blkFacts_of {w : World} {b : Nat} : ∀ (vs : List Value) (i : Nat), (∀ j, j < vs.length → w.cell? ⟨b, i + j, none⟩ = vs[j]?) → blkFacts w b i vs
  | [], _, _ => trivial
  | v :: vs, i, h => ⟨by have := h 0 (by simp); simpa using this, blkFacts_of vs (i + 1) fun j hj => by
      have := h (j + 1) (by simp; omega)
      rw [show i + 1 + j = i + (j + 1) by omega]; simpa using this⟩
/-- A block of one's own, whole: the cells vs. -/
def blkI (b : Nat) (vs : List Value) : It where
  P e _ w := e b ∧ Blk w b vs
  st := fun ⟨h1, ty, h2⟩ hag => ⟨h1, ty, by rw [hag b (.inl h1)]; exact h2⟩
  facts w := blkFacts w b 0 vs
  ok := fun ⟨_, h⟩ => blkFacts_of _ 0 fun j _ => by rw [Nat.zero_add]; exact h.cell j
theorem row_agree {w w' : World} {E : TypeId} {size n : Nat} {v : Value} {xs : List Value} (h : w.ownsRow 0 E size v n xs) (hag : ∀ k, v.ownBlock = some k → w'.heap[k]? = w.heap[k]?) : w'.ownsRow 0 E size v n xs := by
  refine ⟨h.1, h.2.imp id ?_⟩
  rintro ⟨g, cap, cur, hv, hb, hg, r⟩
  exact ⟨g, cap, cur, hv, hb, by rw [hag g (by rw [hv]; rfl)]; exact hg, r⟩
/-- A slice of one's own that may grow: n elements of type E, the cells xs. -/
def rowI (E : TypeId) (size : Nat) (v : Value) (n : Nat) (xs : List Value) : It where
  P e _ w := w.ownsRow 0 E size v n xs ∧ ∀ k, v.ownBlock = some k → e k
  st := fun ⟨h1, h2⟩ hag => ⟨row_agree h1 fun k hk => hag k (.inl (h2 k hk)), h2⟩
  facts _ := True
  ok := fun _ => trivial
/-- A byte slice that is shared. -/
def byI (a : Option Addr) (n : Nat) (xs : List UInt8) : It where
  P _ s w := By w a n xs ∧ (0 < n → ∀ ad, a = some ad → s ad.block)
  st := by
    rintro e s w w' ⟨h1, h2⟩ hag
    refine ⟨⟨h1.1, fun h0 => ?_⟩, h2⟩
    obtain ⟨b, off, rfl, hc⟩ := h1.2 h0
    refine ⟨b, off, rfl, fun i x hi => ?_⟩
    have := hc i x hi
    unfold byteR at *
    rw [World.cell?_of_block (w := w) (hag b (.inr (h2 h0 _ rfl)))]
    exact this
  facts _ := True
  ok := fun _ => trivial
/-- What is shared, in whatever form. -/
structure Dat where
  Q : (Nat → Prop) → World → Prop
  st : ∀ {s w w'}, Q s w → (∀ b, s b → w'.heap[b]? = w.heap[b]?) → Q s w'
def datI (d : Dat) : It where
  P _ s w := d.Q s w
  st := fun h hag => d.st h fun b hb => hag b (.inr hb)
  facts _ := True
  ok := fun _ => trivial

/-- The memory of W0 is as it was, and is shared. -/
def oldI (W0 : World) : It where
  P _ s w := (∀ b, b < W0.heap.size → s b) ∧ W0.heap.size ≤ w.heap.size ∧ ∀ b, b < W0.heap.size → w.heap[b]? = W0.heap[b]?
  st := by
    rintro e s w w' ⟨h1, h2, h3⟩ hag
    refine ⟨h1, ?_, fun b hb => (hag b (.inr (h1 b hb))).trans (h3 b hb)⟩
    rcases Nat.eq_zero_or_pos W0.heap.size with q | q
    · omega
    · have e1 := hag (W0.heap.size - 1) (.inr (h1 _ (by omega)))
      have e2 : ∃ o, W0.heap[W0.heap.size - 1]? = some o := ⟨_, Array.getElem?_eq_getElem (by omega)⟩
      obtain ⟨o, e2⟩ := e2
      rw [h3 _ (by omega), e2] at e1
      have := (Array.getElem?_eq_some_iff.1 e1).1
      omega
  facts _ := True
  ok := fun _ => trivial
section
variable {fr al : Nat → Prop} {w0 w w' : World} {L : List It}
theorem Own.old (st : Own fr al w0 L w) {i : Nat} {W0 : World} (hi : L[i]? = some (oldI W0)) : W0.heap.size ≤ w.heap.size ∧ ∀ b, b < W0.heap.size → w.heap[b]? = W0.heap[b]? := let ⟨_, _, h, _⟩ := st.get hi; ⟨h.2.1, h.2.2⟩
theorem Own.oldCell (st : Own fr al w0 L w) {i : Nat} {W0 : World} (hi : L[i]? = some (oldI W0)) {p : Addr} {v : Value} (h : W0.cell? p = some v) : w.cell? p = some v := by
  rw [World.cell?_of_block (w := W0) ((st.old hi).2 _ (World.block_lt_of_cell? W0 p h))]
  exact h
theorem Own.oldBy (st : Own fr al w0 L w) {i : Nat} {W0 : World} (hi : L[i]? = some (oldI W0)) {A : Option Addr} {n : Nat} {xs : List UInt8} (h : By W0 A n xs) : By w A n xs :=
  ⟨h.1, fun h0 => let ⟨b, off, e, hc⟩ := h.2 h0; ⟨b, off, e, fun j x hj => st.oldCell hi (hc j x hj)⟩⟩
theorem Own.blk (st : Own fr al w0 L w) {i b : Nat} {vs : List Value} (hi : L[i]? = some (blkI b vs)) : Blk w b vs := let ⟨_, _, h, _⟩ := st.get hi; h.2
theorem Own.row (st : Own fr al w0 L w) {i n size : Nat} {E : TypeId} {v : Value} {xs : List Value} (hi : L[i]? = some (rowI E size v n xs)) : w.ownsRow 0 E size v n xs := let ⟨_, _, h, _⟩ := st.get hi; h.1
theorem Own.by (st : Own fr al w0 L w) {i n : Nat} {a : Option Addr} {xs : List UInt8} (hi : L[i]? = some (byI a n xs)) : By w a n xs := let ⟨_, _, h, _⟩ := st.get hi; h.1
theorem Own.alloc (st : Own fr al w0 L w) (cs : List Value) (T : TypeId) {b : Nat} (hb : b = w.heap.size) : Own fr al w0 (L ++ [blkI b cs]) (w.alloc (.cells cs.toArray T)) := by
  subst hb
  refine st.new (I := blkI w.heap.size cs) (e' := fun k => k = w.heap.size) (s' := fun _ => False) (Ext.new w _) ⟨rfl, Blk.new w cs T⟩ ?_ (fun _ q => q.elim) (fun _ _ q => q.elim)
  rintro b rfl
  exact ⟨by show _ < (w.heap.push _).size; simp, Nat.le_refl _⟩
theorem Own.drew (st : Own fr al w0 L w) : Own fr al w0 L w.drew := st.ext (Ext.refl w).drew
theorem Own.row_nil (st : Own fr al w0 L w) (E : TypeId) (size : Nat) : Own fr al w0 (L ++ [rowI E size (.slice none 0 0) 0 []]) w :=
  st.bare ⟨⟨by simp, .inl ⟨rfl, rfl⟩⟩, fun k hk => by simp [Value.ownBlock] at hk⟩
theorem Own.set (st : Own fr al w0 L w) {i b : Nat} {vs : List Value} (hi : L[i]? = some (blkI b vs)) (k : Nat) (v : Value) : Own fr al w0 (L.set i (blkI b (vs.set k v))) (w.setCell ⟨b, k, none⟩ v) :=
  st.upd hi fun e s ⟨h1, h2⟩ h3 h4 => ⟨e, s, ⟨h1, h2.set k v⟩, fun q hq => ⟨by simpa [World.setCell] using h3 q (.inl hq), .inl hq⟩, fun q hq => ⟨by simpa [World.setCell] using h3 q (.inr hq), .inr (.inl hq)⟩, h4, MutO.set (MutO.refl _ _) h1 _⟩
/-- Several cells. -/
def spl (vs : List Value) : Nat → List Value → List Value
  | _, [] => vs
  | k, c :: cs => spl (vs.set k c) (k + 1) cs
theorem spl_len (cs : List Value) : ∀ (vs : List Value) (k : Nat), (spl vs k cs).length = vs.length := by
  induction cs with
  | nil => intro vs k; rfl
  | cons c cs ih => intro vs k; rw [spl, ih]; simp
theorem Own.setCells (st : Own fr al w0 L w) {i b : Nat} {vs : List Value} (hi : L[i]? = some (blkI b vs)) (cs : List Value) (k : Nat) : Own fr al w0 (L.set i (blkI b (spl vs k cs))) (w.setCells b k cs) := by
  induction cs generalizing L w vs k with
  | nil =>
    have : L.set i (blkI b vs) = L := by
      apply List.ext_getElem?
      intro j
      rw [List.getElem?_set]
      split
      · rename_i h; subst h; rw [hi, if_pos (get_lt hi)]
      · rfl
    simpa [spl, World.setCells, this] using st
  | cons c cs ih =>
    have h1 := st.set hi k c
    have h2 := ih h1 (vs := vs.set k c) (k := k + 1) (by simp [List.getElem?_set, get_lt hi])
    rw [List.set_set] at h2
    exact h2
theorem run_storeAt_own {P : Program} {w : World} {b k : Nat} {vs : List Value} {v : Value} {T : TypeId} {cs : List Value} (h : Blk w b vs) (hcs : v.cells.toList = cs) (hT : (P.info? T).map (·.size) = some cs.length) (hk : k + cs.length ≤ vs.length) (h1 : cs.all (·.oneCell') = true) :
    (Instr.storeAt T (.pointer (some ⟨b, k, none⟩)) v).run P w = .ok () (w.setCells b k cs) := by
  subst hcs
  have := run_storeCells_cells (P := P) b k v.cells.toList 0 w (fun j hj => by rw [Nat.add_zero, h.cell, List.getElem?_eq_getElem (by omega)]; rfl) (fun j _ => h.free _) (fun u hu => (List.all_eq_true.1 h1) u hu)
  cases hq : P.info? T with
  | none => simp [hq] at hT
  | some i =>
    have hs : v.cells.size = i.size := by simp [hq] at hT; omega
    simp only [Nat.add_zero] at this
    simp [Instr.storeAt, Instr.sureAddr, storeVar, sizeOf, typeInfo, hq, hs, this]
end

section
variable {fr al : Nat → Prop} {w0 w : World} {L : List It} {P : Program} {o : Oper} {a : Act} {K : Act → World → Prop} {Q : Exit → Act → World → Prop}
/-- At a plain region's list. -/
theorem wpl_at {ops : Array Oper} {rest : List Oper} (hg : Region.wanted o (yielded ops a.tmps) = true) (h : ∀ K : Act → World → Prop, (∀ a w, wpList P ops Q rest a w → K a w) → o.wp P a w K Q) : wpList P ops Q (o :: rest) a w := by
  unfold wpList
  rw [if_pos hg]
  exact .inl (h _ fun _ _ q => q)
theorem wl_box {ops : Array Oper} {rest : List Oper} {d : Option Tmp} {T : TypeId} {x : Operand} {ty : TypeId} {pos : String} {af : Array Edge} {gd : Option (Nat × Bool)} (hg : Region.wanted ⟨d, .box T x, ty, pos, af, gd⟩ (yielded ops a.tmps) = true)
    (h : ∀ K : Act → World → Prop, (∀ a w, wpList P ops Q rest a w → K a w) → Oper.wp P ⟨d, .box T x, ty, pos, af, gd⟩ a w K Q) : wpList P ops Q (⟨d, .box T x, ty, pos, af, gd⟩ :: rest) a w := wpl_at hg h
theorem wl_alloc {ops : Array Oper} {rest : List Oper} {d : Option Tmp} {T : TypeId} {ty : TypeId} {pos : String} {af : Array Edge} {gd : Option (Nat × Bool)} (hg : Region.wanted ⟨d, .alloc T, ty, pos, af, gd⟩ (yielded ops a.tmps) = true)
    (h : ∀ K : Act → World → Prop, (∀ a w, wpList P ops Q rest a w → K a w) → Oper.wp P ⟨d, .alloc T, ty, pos, af, gd⟩ a w K Q) : wpList P ops Q (⟨d, .alloc T, ty, pos, af, gd⟩ :: rest) a w := wpl_at hg h
theorem wl_buildSlice {ops : Array Oper} {rest : List Oper} {d : Option Tmp} {T : TypeId} {m : Nat} {ps : Array (Nat × Operand)} {ty : TypeId} {pos : String} {af : Array Edge} {gd : Option (Nat × Bool)} (hg : Region.wanted ⟨d, .buildSlice T m ps, ty, pos, af, gd⟩ (yielded ops a.tmps) = true)
    (h : ∀ K : Act → World → Prop, (∀ a w, wpList P ops Q rest a w → K a w) → Oper.wp P ⟨d, .buildSlice T m ps, ty, pos, af, gd⟩ a w K Q) : wpList P ops Q (⟨d, .buildSlice T m ps, ty, pos, af, gd⟩ :: rest) a w := wpl_at hg h
theorem wl_store {ops : Array Oper} {rest : List Oper} {d : Option Tmp} {T : TypeId} {x y : Operand} {ty : TypeId} {pos : String} {af : Array Edge} {gd : Option (Nat × Bool)} (hg : Region.wanted ⟨d, .store T x y, ty, pos, af, gd⟩ (yielded ops a.tmps) = true)
    (h : ∀ K : Act → World → Prop, (∀ a w, wpList P ops Q rest a w → K a w) → Oper.wp P ⟨d, .store T x y, ty, pos, af, gd⟩ a w K Q) : wpList P ops Q (⟨d, .store T x y, ty, pos, af, gd⟩ :: rest) a w := wpl_at hg h
theorem wl_convert {ops : Array Oper} {rest : List Oper} {d : Option Tmp} {s t : TypeId} {x : Operand} {ty : TypeId} {pos : String} {af : Array Edge} {gd : Option (Nat × Bool)} (hg : Region.wanted ⟨d, .convert s t x, ty, pos, af, gd⟩ (yielded ops a.tmps) = true)
    (h : ∀ K : Act → World → Prop, (∀ a w, wpList P ops Q rest a w → K a w) → Oper.wp P ⟨d, .convert s t x, ty, pos, af, gd⟩ a w K Q) : wpList P ops Q (⟨d, .convert s t x, ty, pos, af, gd⟩ :: rest) a w := wpl_at hg h
theorem wl_append {ops : Array Oper} {rest : List Oper} {d : Option Tmp} {s x : Operand} {t : TypeId} {ty : TypeId} {pos : String} {af : Array Edge} {gd : Option (Nat × Bool)} (hg : Region.wanted ⟨d, .call { callee := .builtin .append, args := #[s, x], argTypes := #[t, t] }, ty, pos, af, gd⟩ (yielded ops a.tmps) = true)
    (h : ∀ K : Act → World → Prop, (∀ a w, wpList P ops Q rest a w → K a w) → Oper.wp P ⟨d, .call { callee := .builtin .append, args := #[s, x], argTypes := #[t, t] }, ty, pos, af, gd⟩ a w K Q) : wpList P ops Q (⟨d, .call { callee := .builtin .append, args := #[s, x], argTypes := #[t, t] }, ty, pos, af, gd⟩ :: rest) a w := wpl_at hg h
theorem owp_run {w' : World} {v : Value} (hr : (execOp a.eval o).run P w = .ok (.value v) w') (h : K (a.put o.dst v) w') : o.wp P a w K Q := by unfold Oper.wp; rw [hr]; exact h
theorem owp_store {T : TypeId} {x y : Operand} (ho : o.op = .store T x y) (st : Own fr al w0 L w)
    (h : ∃ ad v, a.eval x = .pointer (some ad) ∧ a.eval y = v ∧ ∃ (i b k : Nat) (vs cs : List Value), L[i]? = some (blkI b vs) ∧ ad = ⟨b, k, none⟩ ∧ v.cells.toList = cs ∧ (P.info? T).map (·.size) = some cs.length ∧ k + cs.length ≤ vs.length ∧ cs.all (·.oneCell') = true ∧
      ∀ w', Own fr al w0 (L.set i (blkI b (spl vs k cs))) w' → K (a.put o.dst undef) w') : o.wp P a w K Q := by
  obtain ⟨ad, v, hx, hy, i, b, k, vs, cs, hi, rfl, hcs, hT, hk, h1, h⟩ := h
  unfold Oper.wp execOp
  simp only [ho, hx, hy, Sem.run_bind, run_storeAt_own (P := P) (st.blk hi) hcs hT hk h1, Result.andThen, Sem.run_pure]
  exact h _ (st.setCells hi cs k)
theorem owp_box {T : TypeId} {x : Operand} (ho : o.op = .box T x) (st : Own fr al w0 L w)
    (h : ∃ v, a.eval x = v ∧ ∀ b w', w.heap.size ≤ b → Own fr al w0 (L ++ [blkI b v.cells.toList]) w' → K (a.put o.dst (.pointer (some ⟨b, 0, none⟩))) w') : o.wp P a w K Q := by
  obtain ⟨v, hx, h⟩ := h
  refine owp_run (v := .pointer (some ⟨w.heap.size, 0, none⟩)) (w' := w.alloc (.cells v.cells T)) ?_ (h _ _ (Nat.le_refl _) (by have := st.alloc v.cells.toList T rfl; simpa using this))
  unfold execOp
  simp only [ho, hx]
  simp [Instr.box, newVar, newRow, go_sem]
theorem owp_alloc {T : TypeId} (ho : o.op = .alloc T) (st : Own fr al w0 L w) (h : ∃ (cs : Array Value) (T' : TypeId), (execOp a.eval o).run P w = .ok (.value (.pointer (some ⟨w.heap.size, 0, none⟩))) (w.alloc (.cells cs T')) ∧
    ∀ b w', w.heap.size ≤ b → Own fr al w0 (L ++ [blkI b cs.toList]) w' → K (a.put o.dst (.pointer (some ⟨b, 0, none⟩))) w') : o.wp P a w K Q :=
  let ⟨cs, T', hr, h⟩ := h
  owp_run hr (h _ _ (Nat.le_refl _) (by have := st.alloc cs.toList T' rfl; simpa using this))
theorem owp_buildSlice {T : TypeId} {k : Nat} {ps : Array (Nat × Operand)} (ho : o.op = .buildSlice T k ps) (st : Own fr al w0 L w) (h : ∃ (m c : Nat) (cs : Array Value) (T' : TypeId), (execOp a.eval o).run P w = .ok (.value (.slice (some ⟨w.heap.size, 0, none⟩) m c)) (w.alloc (.cells cs T')) ∧
    ∀ b w', w.heap.size ≤ b → Own fr al w0 (L ++ [blkI b cs.toList]) w' → K (a.put o.dst (.slice (some ⟨b, 0, none⟩) m c)) w') : o.wp P a w K Q :=
  let ⟨_, _, cs, T', hr, h⟩ := h
  owp_run hr (h _ _ (Nat.le_refl _) (by have := st.alloc cs.toList T' rfl; simpa using this))
/-- append to a slice of one's own: the new elements are somewhere. -/
theorem owp_append {s x : Operand} {t : TypeId} (ho : o.op = .call { callee := .builtin .append, args := #[s, x], argTypes := #[t, t] }) (st : Own fr al w0 L w) (i : Nat) {E : TypeId} {inf : TypeInfo} {z v : Value} {size bytes n m c : Nat} {xs news : List Value} {A : Option Addr}
    (hi : L[i]? = some (rowI E size v n xs)) (ht : P.underlying t = some (.slice E)) (hinf : P.info? E = some inf) (hz : inf.zero = some z) (hsize : inf.size = size) (hby : inf.bytes = bytes) (hzs : z.cells.size = size) (hsz : 0 < size)
    (hs : a.eval s = v) (hx : a.eval x = .slice A m c) (hf : Flat w A m size news) (h1 : ∀ u ∈ news, u.oneCell' = true) (h63 : n + m ≤ maxLen) (hbytes : (n + m) * bytes ≤ 140737488355328)
    (h : ∀ v' w', Own fr al w0 (L.set i (rowI E size v' (n + m) (xs ++ news))) w' → K (a.put o.dst v') w') : o.wp P a w K Q := by
  have hown := st.row hi
  obtain ⟨v', w', hr, h2, h3⟩ := run_append_any (P := P) 0 t o.type E inf z size bytes ht hinf hz hsize hby hzs hsz v n xs hown A m c news hf h1 h63 hbytes (Nat.zero_le _)
  have h4 := append_block (P := P) 0 t o.type E inf z size bytes ht hinf hz hsize hby hsz v v' n xs hown A m c news hf h1 h63 hbytes hr
  refine owp_run (v := v') (w' := w') (by simp [execOp, ho, resolve, invoke, builtin, hs, hx, hr, Result.andThen]) (h v' w' ?_)
  refine st.upd hi fun e s ⟨_, q2⟩ q3 q4 => ⟨fun k => e k ∨ (w.heap.size ≤ k ∧ k < w'.heap.size), s, ⟨h2, fun k hk => ?_⟩, fun b hb => ?_, fun b hb => ⟨Nat.lt_of_lt_of_le (q3 b (.inr hb)) h3.size, .inr (.inl hb)⟩, fun b hb hb' => ?_, ?_⟩
  · rcases h4 with h | h
    · rw [h] at hk; exact .inl (q2 k hk)
    · rw [h] at hk; injection hk with hk; subst hk
      exact .inr ⟨Nat.le_refl _, (h2.lt _ h).2⟩
  · rcases hb with hb | hb
    · exact ⟨Nat.lt_of_lt_of_le (q3 b (.inl hb)) h3.size, .inl hb⟩
    · exact ⟨hb.2, .inr hb.1⟩
  · rcases hb with hb | hb
    · exact q4 b hb hb'
    · have := q3 b (.inr hb'); omega
  · exact MutO.grown (MutO.refl _ _) h3 fun k hk _ => q2 k hk
/-- The elements lie in a block of one's own. -/
theorem Blk.flat {w : World} {b size m : Nat} {vs : List Value} (h : Blk w b vs) (hm : vs.length = m * size) : Flat w (some ⟨b, 0, none⟩) m size vs :=
  ⟨hm, fun _ => ⟨_, rfl, fun j u hj => by rw [addr_add, Nat.zero_add, h.cell]; exact hj⟩⟩
end

section
variable {fr al : Nat → Prop} {w0 w : World} {L : List It}
/-- Some of the items stay; the others are forgotten. -/
theorem Own.keep (st : Own fr al w0 L w) (idx : List Nat) (hn : idx.Nodup) (hr : ∀ i ∈ idx, i < L.length) : Own fr al w0 (pick L idx) w := by
  obtain ⟨hm, e, s, F⟩ := st
  have hpl : (pick L idx).length = idx.length := by simp [pick]
  have hix : ∀ {k}, k < idx.length → idx.getD k 0 < L.length := fun {k} h => by
    rw [List.getD_eq_getElem?_getD, List.getElem?_eq_getElem h]; exact hr _ (List.getElem_mem h)
  have hxn : ∀ {k k'}, k < idx.length → k' < idx.length → k ≠ k' → idx.getD k 0 ≠ idx.getD k' 0 := fun {k k'} h h' hne he => by
    rw [List.getD_eq_getElem?_getD, List.getElem?_eq_getElem h, List.getD_eq_getElem?_getD, List.getElem?_eq_getElem h'] at he
    exact hne ((List.getElem_inj (h₀ := h) (h₁ := h') hn).1 (by simpa using he))
  refine ⟨hm, fun k => e (idx.getD k 0), fun k => s (idx.getD k 0), ?_, ?_, ?_, ?_, ?_, ?_⟩
  · intro k I hk
    obtain ⟨i, h1, h2, h3⟩ := pick_get L idx k hr I hk
    rw [List.getD_eq_getElem?_getD, h1]
    exact F.holds i I h3
  · intro k b hk hb; rw [hpl] at hk; exact F.lo _ b (hix hk) hb
  · intro k b hk hb hb0; rw [hpl] at hk; exact F.fr _ b (hix hk) hb hb0
  · intro k b hk hb hb0; rw [hpl] at hk; exact F.al _ b (hix hk) hb hb0
  · intro k k' b hk hk' hne hb; rw [hpl] at hk hk'; exact F.ee _ _ b (hix hk) (hix hk') (hxn hk hk' hne) hb
  · intro k k' b hk hk' hb; rw [hpl] at hk hk'; exact F.es _ _ b (hix hk) (hix hk') hb
/-- A shared byte slice of new blocks. -/
theorem Own.addBy (st : Own fr al w0 L w) {w' : World} (hx : Ext w w') {a : Option Addr} {n : Nat} {xs : List UInt8} (h : By w' a n xs) (hf : 0 < n → ∀ ad, a = some ad → w.heap.size ≤ ad.block) : Own fr al w0 (L ++ [byI a n xs]) w' := by
  refine st.new hx (e' := fun _ => False) (s' := fun b => 0 < n ∧ ∃ ad, a = some ad ∧ ad.block = b) ⟨h, fun h0 ad had => ⟨h0, ad, had, rfl⟩⟩ (fun _ q => q.elim) ?_ (fun _ q => q.elim)
  rintro b ⟨h0, ad, rfl, rfl⟩
  refine ⟨?_, hf h0 _ rfl⟩
  obtain ⟨b, off, hb, hc⟩ := h.2 h0
  cases hb
  exact World.block_lt_of_cell? w' _ (hc 0 _ (List.getElem?_eq_getElem (by have := h.1; omega)))
/-- A block of one's own is given away: it is shared from now on. -/
theorem Own.freeze (st : Own fr al w0 L w) {i b : Nat} {xs : List UInt8} (hi : L[i]? = some (blkI b (xs.map B))) : Own fr al w0 (L.set i (byI (some ⟨b, 0, none⟩) xs.length xs)) w :=
  st.conv hi fun e s ⟨h1, h2⟩ _ => ⟨fun _ => False, fun k => k = b, ⟨h2.by, fun _ ad had => by cases had; rfl⟩, fun _ q => q.elim, fun k hk => .inl (hk ▸ h1), fun _ q => q.elim⟩
end

section
variable {fr al : Nat → Prop} {w0 w : World} {L : List It} {P : Program} {o : Oper} {a : Act} {K : Act → World → Prop} {Q : Exit → Act → World → Prop}
/-- string(b) of a shared slice. -/
theorem owp_bs {src dst e : TypeId} {x : Operand} (ho : o.op = .convert src dst x) (st : Own fr al w0 L w) (i : Nat) {A : Option Addr} {n c : Nat} {xs : List UInt8} (hi : L[i]? = some (byI A n xs)) (hx : a.eval x = .slice A n c)
    (hs : P.underlying src = some (.slice e)) (he : P.underlying e = some (.int .u8)) (hd : P.underlying dst = some .string) (h : K (a.put o.dst (.string ⟨xs.toArray⟩)) w) : o.wp P a w K Q := by
  refine owp_run (v := S xs) (w' := w) ?_ h
  unfold execOp
  simp only [ho, hx, Sem.run_bind, conv_bs (P := P) (w := w) (c := c) hs he hd (st.by hi), Result.andThen, Sem.run_pure]
/-- []byte(s). -/
theorem owp_sb {src dst e : TypeId} {x : Operand} (ho : o.op = .convert src dst x) (st : Own fr al w0 L w) {xs : List UInt8} (hx : a.eval x = .string ⟨xs.toArray⟩)
    (hs : P.underlying src = some .string) (hd : P.underlying dst = some (.slice e)) (he : P.underlying e = some (.int .u8)) (hl : xs.length ≤ maxLen)
    (h : ∀ A c w', (xs.length ≤ c ∧ c ≤ maxLen) → Own fr al w0 (L ++ [byI A xs.length xs]) w' → K (a.put o.dst (.slice A xs.length c)) w') : o.wp P a w K Q := by
  have hr := run_bytes_of_string (P := P) w src dst e ⟨xs.toArray⟩ hs hd he
  obtain ⟨v, w', hr', ⟨A, n, c, rfl, h1, h2, h3⟩, hx'⟩ := conv_sb (P := P) (w := w) (src := src) (dst := dst) (e := e) xs hs hd he hl
  obtain rfl : n = xs.length := h3.1
  refine owp_run (v := .slice A xs.length c) (w' := w') ?_ (h A c w' ⟨h1, h2⟩ (st.addBy hx' h3 fun _ ad had => ?_))
  · unfold execOp
    simp only [ho, hx]
    rw [show (.string ⟨xs.toArray⟩ : Value) = S xs from rfl]
    simp only [Sem.run_bind, hr', Result.andThen, Sem.run_pure]
  · rw [show (.string ⟨xs.toArray⟩ : Value) = S xs from rfl] at hr
    rw [hr'] at hr
    injection hr with hr _
    injection hr with hr _ _
    rw [had] at hr
    injection hr with hr
    subst hr
    exact Nat.le_refl _
/-- A constant's bytes get their mark. -/
def unB : Value → UInt8
  | .int _ n => UInt8.ofNat n.toNat
  | _ => 0
/-- The memory at the start. -/
theorem Own.startOld (w : World) : Own (fun _ => False) (fun _ => True) w [oldI w] w := by
  have := (Own.start (fun _ => False) (fun _ => True) w).snoc (I := oldI w) (Ext.refl w) (e' := fun _ => False) (s' := fun b => b < w.heap.size) ⟨fun _ h => h, Nat.le_refl _, fun _ _ => rfl⟩ (fun _ q => q.elim)
    (fun b hb => ⟨hb, .inr ⟨fun _ => trivial, fun _ _ _ i hi => by simp at hi⟩⟩) (fun _ q => q.elim)
  simpa using this
/-- A datum of the old memory, as an item. -/
theorem Own.addOldBy (st : Own fr al w0 L w) {i : Nat} {W0 : World} (hi : L[i]? = some (oldI W0)) {A : Option Addr} {n : Nat} {xs : List UInt8} (h : By W0 A n xs) : Own fr al w0 (L ++ [byI A n xs]) w :=
  st.share hi fun e s h1 => ⟨st.oldBy hi h, fun h0 ad had => by
    obtain ⟨b, off, hb, hc⟩ := h.2 h0
    rw [had] at hb
    cases hb
    exact h1.1 _ (World.block_lt_of_cell? W0 _ (hc 0 _ (List.getElem?_eq_getElem (by have := h.1; omega))))⟩
end
/-- What a list of items comes to, for simp. -/
theorem nsl : (∀ (α : Type) (a : α) (l m : List α), (a :: l) ++ m = a :: (l ++ m)) ∧ (∀ (α : Type) (l : List α), [] ++ l = l) ∧ (∀ (α : Type) (l : List α), l ++ [] = l) ∧
    (∀ (α : Type) (i : Nat) (a : α), ([] : List α).set i a = []) ∧ (∀ (α : Type) (x a : α) (l : List α), (x :: l).set 0 a = a :: l) ∧ (∀ (α : Type) (x a : α) (l : List α) (n : Nat), (x :: l).set (n + 1) a = x :: l.set n a) ∧
    (∀ (vs : List Value) (k : Nat), spl vs k [] = vs) ∧ (∀ (vs : List Value) (k : Nat) (c : Value) (cs : List Value), spl vs k (c :: cs) = spl (vs.set k c) (k + 1) cs) ∧
    (∀ (L M : List It) (k : Nat), putIt L M k [] = L ++ M.drop k) ∧ (∀ (L M : List It) (k i : Nat) (idx : List Nat), putIt L M k (i :: idx) = putIt (L.set i ((M[k]?).getD nullI)) M (k + 1) idx) ∧
    (∀ (L : List It) (idx : List Nat), pick L idx = idx.map fun i => (L[i]?).getD nullI) ∧ (∀ (α β : Type) (f : α → β) (a : α) (l : List α), (a :: l).map f = f a :: l.map f) ∧ (∀ (α β : Type) (f : α → β), ([] : List α).map f = []) ∧
    (∀ (α : Type) (a : α) (l : List α), (a :: l)[0]? = some a) ∧ (∀ (α : Type) (a : α) (l : List α) (i : Nat), (a :: l)[i + 1]? = l[i]?) ∧ (∀ (α : Type) (a b : α), (some a).getD b = a) ∧
    (∀ (α : Type) (a : α) (l : List α) (i : Nat), (a :: l).drop (i + 1) = l.drop i) ∧ (∀ (α : Type) (l : List α), l.drop 0 = l) ∧ (∀ (α : Type) (i : Nat), ([] : List α).drop i = []) :=
  ⟨fun _ _ _ _ => rfl, fun _ _ => rfl, fun _ l => List.append_nil l, fun _ _ _ => rfl, fun _ _ _ _ => rfl, fun _ _ _ _ _ => rfl, fun _ _ => rfl, fun _ _ _ _ => rfl, fun _ _ _ => rfl, fun _ _ _ _ _ => rfl, fun _ _ => rfl, fun _ _ _ _ _ => rfl, fun _ _ _ => rfl,
    fun _ _ _ => rfl, fun _ _ _ _ => by simp, fun _ _ _ => rfl, fun _ _ _ _ => rfl, fun _ _ => rfl, fun _ i => by cases i <;> rfl⟩
/-- What the facts of items come to, for simp. -/
theorem nfl : (∀ w, factsOf [] w = True) ∧ (∀ I L w, factsOf (I :: L) w = (I.facts w ∧ factsOf L w)) ∧ (∀ b vs w, (blkI b vs).facts w = blkFacts w b 0 vs) ∧ (∀ w b i, blkFacts w b i [] = True) ∧ (∀ w b i v vs, blkFacts w b i (v :: vs) = (w.cell? ⟨b, i, none⟩ = some v ∧ blkFacts w b (i + 1) vs)) ∧
    (∀ E k v n xs w, (rowI E k v n xs).facts w = True) ∧ (∀ a n xs w, (byI a n xs).facts w = True) ∧ (∀ d w, (datI d).facts w = True) ∧ (∀ w, nullI.facts w = True) ∧ (∀ W w, (oldI W).facts w = True) ∧ (∀ n : Nat, 0 + n = n) ∧ (∀ p, (p ∧ True) = p) ∧ (∀ p, (True ∧ p) = p) ∧ (∀ p, (p ∧ p) = p) :=
  ⟨fun _ => rfl, fun _ _ _ => rfl, fun _ _ _ => rfl, fun _ _ _ => rfl, fun _ _ _ _ _ => rfl, fun _ _ _ _ _ _ => rfl, fun _ _ _ _ => rfl, fun _ _ => rfl, fun _ => rfl, fun _ _ => rfl, Nat.zero_add, and_true, true_and, and_self⟩
end Go.Proofs.Ythdbobnebpoolaa

namespace Go.Proofs.Ythdbobnebpoolaa.Rg
set_option linter.unusedSimpArgs false
set_option linter.unusedVariables false
open Go

/-- none: kind (a); some none: kind (c); some (some S): kind (b). -/
abbrev Kd := Option (Option (Value → World → Prop))

section
variable (P : Program) (ops : Array Oper) (T : Array Nat) (Rel : World → World → Prop) (Cl : World → Prop) (kd : Nat → Kd) (Q : Exit → Act → World → Prop)

end

def isB (kd : Nat → Kd) (k : Nat) : Bool := match kd k with | .some (.some _) => true | _ => false
def isC (kd : Nat → Kd) (k : Nat) : Bool := match kd k with | .some .none => true | _ => false
/-- Between a barrier and an operation of kind (b) the order is fixed. -/
def barB (ops : Array Oper) (T : Array Nat) (B C : List Nat) : Bool := C.all fun j => B.all fun i => bef ops T j i || bef ops T i j
section
variable {P : Program} {ops : Array Oper} {T : Array Nat} {Rel : World → World → Prop} {Cl : World → Prop} {kd : Nat → Kd} {Q : Exit → Act → World → Prop}

section steps
variable {w0 : World} {o : Oper} {rest : List (Nat × Oper)} {k : Nat} {F : Facts} {a : Act}
end steps
end
/-- The kinds: the listed specifications; the listed barriers; all else is of kind (a). -/
def kdOf {Rel : World → World → Prop} (Bs : List (Nat × Sp Rel)) (Cs : List Nat) (k : Nat) : Kd := if Cs.contains k then .some .none else (spOf Bs k).map .some
theorem kdOf_C {Rel : World → World → Prop} (Bs : List (Nat × Sp Rel)) (Cs : List Nat) (k : Nat) : isC (kdOf Bs Cs) k = Cs.contains k := by
  unfold isC kdOf
  cases h : Cs.contains k
  · simp only [Bool.false_eq_true, if_false]
    cases spOf Bs k <;> rfl
  · rfl
theorem kdOf_B {Rel : World → World → Prop} (Bs : List (Nat × Sp Rel)) (Cs : List Nat) (k : Nat) (h : isB (kdOf Bs Cs) k = true) : k ∈ Bs.map (·.1) := by
  unfold isB kdOf at h
  cases h' : Cs.contains k
  · rw [h'] at h
    simp only [Bool.false_eq_true, if_false] at h
    clear h'
    induction Bs with
    | nil => simp [spOf] at h
    | cons p Bs ih =>
      obtain ⟨i, s⟩ := p
      unfold spOf at h
      by_cases hk : k = i
      · simp [hk]
      · rw [if_neg hk] at h
        simp only [List.map_cons, List.mem_cons]
        exact .inr (ih h)
  · rw [h'] at h; simp at h
theorem kdOf_sp {Rel : World → World → Prop} (Bs : List (Nat × Sp Rel)) (Cs : List Nat) (k : Nat) (S : Value → World → Prop) (h : kdOf Bs Cs k = .some (.some S)) : ∀ v w w', Rel w w' → S v w → S v w' := by
  unfold kdOf at h
  split at h
  · cases h
  · cases hs : spOf Bs k with
    | none => rw [hs] at h; cases h
    | some S' =>
      rw [hs] at h
      injection h with h
      injection h with h
      subst h
      exact spOf_stable Bs k S' hs
/-- The operations in a lawful order of their own. -/
def inOrd (l : List Oper) (ord : List Nat) : List (Nat × Oper) := ord.filterMap fun k => (l[k]?).map fun o => (k, o)
theorem inOrd_mem {l : List Oper} {ord : List Nat} : ∀ p ∈ inOrd l ord, l.toArray[p.1]? = .some p.2 := by
  intro p hp
  unfold inOrd at hp
  rw [List.mem_filterMap] at hp
  obtain ⟨k, _, hk⟩ := hp
  cases h : l[k]? with
  | none => rw [h] at hk; cases hk
  | some o => rw [h] at hk; injection hk with hk; subst hk; simpa using h
end Go.Proofs.Ythdbobnebpoolaa.Rg

namespace Go.Proofs.Ythdbobnebpoolaa
set_option linter.unusedSimpArgs false
set_option linter.unusedVariables false
open Go Go.RowKit

set_option maxHeartbeats 400000 in
theorem clone_any (a : Option Addr) (n c : Nat) (xs : List UInt8) (w : World) (h : By w a n xs) (hc : n ≤ c ∧ c ≤ maxLen) (hn : n ≤ 140737488355328) :
    Calls Try.prog 77 #[.slice a n c] w fun e w' => ∃ v, e = .returned v ∧ w'.ownsRow w.heap.size 5 1 v n (xs.map B) ∧ Ext w w' := by
  obtain ⟨i0, hi, hz0, hz1, hz2⟩ := info_parts (P := Try.prog) (e := 5) (z := .int .u8 0) (size := 1) (bytes := 1) (by kernel_rfl)
  have HI := Lib.hid (And.intro hi (And.intro hz0 (And.intro hz1 hz2)))
  clear hi hz0 hz1 hz2
  have H := Lib.hid h; clear h
  have HC := Lib.hid hc; clear hc
  cases a with
  | none =>
    have hn0 : n = 0 := by
      rcases Nat.eq_zero_or_pos n with h | h
      · exact h
      · obtain ⟨b, off, h2, _⟩ := H.out.2 h; cases h2
    subst hn0
    have hx : xs = [] := List.eq_nil_of_length_eq_zero H.out.1.symm
    subst hx
    have he := fun w => Lib.run_eql_slice_nil (P := Try.prog) w 33 5 none 0 c 0 0 Try.underlying33
    go_enter Try.func77, Try.ntmps77
    go_wp2
    go_ret
    exact ⟨_, rfl, World.ownsRow_nil _ _ _ _, Ext.refl _⟩
  | some ad =>
    have he := fun w => Lib.run_eql_slice_nil (P := Try.prog) w 33 5 (some ad) n c 0 0 Try.underlying33
    go_enter Try.func77, Try.ntmps77
    go_wp2_with (refine wpList_append_any rfl (.tmp 5) (.tmp 6) 33 rfl w.heap.size 5 i0 (.int .u8 0) 1 1 Try.underlying33 HI.out.1 HI.out.2.1 HI.out.2.2.1 HI.out.2.2.2 rfl (by decide) _ 0 [] rfl (own_empty _ w.heap.size _ _ rfl (Nat.le_refl _)) _ _ _ (xs.map B) rfl (By.flat (H.out.ext (Ext.new _ _))) (B_one _) ?c1 ?c2 ?c3 ?c4)
    case c1 => simp only [maxLen]; omega
    case c2 => omega
    case c3 => simp
    intro v w1 hown hg
    have hx : Ext w w1 := (Ext.new w _).grown hg (fun k hk => by simp [Value.ownBlock] at hk; omega)
    have HO := Lib.hid (And.intro hown hx); clear hown hg hx
    go_wp2
    go_ret
    exact ⟨_, rfl, by have := HO.out.1; simpa using this, HO.out.2⟩
/-- The pen at block p has written xs; its bytes lie in block g. -/
def PenAt (w : World) (p : Nat) (g : Option Nat) (xs : List UInt8) : Prop := ∃ sv, Blk w p [sv] ∧ w.ownsRow 0 5 1 sv xs.length (xs.map B) ∧ sv.ownBlock = g ∧ g ≠ some p
/-- The pen's own blocks alone have changed; its bytes lie where they lay, or in a new block. -/
def PenStep (p : Nat) (w : World) (g : Option Nat) (w' : World) (g' : Option Nat) : Prop := MutO (fun k => k = p ∨ g = some k) w w' ∧ (g' = g ∨ ∃ k, g' = some k ∧ w.heap.size ≤ k)
theorem PenStep.refl (p : Nat) (w : World) (g : Option Nat) : PenStep p w g w g := ⟨MutO.refl _ _, .inl rfl⟩
theorem PenStep.trans {p : Nat} {w w1 w2 : World} {g g1 g2 : Option Nat} (h : PenStep p w g w1 g1) (k : PenStep p w1 g1 w2 g2) : PenStep p w g w2 g2 := by
  refine ⟨h.1.trans k.1 fun i hi hf => hf.imp id fun e => ?_, ?_⟩
  · rcases h.2 with h2 | ⟨j, h2, h3⟩
    · rw [← h2]; exact e
    · rw [h2] at e; injection e with e; omega
  · rcases k.2 with rfl | ⟨j, h2, h3⟩
    · exact h.2
    · exact .inr ⟨j, h2, Nat.le_trans h.1.size h3⟩
theorem PenStep.ext {p : Nat} {w0 w w' : World} {g g' : Option Nat} (h : PenStep p w g w' g') (hx : Ext w0 w) (hp : w0.heap.size ≤ p) (hg : ∀ k, g = some k → w0.heap.size ≤ k) : Ext w0 w' ∧ ∀ k, g' = some k → w0.heap.size ≤ k := by
  refine ⟨h.1.ext hx fun k hk => ?_, fun k hk => ?_⟩
  · rcases hk with rfl | hk
    · exact hp
    · exact hg k hk
  · rcases h.2 with h2 | ⟨j, h2, h3⟩
    · exact hg k (h2 ▸ hk)
    · rw [h2] at hk; injection hk with hk; subst hk; exact Nat.le_trans hx.le h3
theorem PenAt.cell {w : World} {p : Nat} {g : Option Nat} {xs : List UInt8} (h : PenAt w p g xs) : ∃ sv, w.cell? ⟨p, 0, none⟩ = some sv ∧ w.frozen? ⟨p, 0, none⟩ = false ∧ w.ownsRow 0 5 1 sv xs.length (xs.map B) ∧ sv.ownBlock = g ∧ g ≠ some p ∧ p < w.heap.size := by
  obtain ⟨sv, h1, h2, h3, h4⟩ := h
  exact ⟨sv, h1.cell 0, h1.free 0, h2, h3, h4, h1.lt⟩
theorem PenAt.mut {fp : Nat → Prop} {w w' : World} {p : Nat} {g : Option Nat} {xs : List UInt8} (h : PenAt w p g xs) (hm : MutO fp w w') (hp : ¬ fp p) (hg : ∀ k, g = some k → ¬ fp k) : PenAt w' p g xs := by
  obtain ⟨sv, ⟨ty, h1⟩, h2, h3, h4⟩ := h
  refine ⟨sv, ⟨ty, by rw [hm.block p (Array.getElem?_eq_some_iff.1 h1).1 hp]; exact h1⟩, ⟨h2.1, ?_⟩, h3, h4⟩
  rcases h2.2 with h5 | ⟨k, cap, cur, hv, hb, hk, r⟩
  · exact .inl h5
  · exact .inr ⟨k, cap, cur, hv, hb, by rw [hm.block k (Array.getElem?_eq_some_iff.1 hk).1 (hg k (by rw [← h3, hv]; rfl))]; exact hk, r⟩
/-- p.b = append(p.b, ys..), behind the append and the store. -/
theorem pen_put {w0 w w1 : World} {p : Nat} {g : Option Nat} {xs ys : List UInt8} {v' sv : Value} (h : PenAt w0 p g xs) (hx : Ext w0 w) (hsv : w0.cell? ⟨p, 0, none⟩ = some sv)
    (ho : w1.ownsRow 0 5 1 v' (xs.length + ys.length) (xs.map B ++ ys.map B)) (hg : GrownBy w w1 sv.ownBlock) (hb : v'.ownBlock = sv.ownBlock ∨ v'.ownBlock = some w.heap.size) :
    PenAt (w1.setCell ⟨p, 0, none⟩ v') p v'.ownBlock (xs ++ ys) ∧ PenStep p w0 g (w1.setCell ⟨p, 0, none⟩ v') v'.ownBlock := by
  obtain ⟨sv', h1, h2, h3, h4⟩ := h
  have e : sv' = sv := by have := h1.cell 0; rw [hsv] at this; simpa using this.symm
  subst e
  have hlt := h1.lt
  have hle := hx.le
  have hne : v'.ownBlock ≠ some p := by
    rcases hb with hb | hb
    · rw [hb, h3]; exact h4
    · rw [hb]; intro e; injection e with e; omega
  have hb1 : Blk w1 p [sv'] := by
    obtain ⟨ty, h5⟩ := h1
    refine ⟨ty, ?_⟩
    rw [hg.block p (by omega) (by rw [h3]; exact fun e => h4 e.symm)]
    exact hx.block h5
  refine ⟨⟨v', ?_, ?_, rfl, hne⟩, ?_, ?_⟩
  · have := hb1.set 0 v'; simpa using this
  · rw [List.length_append, List.map_append]
    refine ⟨ho.1, ?_⟩
    rcases ho.2 with h5 | ⟨k, cap, cur, hv, hb0, hk, r⟩
    · exact .inl h5
    · refine .inr ⟨k, cap, cur, hv, hb0, ?_, r⟩
      rw [Below.heap_setCell _ _ _ _ (fun e => hne (by rw [hv]; simp [Value.ownBlock, e]))]
      exact hk
  · refine MutO.set (MutO.grown (MutO.of_ext hx) hg fun k hk _ => ?_) (Or.inl rfl) _
    right; rw [← h3]; exact hk
  · rcases hb with hb | hb
    · exact .inl (hb.trans h3)
    · exact .inr ⟨_, hb, hle⟩

/-- A slice whose block is outside the footprint stays. -/
theorem By.mut {fp : Nat → Prop} {w w' : World} {a : Option Addr} {n : Nat} {xs : List UInt8} (h : By w a n xs) (hm : MutO fp w w') (ha : 0 < n → ∀ ad, a = some ad → ¬ fp ad.block) : By w' a n xs := by
  refine ⟨h.1, fun h0 => ?_⟩
  obtain ⟨b, off, rfl, hc⟩ := h.2 h0
  refine ⟨b, off, rfl, fun i x hi => ?_⟩
  have h1 := hc i x hi
  unfold byteR at *
  have hlt := World.block_lt_of_cell? w _ h1
  rw [World.cell?_of_block (w := w) (hm.block b hlt (ha h0 _ rfl))]
  exact h1
/-- The bytes of a number. -/
def numF : Nat → Nat → List UInt8
  | 0, _ => []
  | f + 1, n => if n < 128 then [UInt8.ofNat n] else UInt8.ofNat (128 + n % 128) :: numF f (n / 128)
def numB (n : Nat) : List UInt8 := numF 10 n
theorem numF_len (f n : Nat) : (numF f n).length ≤ f := by
  induction f generalizing n with
  | zero => simp [numF]
  | succ f ih => unfold numF; split <;> simp; exact ih _

theorem or_128 : ∀ x : Nat, x < 256 → x ||| 128 = 128 + x % 128 := by decide +kernel
theorem B_or (m : Nat) : Value.int .u8 (bits .or .u8 ((m : Int) % 256) 128) = B (UInt8.ofNat (128 + m % 128)) := by
  have h1 := u8_or_nat (m % 256) 128 (by omega) (by omega)
  rw [show (((m % 256 : Nat) : Int)) = (m : Int) % 256 by omega, show ((128 : Nat) : Int) = 128 by rfl, or_128 _ (by omega)] at h1
  rw [h1]
  unfold B
  congr 2
  simp
  omega
theorem B_nat (m : Nat) (h : m < 256) : Value.int .u8 (m : Int) = B (UInt8.ofNat m) := by
  unfold B; congr 2; simp; omega
theorem numF_more (f m : Nat) (h : 128 ≤ m) : numF (f + 1) m = UInt8.ofNat (128 + m % 128) :: numF f (m / 128) := by
  rw [numF, if_neg (by omega)]
theorem numF_last (f m : Nat) (h : ¬ 128 ≤ m) : numF (f + 1) m = [UInt8.ofNat m] := by
  rw [numF, if_pos (by omega)]

set_option maxRecDepth 100000 in
set_option maxHeartbeats 1000000 in
theorem penNumber_any (p : Nat) (g : Option Nat) (xs : List UInt8) (n : Nat) (w : World) (h : PenAt w p g xs) (hn : n < 9223372036854775808) (hl : xs.length ≤ 100000000) :
    Calls Try.prog 66 #[.pointer (some ⟨p, 0, none⟩), .int .i64 (n : Int)] w fun e w' => e = .returned (.bool true) ∧ ∃ g', PenAt w' p g' (xs ++ numB n) ∧ PenStep p w g w' g' := by
  obtain ⟨i0, hi, hz0, hz1, hz2⟩ := info_parts (P := Try.prog) (e := 5) (z := .int .u8 0) (size := 1) (bytes := 1) (by kernel_rfl)
  have HI := Lib.hid (And.intro hi (And.intro hz0 (And.intro hz1 hz2)))
  clear hi hz0 hz1 hz2
  have HP := Lib.hid h; clear h
  go_enter Try.func66, Try.ntmps66
  go_wp2
  go_loopw [1] (fun i wr => ∃ (k m : Nat) (done : List UInt8), m * 128 ^ k ≤ n ∧ k ≤ 9 ∧ i = .int .i64 (m : Int) ∧ numF 10 n = done ++ numF (10 - k) m ∧ ∃ g', PenAt wr p g' (xs ++ done) ∧ PenStep p w g wr g') (fun i _ => (intOf i).toNat)
  case atStart => exact ⟨0, n, [], by simp, by omega, rfl, by simp, g, by simpa using HP.out, PenStep.refl _ _ _⟩
  case round =>
    obtain ⟨k, m, done, hmk, hk, rfl, hnum, g', hpen, hstep⟩ := hrel
    have hm : m < 9223372036854775808 := by
      have h1 : m * 1 ≤ m * 128 ^ k := Nat.mul_le_mul_left m (Nat.one_le_pow _ _ (by decide))
      omega
    have hdl : done.length ≤ 10 := by
      have h1 := congrArg List.length hnum
      have h2 := numF_len 10 n
      rw [List.length_append] at h1
      omega
    obtain ⟨sv, hc, hf, ho, hsg, hgp, hplt⟩ := hpen.cell
    have HP' := Lib.hid hpen; clear hpen
    have HS := Lib.hid hstep; clear hstep
    have HO := Lib.hid ho; clear ho
    have HN := Lib.hid hnum; clear hnum
    have HK := Lib.hid hmk; clear hmk
    have HG := Lib.hid hsg; clear hsg
    have HG2 : Hid (some p ≠ g') := Lib.hid (fun e => hgp e.symm)
    clear hgp
    by_cases hlt : 128 ≤ m
    · go_wp2_with (refine wpList_append_fp rfl (.tmp 19) (.tmp 23) 33 rfl 0 5 i0 (.int .u8 0) 1 1 Try.underlying33 HI.out.1 HI.out.2.1 HI.out.2.2.1 HI.out.2.2.2 rfl (by decide) _ _ ((xs ++ done).map B) rfl (own_ext HO.out (Ext.new _ _)) _ 1 1 [_] rfl (flat_one _ _ _) (one_mem rfl) ?c1 ?c2 ?c3 ?c4)
      case c1 => simp [maxLen]; omega
      case c2 => simp; omega
      case c3 => omega
      intro v' w1 hown hgr hblk
      obtain ⟨va, vc, rfl⟩ := own_slice hown
      obtain ⟨hc0, hf0⟩ := alloc_at _ hc hf
      obtain ⟨hc1, hf1⟩ := grown_at hgr hc0 hf0 (by rw [HG.out]; exact HG2.out)
      have hput := pen_put (ys := [UInt8.ofNat (128 + m % 128)]) HP'.out (Ext.new _ _) hc (by rw [B_or] at hown; simpa [Nat.add_assoc] using hown) hgr (by simpa [Nat.add_assoc] using hblk)
      have HPut := Lib.hid hput
      clear hput hown hgr hblk hc0 hf0
      go_wp2
      go_roundw
      case rel =>
        refine ⟨k + 1, m / 128, done ++ [UInt8.ofNat (128 + m % 128)], ?_, ?_, by go_num, ?_, _, by rw [← List.append_assoc]; exact HPut.out.1, HS.out.trans HPut.out.2⟩
        · have h1 := HK.out
          rw [Nat.pow_succ, Nat.mul_comm (128 ^ k), ← Nat.mul_assoc]
          exact Nat.le_trans (Nat.mul_le_mul_right _ (Nat.div_mul_le_self m 128)) h1
        · rcases Nat.lt_or_ge k 9 with h | h
          · omega
          · exfalso
            obtain rfl : k = 9 := by omega
            have h1 := HK.out
            have h2 : 128 * 128 ^ 9 ≤ m * 128 ^ 9 := Nat.mul_le_mul_right _ hlt
            have h3 : (128 : Nat) ^ 9 = 9223372036854775808 := by decide
            rw [h3] at h1 h2
            omega
        · rcases Nat.lt_or_ge k 9 with h | h
          · rw [HN.out, show 10 - k = (9 - k) + 1 by omega, numF_more _ _ hlt, List.append_assoc, show 10 - (k + 1) = 9 - k by omega]; rfl
          · exfalso
            obtain rfl : k = 9 := by omega
            have h1 := HK.out
            have h2 : 128 * 128 ^ 9 ≤ m * 128 ^ 9 := Nat.mul_le_mul_right _ hlt
            have h3 : (128 : Nat) ^ 9 = 9223372036854775808 := by decide
            rw [h3] at h1 h2
            omega
      case measure => simp [intOf]; omega
    · skip
      go_wp2_with (refine wpList_append_fp rfl (.tmp 31) (.tmp 34) 33 rfl 0 5 i0 (.int .u8 0) 1 1 Try.underlying33 HI.out.1 HI.out.2.1 HI.out.2.2.1 HI.out.2.2.2 rfl (by decide) _ _ ((xs ++ done).map B) rfl (own_ext HO.out (Ext.new _ _)) _ 1 1 [_] rfl (flat_one _ _ _) (one_mem rfl) ?d1 ?d2 ?d3 ?d4)
      case d1 => simp [maxLen]; omega
      case d2 => simp; omega
      case d3 => omega
      intro v' w1 hown hgr hblk
      obtain ⟨va, vc, rfl⟩ := own_slice hown
      obtain ⟨hc0, hf0⟩ := alloc_at _ hc hf
      obtain ⟨hc1, hf1⟩ := grown_at hgr hc0 hf0 (by rw [HG.out]; exact HG2.out)
      have hput := pen_put (ys := [UInt8.ofNat m]) HP'.out (Ext.new _ _) hc (by rw [B_nat m (by omega)] at hown; simpa [Nat.add_assoc] using hown) hgr (by simpa [Nat.add_assoc] using hblk)
      have HPut := Lib.hid hput
      clear hput hown hgr hblk hc0 hf0
      go_wp2
      go_ret
      refine ⟨rfl, _, ?_, HS.out.trans HPut.out.2⟩
      have e : numB n = done ++ [UInt8.ofNat m] := by
        unfold numB
        rw [HN.out, show 10 - k = (9 - k) + 1 by omega, numF_last _ _ hlt]
      rw [e, ← List.append_assoc]
      exact HPut.out.1
set_option maxRecDepth 100000 in
set_option maxHeartbeats 1000000 in
theorem penText_any (p : Nat) (g : Option Nat) (xs : List UInt8) (a : Option Addr) (m c : Nat) (ys : List UInt8) (w : World) (h : PenAt w p g xs) (hy : By w a m ys) (hm2 : m ≤ 2048) (hl : xs.length ≤ 50000000) (hlt : 0 < m → ∀ ad, a = some ad → ad.block ≠ p ∧ g ≠ some ad.block) :
    Calls Try.prog 76 #[.pointer (some ⟨p, 0, none⟩), .slice a m c] w fun e w' => e = .returned (.bool true) ∧ ∃ g', PenAt w' p g' (xs ++ (numB m ++ ys)) ∧ PenStep p w g w' g' := by
  obtain ⟨i0, hi, hz0, hz1, hz2⟩ := info_parts (P := Try.prog) (e := 5) (z := .int .u8 0) (size := 1) (bytes := 1) (by kernel_rfl)
  have HI := Lib.hid (And.intro hi (And.intro hz0 (And.intro hz1 hz2)))
  clear hi hz0 hz1 hz2
  have hm := hy.1
  have HM := Lib.hid hm; clear hm
  have HY := Lib.hid hy; clear hy
  have HP := Lib.hid h; clear h
  have HLT := Lib.hid hlt; clear hlt
  go_enter Try.func76, Try.ntmps76
  go_wp2_with fail
  refine (penNumber_any p g xs m _ HP.out (by omega) (by omega)).mono ?_
  rintro e w2 ⟨rfl, g2, hp2, hs2⟩
  obtain ⟨sv, hc, hf, ho, hsg, hgp, hplt⟩ := hp2.cell
  have hy2 : By w2 a m ys := By.mut HY.out hs2.1 (fun h0 ad had hx => by
    have := HLT.out h0 ad had
    exact hx.elim this.1 this.2)
  have HY2 := Lib.hid hy2; clear hy2
  have HS := Lib.hid hs2; clear hs2
  have HP2 := Lib.hid hp2; clear hp2
  have HO := Lib.hid ho; clear ho
  have HG : Hid (some p ≠ sv.ownBlock) := Lib.hid (fun e => by rw [hsg] at e; exact hgp e.symm)
  clear hsg hgp
  have hnl : (numB m).length ≤ 10 := numF_len 10 m
  go_wp2_with (refine wpList_append_fp rfl (.tmp 20) (.tmp 21) 33 rfl 0 5 i0 (.int .u8 0) 1 1 Try.underlying33 HI.out.1 HI.out.2.1 HI.out.2.2.1 HI.out.2.2.2 rfl (by decide) _ _ ((xs ++ numB m).map B) rfl (HO.out) _ _ _ (ys.map B) rfl (By.flat HY2.out) (B_one _) ?c1 ?c2 ?c3 ?c4)
  case c1 => simp [maxLen]; omega
  case c2 => have := HM.out; simp; omega
  case c3 => omega
  intro v' w1 hown hgr hblk
  obtain ⟨va, vc, rfl⟩ := own_slice hown
  obtain ⟨hc1, hf1⟩ := grown_at hgr hc hf HG.out
  have HPut := Lib.hid (pen_put (ys := ys) HP2.out (Ext.refl _) hc (by have := HM.out; subst this; simpa using hown) hgr hblk)
  clear hown hgr hblk
  go_wp2
  go_ret
  exact ⟨rfl, _, by rw [← List.append_assoc]; exact HPut.out.1, HS.out.trans HPut.out.2⟩
theorem penBytes_own (p : Nat) (g : Option Nat) (xs : List UInt8) (w : World) (h : PenAt w p g xs) (hl : xs.length ≤ 100000000000000) :
    Calls Try.prog 69 #[.pointer (some ⟨p, 0, none⟩)] w fun e w' => ∃ v, e = .returned v ∧ w'.ownsRow w.heap.size 5 1 v xs.length (xs.map B) ∧ Ext w w' := by
  obtain ⟨sv, hc, hf, ho, hsg, hgp, hplt⟩ := h.cell
  obtain ⟨a, n, c, rfl, hnc, hcm, hb⟩ := own_by ho
  have hn : n = xs.length := hb.1
  have HB := Lib.hid hb; clear hb
  have HC := Lib.hid (And.intro hnc hcm); clear hnc hcm
  have HN := Lib.hid hn
  clear h ho hsg hgp hn
  go_enter Try.func69, Try.ntmps69
  go_wp2_with fail
  refine (clone_any _ _ _ xs _ HB.out HC.out (by have := HB.out.1; omega)).mono ?_
  rintro e w1 ⟨v, rfl, hown, hx⟩
  have HO := Lib.hid (And.intro hown hx); clear hown hx
  go_wp2
  go_ret
  exact ⟨_, rfl, HN.out ▸ HO.out.1, HO.out.2⟩
end Go.Proofs.Ythdbobnebpoolaa

namespace Go.Proofs.Ythdbobnebpoolaa
set_option linter.unusedSimpArgs false
set_option linter.unusedVariables false
open Go Go.RowKit
end Go.Proofs.Ythdbobnebpoolaa

namespace Go.Proofs.Ythdbobnebpoolaa
set_option linter.unusedSimpArgs false
set_option linter.unusedVariables false
open Go Go.RowKit
/-- The reader at block r, not over, has xs left. -/
def RdAt (z : Nat → Prop) (w : World) (r : Nat) (xs : List UInt8) : Prop := ∃ a n c, Blk w r [.slice a n c, .bool false] ∧ By w a n xs ∧ (n ≤ c ∧ c ≤ maxLen) ∧ ∀ ad, a = some ad → ad.block ≠ r ∧ z ad.block
/-- The reader at block r, not over, whatever is left. -/
theorem Blk.mut {fp : Nat → Prop} {w w' : World} {b : Nat} {vs : List Value} (h : Blk w b vs) (hm : MutO fp w w') (hb : ¬ fp b) : Blk w' b vs := let ⟨ty, e⟩ := h; ⟨ty, by rw [hm.block b h.lt hb]; exact e⟩
def RdAny (w : World) (r : Nat) : Prop := ∃ a n c, Blk w r [.slice a n c, .bool false]
/-- It is over. -/
def RdOver (w : World) (r : Nat) : Prop := ∃ a n c, Blk w r [.slice a n c, .bool true]
theorem RdAt.mono {z z' : Nat → Prop} {w : World} {r : Nat} {xs : List UInt8} (h : RdAt z w r xs) (hz : ∀ k, z k → z' k) : RdAt z' w r xs :=
  let ⟨a, n, c, h1, h2, h3, h4⟩ := h; ⟨a, n, c, h1, h2, h3, fun ad had => ⟨(h4 ad had).1, hz _ (h4 ad had).2⟩⟩
theorem RdAt.any {z : Nat → Prop} {w : World} {r : Nat} {xs : List UInt8} (h : RdAt z w r xs) : RdAny w r := let ⟨a, n, c, h1, _⟩ := h; ⟨a, n, c, h1⟩
theorem RdAt.mut {z : Nat → Prop} {fp : Nat → Prop} {w w' : World} {r : Nat} {xs : List UInt8} (h : RdAt z w r xs) (hm : MutO fp w w') (hr : ¬ fp r) (hz : ∀ k, fp k → ¬ z k) : RdAt z w' r xs := by
  obtain ⟨a, n, c, hb, hy, hc, hk⟩ := h
  exact ⟨a, n, c, hb.mut hm hr, By.mut hy hm fun _ ad had hx => hz _ hx (hk ad had).2, hc, hk⟩
theorem RdAny.mut {fp : Nat → Prop} {w w' : World} {r : Nat} (h : RdAny w r) (hm : MutO fp w w') (hr : ¬ fp r) : RdAny w' r := let ⟨a, n, c, hb⟩ := h; ⟨a, n, c, hb.mut hm hr⟩
theorem RdOver.mut {fp : Nat → Prop} {w w' : World} {r : Nat} (h : RdOver w r) (hm : MutO fp w w') (hr : ¬ fp r) : RdOver w' r := let ⟨a, n, c, hb⟩ := h; ⟨a, n, c, hb.mut hm hr⟩
def rdFp (r : Nat) : Nat → Prop := fun k => k = r
end Go.Proofs.Ythdbobnebpoolaa

namespace Go.Proofs.Ythdbobnebpoolaa
set_option linter.unusedSimpArgs false
set_option linter.unusedVariables false
open Go Go.RowKit
def rdNext (i : Nat) (xs : List UInt8) : Except Int (UInt8 × List UInt8) :=
  if i = 9 then .error 11 else match xs with
  | [] => .error 10
  | c :: ys => if c = 0 ∧ 0 < i then .error 11 else .ok (c, ys)
def rdNumF : Nat → Nat → Nat → List UInt8 → Except Int (Nat × List UInt8)
  | 0, _, _, _ => .error 11
  | f + 1, i, acc, xs => match rdNext i xs with
    | .error e => .error e
    | .ok (c, ys) => if c.toNat < 128 then .ok (acc + c.toNat % 128 * 128 ^ i, ys) else rdNumF f (i + 1) (acc + c.toNat % 128 * 128 ^ i) ys
def rdNum (xs : List UInt8) : Except Int (Nat × List UInt8) := rdNumF 10 0 0 xs
end Go.Proofs.Ythdbobnebpoolaa

namespace Go.Proofs.Ythdbobnebpoolaa
set_option linter.unusedSimpArgs false
set_option linter.unusedVariables false
open Go Go.RowKit
def rdText (most : Int) (xs : List UInt8) : Except Int (List UInt8 × List UInt8) := match rdNum xs with
  | .error e => .error e
  | .ok (n, ys) => if most < n then .error 12 else if ys.length < n then .error 10 else .ok (ys.take n, ys.drop n)
end Go.Proofs.Ythdbobnebpoolaa

namespace Go.Proofs.Ythdbobnebpoolaa
set_option linter.unusedSimpArgs false
set_option linter.unusedVariables false
open Go Go.RowKit
/-- A pen that has written xs. -/
def penI (p : Nat) (xs : List UInt8) : It where
  P e _ w := e p ∧ ∃ g, PenAt w p g xs ∧ ∀ k, g = some k → e k
  st := by
    rintro e s w w' ⟨h1, g, ⟨sv, ⟨ty, h2⟩, h3, h4, h5⟩, h6⟩ hag
    exact ⟨h1, g, ⟨sv, ⟨ty, by rw [hag p (.inl h1)]; exact h2⟩, row_agree h3 fun k hk => hag k (.inl (h6 k (by rw [← h4]; exact hk))), h4, h5⟩, h6⟩
  facts _ := True
  ok := fun _ => trivial
theorem By.agree {w w' : World} {a : Option Addr} {n : Nat} {xs : List UInt8} (h : By w a n xs) (hag : 0 < n → ∀ ad, a = some ad → w'.heap[ad.block]? = w.heap[ad.block]?) : By w' a n xs := by
  refine ⟨h.1, fun h0 => ?_⟩
  obtain ⟨b, off, rfl, hc⟩ := h.2 h0
  refine ⟨b, off, rfl, fun i x hi => ?_⟩
  have := hc i x hi
  have h9 : w'.heap[b]? = w.heap[b]? := hag h0 ⟨b, off, none⟩ rfl
  unfold byteR at *
  rw [World.cell?_of_block (w := w) h9]
  exact this
/-- A reader that has xs left. -/
def rdI (r : Nat) (xs : List UInt8) : It where
  P e s w := e r ∧ RdAt s w r xs
  st := by
    rintro e s w w' ⟨h1, a, n, c, ⟨ty, h2⟩, h3, h4, h5⟩ hag
    exact ⟨h1, a, n, c, ⟨ty, by rw [hag r (.inl h1)]; exact h2⟩, h3.agree fun _ ad had => hag _ (.inr (h5 ad had).2), h4, h5⟩
  facts _ := True
  ok := fun _ => trivial
/-- A reader, whatever is left. -/
def rdAnyI (r : Nat) : It where
  P e _ w := e r ∧ RdAny w r
  st := by
    rintro e s w w' ⟨h1, a, n, c, ⟨ty, h2⟩⟩ hag
    exact ⟨h1, a, n, c, ⟨ty, by rw [hag r (.inl h1)]; exact h2⟩⟩
  facts _ := True
  ok := fun _ => trivial
def rdOverI (r : Nat) : It where
  P e _ w := e r ∧ RdOver w r
  st := by
    rintro e s w w' ⟨h1, a, n, c, ⟨ty, h2⟩⟩ hag
    exact ⟨h1, a, n, c, ⟨ty, by rw [hag r (.inl h1)]; exact h2⟩⟩
  facts _ := True
  ok := fun _ => trivial
section
variable {fr al : Nat → Prop} {w0 w w' : World} {L : List It}
theorem nft : (∀ p xs w, (penI p xs).facts w = True) ∧ (∀ r xs w, (rdI r xs).facts w = True) ∧ (∀ r w, (rdAnyI r).facts w = True) ∧ (∀ r w, (rdOverI r).facts w = True) := ⟨fun _ _ _ => rfl, fun _ _ _ => rfl, fun _ _ => rfl, fun _ _ => rfl⟩
theorem PenAt.inj {w : World} {p : Nat} {g g' : Option Nat} {xs ys : List UInt8} (h : PenAt w p g xs) (h' : PenAt w p g' ys) : g = g' := by
  obtain ⟨sv, h1, _, h2, _⟩ := h
  obtain ⟨sv', h1', _, h2', _⟩ := h'
  have e1 := h1.cell 0
  have e2 := h1'.cell 0
  rw [e1] at e2
  have : sv = sv' := by simpa using e2
  subst this
  rw [← h2, ← h2']
theorem PenAt.glt' {w : World} {p : Nat} {g : Option Nat} {xs : List UInt8} (h : PenAt w p g xs) {k : Nat} (hk : g = some k) : k < w.heap.size := by
  obtain ⟨sv, _, h2, h3, _⟩ := h
  exact (h2.lt k (h3.trans hk)).2
theorem Own.penStep (st : Own fr al w0 L w) {i p : Nat} {xs ys : List UInt8} (hi : L[i]? = some (penI p xs)) {g g' : Option Nat} (hp : PenAt w p g xs) (hp' : PenAt w' p g' ys) (hs : PenStep p w g w' g') : Own fr al w0 (L.set i (penI p ys)) w' :=
  st.upd hi fun e s ⟨h1, g1, h2, h3⟩ h4 h5 => by
    obtain rfl := hp.inj h2
    refine ⟨fun k => e k ∨ (w.heap.size ≤ k ∧ k < w'.heap.size), s, ⟨.inl h1, g', hp', fun k hk => ?_⟩, fun b hb => ?_, fun b hb => ⟨Nat.lt_of_lt_of_le (h4 b (.inr hb)) hs.1.size, .inr (.inl hb)⟩, fun b hb hb' => ?_, ?_⟩
    · rcases hs.2 with q | ⟨j, q, hj⟩
      · rw [q] at hk; exact .inl (h3 k hk)
      · have e := hk; rw [q] at e; injection e with e; subst e
        exact .inr ⟨hj, hp'.glt' hk⟩
    · rcases hb with hb | hb
      · exact ⟨Nat.lt_of_lt_of_le (h4 b (.inl hb)) hs.1.size, .inl hb⟩
      · exact ⟨hb.2, .inr hb.1⟩
    · rcases hb with hb | hb
      · exact h5 b hb hb'
      · have := h4 b (.inr hb'); omega
    · exact hs.1.mono fun k hk => by
        rcases hk with rfl | hk
        · exact h1
        · exact h3 k hk
theorem Own.pen (st : Own fr al w0 L w) {i p : Nat} {xs : List UInt8} (hi : L[i]? = some (penI p xs)) : ∃ g, PenAt w p g xs := let ⟨_, _, ⟨_, g, h, _⟩, _⟩ := st.get hi; ⟨g, h⟩
theorem Own.newPen (st : Own fr al w0 L w) {i p : Nat} (hi : L[i]? = some (blkI p [.slice none 0 0])) : Own fr al w0 (L.set i (penI p [])) w :=
  st.conv hi fun e s ⟨h1, h2⟩ h3 => ⟨e, s, ⟨h1, none, ⟨_, h2, ⟨rfl, .inl ⟨rfl, rfl⟩⟩, rfl, by simp⟩, fun k hk => by cases hk⟩, fun _ q => q, fun _ q => .inr q, h3⟩
/-- Two items, one of which is one's own, lie apart. -/
theorem Own.get2 (st : Own fr al w0 L w) {i j : Nat} {I J : It} (hi : L[i]? = some I) (hj : L[j]? = some J) (hij : i ≠ j) : ∃ e s e' s', I.P e s w ∧ J.P e' s' w ∧ (∀ b, e b → ¬ e' b ∧ ¬ s' b) ∧ ∀ b, e' b → ¬ s b := by
  obtain ⟨hm, e, s, F⟩ := st
  exact ⟨_, _, _, _, F.holds i I hi, F.holds j J hj, fun b hb => ⟨F.ee i j b (get_lt hi) (get_lt hj) hij hb, F.es i j b (get_lt hi) (get_lt hj) hb⟩, fun b hb => F.es j i b (get_lt hj) (get_lt hi) hb⟩
end

theorem penNumber_c {fr al : Nat → Prop} {w : World} {p : Nat} {xs : List UInt8} (st : Own fr al w [penI p xs] w) (n : Nat) (hn : n < 9223372036854775808) (hl : xs.length ≤ 100000000) :
    Calls Try.prog 66 #[.pointer (some ⟨p, 0, none⟩), .int .i64 (n : Int)] w fun e w' => e = .returned (.bool true) ∧ Own fr al w [penI p (xs ++ numB n)] w' := by
  obtain ⟨g, hp⟩ := st.pen (i := 0) rfl
  exact (penNumber_any p g xs n w hp hn hl).mono fun e w' ⟨h1, g', h2, h3⟩ => ⟨h1, st.penStep (i := 0) rfl hp h2 h3⟩
theorem penText_c {fr al : Nat → Prop} {w : World} {p m c : Nat} {a : Option Addr} {xs ys : List UInt8} (st : Own fr al w [penI p xs, byI a m ys] w) (hm : m ≤ 2048) (hl : xs.length ≤ 50000000) :
    Calls Try.prog 76 #[.pointer (some ⟨p, 0, none⟩), .slice a m c] w fun e w' => e = .returned (.bool true) ∧ Own fr al w [penI p (xs ++ (numB m ++ ys)), byI a m ys] w' := by
  obtain ⟨g, hp⟩ := st.pen (i := 0) rfl
  obtain ⟨e, s, e', s', ⟨h1, g1, h2, h3⟩, ⟨h4, h5⟩, h6, _⟩ := st.get2 (i := 0) (j := 1) rfl rfl (by decide)
  obtain rfl := hp.inj h2
  refine (penText_any p g xs a m c ys w hp h4 hm hl fun h0 ad had => ⟨?_, ?_⟩).mono fun e w' ⟨h1, g', h2, h3⟩ => ⟨h1, st.penStep (i := 0) rfl hp h2 h3⟩
  · intro q; exact (h6 _ h1).2 (q ▸ h5 h0 ad had)
  · intro q; exact (h6 _ (h3 _ q)).2 (h5 h0 ad had)
theorem own_byI {fr al : Nat → Prop} {w0 w w' : World} {L : List It} (st : Own fr al w0 L w) (hx : Ext w w') {v : Value} {xs : List UInt8} {n : Nat} (h : w'.ownsRow w.heap.size 5 1 v n (xs.map B)) :
    ∃ a c, v = .slice a xs.length c ∧ (xs.length ≤ c ∧ c ≤ maxLen) ∧ Own fr al w0 (L ++ [byI a xs.length xs]) w' := by
  obtain ⟨a, m, c, rfl, h1, h2, h3⟩ := own_by h
  obtain rfl : m = xs.length := h3.1
  exact ⟨a, c, rfl, ⟨h1, h2⟩, st.addBy hx h3 fun _ ad had => (h.lt ad.block (by rw [had]; rfl)).1⟩
theorem penBytes_c {fr al : Nat → Prop} {w : World} {p : Nat} {xs : List UInt8} (st : Own fr al w [penI p xs] w) (hl : xs.length ≤ 100000000000000) :
    Calls Try.prog 69 #[.pointer (some ⟨p, 0, none⟩)] w fun e w' => ∃ a c, e = .returned (.slice a xs.length c) ∧ (xs.length ≤ c ∧ c ≤ maxLen) ∧ Own fr al w [penI p xs, byI a xs.length xs] w' := by
  obtain ⟨g, hp⟩ := st.pen (i := 0) rfl
  refine (penBytes_own p g xs w hp hl).mono ?_
  rintro e w' ⟨v, rfl, h, hx⟩
  obtain ⟨a, c, rfl, h1, h2⟩ := own_byI st hx h
  exact ⟨a, c, rfl, h1, h2⟩
end Go.Proofs.Ythdbobnebpoolaa

namespace Go.Proofs.Ythdbobnebpoolaa
set_option linter.unusedSimpArgs false
set_option linter.unusedVariables false
open Go Go.RowKit
end Go.Proofs.Ythdbobnebpoolaa

namespace Go.Proofs.Ythdbobnebpoolaa
set_option linter.unusedSimpArgs false
set_option linter.unusedVariables false
open Go Go.RowKit
end Go.Proofs.Ythdbobnebpoolaa

namespace Go.Proofs.Ythdbobnebpoolaa
set_option linter.unusedSimpArgs false
set_option linter.unusedVariables false
open Go Go.RowKit
section
variable {fr al : Nat → Prop} {w0 w w' : World} {L : List It}
theorem Own.dropLast {J : It} (st : Own fr al w0 (L ++ [J]) w) : Own fr al w0 L w := by
  obtain ⟨hm, e, s, F⟩ := st
  have hl : ∀ {j}, j < L.length → j < (L ++ [J]).length := fun h => by simp; omega
  exact ⟨hm, e, s, fun j I hj => F.holds j I (by rw [List.getElem?_append_left (get_lt hj)]; exact hj), fun j b hj => F.lo j b (hl hj), fun j b hj => F.fr j b (hl hj), fun j b hj => F.al j b (hl hj),
    fun j k b hj hk => F.ee j k b (hl hj) (hl hk), fun j k b hj hk => F.es j k b (hl hj) (hl hk)⟩
/-- The frame rule for all items but the last one. -/
theorem Own.pre {J : It} (st : Own fr al w0 (L ++ [J]) w) : ∃ fr' al' : Nat → Prop, Own fr' al' w L w ∧ ∀ M w', Own fr' al' w M w' → Own fr al w0 (M ++ [J]) w' := by
  obtain ⟨hm, e, s, F⟩ := st
  have hl : ∀ {j}, j < L.length → j < (L ++ [J]).length := fun h => by simp; omega
  have hn : L.length < (L ++ [J]).length := by simp
  refine ⟨fun b => ∃ i, i < L.length ∧ e i b, fun b => ∃ i, i < L.length ∧ (e i b ∨ s i b), ⟨MutO.refl _ _, e, s, fun j I hj => F.holds j I (by rw [List.getElem?_append_left (get_lt hj)]; exact hj), fun j b hj => F.lo j b (hl hj), fun j b hj hb _ => ⟨j, hj, hb⟩, fun j b hj hb _ => ⟨j, hj, hb⟩,
    fun j k b hj hk => F.ee j k b (hl hj) (hl hk), fun j k b hj hk => F.es j k b (hl hj) (hl hk)⟩, ?_⟩
  rintro M w' ⟨hm', eM, sM, G⟩
  have hle := hm.size
  have z : ∀ {j}, j < (M ++ [J]).length → j < M.length ∨ j = M.length := fun {j} h => by simp at h; omega
  have hfar : ∀ {b}, (e L.length b ∨ s L.length b) → ¬ ∃ i, i < L.length ∧ e i b := fun {b} hb ⟨i, hi, he⟩ => by
    rcases hb with hb | hb
    · exact F.ee i L.length b (hl hi) hn (by omega) he hb
    · exact F.es i L.length b (hl hi) hn he hb
  have hfar' : ∀ {b}, e L.length b → ¬ ∃ i, i < L.length ∧ (e i b ∨ s i b) := fun {b} hb ⟨i, hi, he⟩ => by
    rcases he with he | he
    · exact F.ee i L.length b (hl hi) hn (by omega) he hb
    · exact F.es L.length i b hn (hl hi) hb he
  refine ⟨hm.trans hm' fun b hb ⟨i, hi, he⟩ => F.fr i b (hl hi) he hb, fun j => if j < M.length then eM j else e L.length, fun j => if j < M.length then sM j else s L.length, fun j I hj => ?_, fun j b hj hb => ?_, fun j b hj hb hb0 => ?_, fun j b hj hb hb0 => ?_, fun j k b hj hk hjk hb hb' => ?_, fun j k b hj hk hb hb' => ?_⟩
  · rcases z (get_lt hj) with h | h
    · rw [List.getElem?_append_left h] at hj
      simp only [h, if_true]
      exact G.holds j I hj
    · subst h
      simp at hj
      subst hj
      simp only [Nat.lt_irrefl, if_false]
      exact J.st (F.holds L.length J (by simp)) fun b hb => hm'.block b (F.lo _ b hn hb) (hfar hb)
  · rcases z hj with h | h
    · simp only [h, if_true] at hb
      exact G.lo j b h hb
    · subst h
      simp only [Nat.lt_irrefl, if_false] at hb
      exact Nat.lt_of_lt_of_le (F.lo _ b hn hb) hm'.size
  · rcases z hj with h | h
    · simp only [h, if_true] at hb
      obtain ⟨i, hi, he⟩ := G.fr j b h hb (by omega)
      exact F.fr i b (hl hi) he hb0
    · subst h
      simp only [Nat.lt_irrefl, if_false] at hb
      exact F.fr _ b hn hb hb0
  · rcases z hj with h | h
    · simp only [h, if_true] at hb
      obtain ⟨i, hi, he⟩ := G.al j b h hb (by omega)
      exact F.al i b (hl hi) he hb0
    · subst h
      simp only [Nat.lt_irrefl, if_false] at hb
      exact F.al _ b hn hb hb0
  · rcases z hj with h | h <;> rcases z hk with h' | h'
    · simp only [h, h', if_true] at hb hb'
      exact G.ee j k b h h' hjk hb hb'
    · subst h'
      simp only [h, if_true, Nat.lt_irrefl, if_false] at hb hb'
      exact hfar (.inl hb') (G.fr j b h hb (F.lo _ b hn (.inl hb')))
    · subst h
      simp only [h', if_true, Nat.lt_irrefl, if_false] at hb hb'
      exact hfar (.inl hb) (G.fr k b h' hb' (F.lo _ b hn (.inl hb)))
    · omega
  · rcases z hj with h | h <;> rcases z hk with h' | h'
    · simp only [h, h', if_true] at hb hb'
      exact G.es j k b h h' hb hb'
    · subst h'
      simp only [h, if_true, Nat.lt_irrefl, if_false] at hb hb'
      exact hfar (.inr hb') (G.fr j b h hb (F.lo _ b hn (.inr hb')))
    · subst h
      simp only [h', if_true, Nat.lt_irrefl, if_false] at hb hb'
      exact hfar' hb (G.al k b h' (.inr hb') (F.lo _ b hn (.inl hb)))
    · subst h
      simp only [h', Nat.lt_irrefl, if_false] at hb hb'
      exact F.es _ _ b hn hn hb hb'
end
/-- Two items in one. -/
def sepI (I J : It) : It where
  P e s w := ∃ e1 e2 s1 s2 : Nat → Prop, I.P e1 s1 w ∧ J.P e2 s2 w ∧ (∀ b, e1 b → e b) ∧ (∀ b, e2 b → e b) ∧ (∀ b, s1 b → s b) ∧ (∀ b, s2 b → s b) ∧ ∀ b, e1 b → ¬ e2 b
  st := by
    rintro e s w w' ⟨e1, e2, s1, s2, h1, h2, h3, h4, h5, h6, h7⟩ hag
    exact ⟨e1, e2, s1, s2, I.st h1 fun b hb => hag b (hb.imp (h3 b) (h5 b)), J.st h2 fun b hb => hag b (hb.imp (h4 b) (h6 b)), h3, h4, h5, h6, h7⟩
  facts w := I.facts w ∧ J.facts w
  ok := fun ⟨_, _, _, _, h1, h2, _⟩ => ⟨I.ok h1, J.ok h2⟩
def exI {α : Type} (F : α → It) : It where
  P e s w := ∃ x, (F x).P e s w
  st := fun ⟨x, h⟩ hag => ⟨x, (F x).st h hag⟩
  facts _ := True
  ok := fun _ => trivial
section
variable {fr al : Nat → Prop} {w0 w w' : World} {L : List It}
theorem Own.unex (st : Own fr al w0 L w) {i : Nat} {α : Type} {F : α → It} (hi : L[i]? = some (exI F)) : ∃ x, Own fr al w0 (L.set i (F x)) w := by
  obtain ⟨hm, e, s, G⟩ := st
  obtain ⟨x, hx⟩ := G.holds i _ hi
  exact ⟨x, G.upd hm hi fun _ h2 h3 => ⟨e i, s i, hx, fun b hb => ⟨h2 b (.inl hb), .inl hb⟩, fun b hb => ⟨h2 b (.inr hb), .inr (.inl hb)⟩, h3, MutO.refl _ _⟩⟩
theorem Own.ex (st : Own fr al w0 L w) {i : Nat} {α : Type} {F : α → It} (x : α) (hi : L[i]? = some (F x)) : Own fr al w0 (L.set i (exI F)) w :=
  st.conv hi fun e s h h3 => ⟨e, s, ⟨x, h⟩, fun _ q => q, fun _ q => .inr q, h3⟩
theorem Own.split (st : Own fr al w0 L w) {i : Nat} {I J : It} (hi : L[i]? = some (sepI I J)) : Own fr al w0 (L.set i I ++ [J]) w := by
  obtain ⟨hm, e, s, G⟩ := st
  obtain ⟨e1, e2, s1, s2, h1, h2, h3, h4, h5, h6, h7⟩ := G.holds i _ hi
  have hil := get_lt hi
  have z : ∀ {j}, j < (L.set i I ++ [J]).length → j < L.length ∨ j = L.length := fun {j} h => by simp at h; omega
  have hle : ∀ j b, (if j = L.length then e2 b else if j = i then e1 b else e j b) → e (if j = L.length then i else j) b := fun j b hb => by
    by_cases h : j = L.length
    · simp only [h, if_true] at hb ⊢; exact h4 b hb
    · simp only [h, if_false] at hb ⊢
      by_cases h' : j = i
      · simp only [h', if_true] at hb ⊢; exact h3 b hb
      · simp only [h', if_false] at hb; exact hb
  have hls : ∀ j b, (if j = L.length then s2 b else if j = i then s1 b else s j b) → s (if j = L.length then i else j) b := fun j b hb => by
    by_cases h : j = L.length
    · simp only [h, if_true] at hb ⊢; exact h6 b hb
    · simp only [h, if_false] at hb ⊢
      by_cases h' : j = i
      · simp only [h', if_true] at hb ⊢; exact h5 b hb
      · simp only [h', if_false] at hb; exact hb
  have hlt : ∀ {j}, j < (L.set i I ++ [J]).length → (if j = L.length then i else j) < L.length := fun {j} hj => by
    rcases z hj with h | h
    · rw [if_neg (by omega)]; exact h
    · rw [if_pos h]; exact hil
  refine ⟨hm, fun j b => if j = L.length then e2 b else if j = i then e1 b else e j b, fun j b => if j = L.length then s2 b else if j = i then s1 b else s j b, fun j K hj => ?_, fun j b hj hb => G.lo _ b (hlt hj) (hb.imp (hle j b) (hls j b)), fun j b hj hb => G.fr _ b (hlt hj) (hle j b hb),
    fun j b hj hb => G.al _ b (hlt hj) (hb.imp (hle j b) (hls j b)), fun j k b hj hk hjk hb hb' => ?_, fun j k b hj hk hb hb' => G.es _ _ b (hlt hj) (hlt hk) (hle j b hb) (hls k b hb')⟩
  · rcases z (get_lt hj) with h | h
    · rw [List.getElem?_append_left (by simpa using h), List.getElem?_set] at hj
      have hn : j ≠ L.length := by omega
      by_cases hji : j = i
      · subst hji
        simp [hil] at hj
        subst hj
        simpa [hn] using h1
      · rw [if_neg (Ne.symm hji)] at hj
        simpa [hn, hji] using G.holds j K hj
    · subst h
      simp at hj
      subst hj
      simpa using h2
  · rcases z hj with h | h <;> rcases z hk with h' | h'
    · have hn : j ≠ L.length := by omega
      have hn' : k ≠ L.length := by omega
      have q1 := hle j b hb
      have q2 := hle k b hb'
      simp only [hn, hn', if_false] at q1 q2
      exact G.ee j k b h h' hjk q1 q2
    · subst h'
      have hn : j ≠ L.length := by omega
      by_cases hji : j = i
      · subst hji
        simp only [hn, if_false, if_true] at hb hb'
        exact h7 b hb hb'
      · have q1 := hle j b hb
        have q2 := hle L.length b hb'
        simp only [hn, if_false, if_true] at q1 q2
        exact G.ee j i b h hil hji q1 q2
    · subst h
      have hn : k ≠ L.length := by omega
      by_cases hji : k = i
      · subst hji
        simp only [hn, if_false, if_true] at hb hb'
        exact h7 b hb' hb
      · have q1 := hle L.length b hb
        have q2 := hle k b hb'
        simp only [hn, if_false, if_true] at q1 q2
        exact G.ee i k b hil h' (Ne.symm hji) q1 q2
    · omega
end

end Go.Proofs.Ythdbobnebpoolaa

namespace Go.Proofs.Ythdbobnebpoolaa
set_option linter.unusedSimpArgs false
set_option linter.unusedVariables false
open Go Go.RowKit
set_option maxRecDepth 100000 in
set_option maxHeartbeats 1000000 in
theorem refNumber_any (n : Nat) (w : World) (hn : n < 9223372036854775808) :
    Calls Try.prog 73 #[.int .i64 (n : Int)] w fun e w' => e = .returned (S (numB n)) ∧ Ext w w' := by
  have hcv := fun (w : World) (x : Int) => conv_one (P := Try.prog) (src := 33) (dst := 9) (e := 5) Try.underlying33 Try.underlying5 Try.underlying9 5 w x
  have happ := ba_append
  unfold S
  go_enter Try.func73, Try.ntmps73
  go_wp2
  go_loopw [0, 3] (fun i s wr => ∃ (k m : Nat) (done : List UInt8), m * 128 ^ k ≤ n ∧ k ≤ 9 ∧ i = .int .i64 (m : Int) ∧ s = .string ⟨done.toArray⟩ ∧ numF 10 n = done ++ numF (10 - k) m ∧ Ext w wr) (fun i _ _ => (intOf i).toNat)
  case atStart => exact ⟨0, n, [], by simp, by omega, rfl, rfl, by simp, Ext.refl _⟩
  case round =>
    obtain ⟨k, m, done, hmk, hk, rfl, rfl, hnum, hx⟩ := hrel
    have hm : m < 9223372036854775808 := by
      have h1 : m * 1 ≤ m * 128 ^ k := Nat.mul_le_mul_left m (Nat.one_le_pow _ _ (by decide))
      omega
    have hdl : done.length ≤ 10 := by
      have h1 := congrArg List.length hnum
      have h2 := numF_len 10 n
      rw [List.length_append] at h1
      omega
    have HN := Lib.hid hnum; clear hnum
    have HK := Lib.hid hmk; clear hmk
    have HX := Lib.hid hx; clear hx
    have h9 : 128 ≤ m → k < 9 := fun h => by
      rcases Nat.lt_or_ge k 9 with h | h
      · exact h
      · exfalso
        obtain rfl : k = 9 := by omega
        have h1 := HK.out
        have h2 : 128 * 128 ^ 9 ≤ m * 128 ^ 9 := Nat.mul_le_mul_right _ (by assumption)
        have h3 : (128 : Nat) ^ 9 = 9223372036854775808 := by decide
        rw [h3] at h1 h2
        omega
    have H9 := Lib.hid h9; clear h9
    by_cases hlt : 128 ≤ m
    · go_wp2
      go_roundw
      case rel =>
        refine ⟨k + 1, m / 128, done ++ [UInt8.ofNat (128 + m % 128)], ?_, by have := H9.out hlt; omega, by first | rfl | go_num | (congr 1; omega), ?_, ?_, by first | exact HX.out.alloc _ | exact HX.out⟩
        · have h1 := HK.out
          rw [Nat.pow_succ, Nat.mul_comm (128 ^ k), ← Nat.mul_assoc]
          exact Nat.le_trans (Nat.mul_le_mul_right _ (Nat.div_mul_le_self m 128)) h1
        · rw [UInt8.ofNat_add]; rfl
        · have := H9.out hlt
          rw [HN.out, show 10 - k = (9 - k) + 1 by omega, numF_more _ _ hlt, List.append_assoc, show 10 - (k + 1) = 9 - k by omega]; rfl
      case measure => simp [intOf]; omega
    · go_wp2
      go_ret
      refine ⟨?_, by first | exact HX.out.alloc _ | exact HX.out⟩
      have e : numB n = done ++ [UInt8.ofNat m] := by
        unfold numB
        rw [HN.out, show 10 - k = (9 - k) + 1 by omega, numF_last _ _ hlt]
      rw [e]
      rfl
set_option maxRecDepth 100000 in
set_option maxHeartbeats 1000000 in
theorem refText_any (s : List UInt8) (w : World) (hs : s.length ≤ 100000000) :
    Calls Try.prog 75 #[S s] w fun e w' => e = .returned (S (numB s.length ++ s)) ∧ Ext w w' := by
  have happ := ba_append
  unfold S
  go_enter Try.func75, Try.ntmps75
  go_wp2_with fail
  refine (refNumber_any s.length _ (by omega)).mono ?_
  rintro e w1 ⟨rfl, hx⟩
  have HX := Lib.hid hx; clear hx
  unfold S
  have hnl : (numB s.length).length ≤ 10 := numF_len 10 s.length
  go_wp2
  go_ret
  exact ⟨rfl, HX.out⟩
end Go.Proofs.Ythdbobnebpoolaa

namespace Go.Proofs.Ythdbobnebpoolaa
set_option linter.unusedSimpArgs false
set_option linter.unusedVariables false
open Go Go.RowKit
/-- The reference's tape at block t. -/
def RefAt (w : World) (t : Nat) (s : List UInt8) (e : Int) : Prop := Blk w t [S s, .int .i64 e]
/-- What a reading method of the reference comes to. -/
def RefOut {α : Type} (t : Nat) (w : World) (res : Except Int (α × List UInt8)) (zero : Value) (ok : α → Value) : Ending → World → Prop := fun en w' =>
  MutO (rdFp t) w w' ∧ match res with
  | .error e => en = .returned zero ∧ ∃ s, RefAt w' t s e
  | .ok (a, ys) => en = .returned (ok a) ∧ RefAt w' t ys 0
theorem RefAt.mut {fp : Nat → Prop} {w w' : World} {t : Nat} {s : List UInt8} {e : Int} (h : RefAt w t s e) (hm : MutO fp w w') (ht : ¬ fp t) : RefAt w' t s e := Blk.mut h hm ht
theorem RefOut.ok {α : Type} {t : Nat} {w : World} {res : Except Int (α × List UInt8)} {zero : Value} {ok : α → Value} {a : α} {ys : List UInt8} {en : Ending} {w' : World} (hE : res = .ok (a, ys)) (hm : MutO (rdFp t) w w') (h : en = .returned (ok a) ∧ RefAt w' t ys 0) : RefOut t w res zero ok en w' := by
  subst hE; exact ⟨hm, h⟩
end Go.Proofs.Ythdbobnebpoolaa

namespace Go.Proofs.Ythdbobnebpoolaa.Rg4
set_option linter.unusedSimpArgs false
set_option linter.unusedVariables false
open Go Go.Proofs.Ythdbobnebpoolaa.Rg

/-- none: kind (a); some none: kind (c); some (some S): kind (b). -/
abbrev Kd := Option (Option (Value → World → Prop))

section
variable (P : Program) (ops : Array Oper) (T : Array Nat) (Rel : World → World → Prop) (ld : Nat → Bool) (Cl : World → Prop) (kd : Nat → Kd) (Q : Exit → Act → World → Prop)

def Inh4 (w0 : World) (F : Facts) : Prop := ∃ w, Rel w0 w ∧ Cl w ∧ All F w

def op4 (k : Nat) (K : World → Facts → Act → Prop) (w0 : World) (F : Facts) (a : Act) : Prop :=
  match ops[k]? with
  | .none => K w0 F a
  | .some o =>
    if Region.wanted o (yielded ops a.tmps) = true then
      match kd k with
      | .none => ∃ c, (∀ w, (ld k = true → Rel w0 w) → Cl w → stillAt P o a w c) ∧ K w0 F (a.put o.dst c)
      | .some (.some S) => (∀ w, Rel w0 w → Cl w → Pre ops T F k w → relAt P o a w (fun v w' => Rel w w' ∧ Cl w' ∧ S v w')) ∧ ∀ v, K w0 (upd F k (S v)) (a.put o.dst v)
      | .some .none => ∀ w, Rel w0 w → Cl w → All F w → o.wp P a w (fun a' w' => Cl w' ∧ K w' none a') Q ∨ (o.asks P a w ∧ LetsOut Q)
    else K w0 F (a.put o.dst undef)

def wpAny4 : Nat → Array Bool → World → Facts → Act → Prop
  | 0, listed, w0, F, a => Inh4 Rel Cl w0 F → Region.ready .any ops listed = [] ∧ ∀ w, Rel w0 w → Cl w → All F w → Q .normal a w
  | f + 1, listed, w0, F, a => Inh4 Rel Cl w0 F → (Region.ready .any ops listed = [] → ∀ w, Rel w0 w → Cl w → All F w → Q .normal a w) ∧
      ∀ i ∈ Region.ready .any ops listed, op4 P ops T Rel ld Cl kd Q i (wpAny4 f (listed.setIfInBounds i true)) w0 F a

/-- THE WALK IN THE ORDER OF THE TEXT. -/
def wp4 : List (Nat × Oper) → World → Facts → Act → Prop
  | [], w0, F, a => ∀ w, Rel w0 w → Cl w → All F w → Q .normal a w
  | (k, o) :: rest, w0, F, a =>
    if Region.wanted o (yielded ops a.tmps) = true then
      match kd k with
      | .none => ∃ c, (∀ w, (ld k = true → Rel w0 w) → Cl w → stillAt P o a w c) ∧ wp4 rest w0 F (a.put o.dst c)
      | .some (.some S) => (∀ w, Rel w0 w → Cl w → Pre ops T F k w → relAt P o a w (fun v w' => Rel w w' ∧ Cl w' ∧ S v w')) ∧
          ∀ v, (∃ w, Rel w0 w ∧ Cl w ∧ S v w) → wp4 rest w0 (upd F k (S v)) (a.put o.dst v)
      | .some .none => ∀ w, Rel w0 w → Cl w → All F w → o.wp P a w (fun a' w' => Cl w' ∧ wp4 rest w' none a') Q ∨ (o.asks P a w ∧ LetsOut Q)
    else wp4 rest w0 F (a.put o.dst undef)
end

def isB (kd : Nat → Kd) (k : Nat) : Bool := match kd k with | .some (.some _) => true | _ => false
def isC (kd : Nat → Kd) (k : Nat) : Bool := match kd k with | .some .none => true | _ => false
/-- Between a barrier and an operation of kind (b) the order is fixed. -/
def barB (ops : Array Oper) (T : Array Nat) (B C : List Nat) : Bool := C.all fun j => B.all fun i => bef ops T j i || bef ops T i j
def lex4 (ops : Array Oper) (C : List Nat) : List Nat → Array Bool → Bool
  | [], listed => (Region.ready .any ops listed).isEmpty
  | k :: ks, listed => (if C.contains k then decide (Region.ready .any ops listed = [k]) else (Region.ready .any ops listed).contains k && Region.free .any ops listed k) && lex4 ops C ks (listed.setIfInBounds k true)

section
variable {P : Program} {ops : Array Oper} {T : Array Nat} {Rel : World → World → Prop} {ld : Nat → Bool} {Cl : World → Prop} {kd : Nat → Kd} {Q : Exit → Act → World → Prop}

theorem inh4_upd_mono {w0 : World} {F : Facts} {j k : Nat} {S S' : World → Prop} (h : Inh4 Rel Cl w0 (upd (upd F j S') k S)) : Inh4 Rel Cl w0 (upd F k S) :=
  let ⟨w, h1, h0, h2⟩ := h; ⟨w, h1, h0, fun i => ⟨(h2 i).1.1, (h2 i).2⟩⟩
theorem inh4_upd {w0 : World} {F : Facts} {k : Nat} {S : World → Prop} (h : Inh4 Rel Cl w0 (upd F k S)) : Inh4 Rel Cl w0 F := let ⟨w, h1, h0, h2⟩ := h; ⟨w, h1, h0, fun i => (h2 i).1⟩
theorem wpAny4_of_inh {f : Nat} {listed : Array Bool} {w0 : World} {F : Facts} {a : Act} (h : Inh4 Rel Cl w0 F → wpAny4 P ops T Rel ld Cl kd Q f listed w0 F a) : wpAny4 P ops T Rel ld Cl kd Q f listed w0 F a := by
  cases f with
  | zero => intro hi; exact h hi hi
  | succ f => intro hi; exact h hi hi

/-- The walk over any order is one. -/
theorem wpAny_of_4 (hrefl : ∀ w, Rel w w) (htr : ∀ a b c, Rel a b → Rel b c → Rel a c) (hsp : ∀ k S, kd k = .some (.some S) → ∀ v w w', Rel w w' → S v w → S v w') :
    ∀ (f : Nat) (listed : Array Bool) (w0 : World) (F : Facts) (a : Act) (w : World), StableF Rel F → Rel w0 w → Cl w → All F w →
    wpAny4 P ops T Rel ld Cl kd Q f listed w0 F a → wpAny P .any ops Q f listed a w
  | 0, _, _, _, _, w, _, hw, hcl, hF, h => let h' := h ⟨w, hw, hcl, hF⟩; ⟨h'.1, h'.2 w hw hcl hF⟩
  | f + 1, listed, w0, F, a, w, hst, hw, hcl, hF, h => by
    have h' := h ⟨w, hw, hcl, hF⟩
    refine ⟨fun h0 => h'.1 h0 w hw hcl hF, fun i hi => ?_⟩
    have h1 := h'.2 i hi
    unfold op4 at h1
    unfold wpOp
    cases ho : ops[i]? with
    | none => simp only [ho] at h1; exact wpAny_of_4 hrefl htr hsp f _ w0 F a w hst hw hcl hF h1
    | some o =>
      simp only [ho] at h1
      by_cases hwant : Region.wanted o (yielded ops a.tmps) = true
      · simp only [hwant, if_true] at h1 ⊢
        cases hs : kd i with
        | none =>
          simp only [hs] at h1
          obtain ⟨c, h2, h3⟩ := h1
          left
          unfold Oper.wp
          rw [show (execOp a.eval o).run P w = .ok (.value c) w from h2 w (fun _ => hw) hcl]
          exact wpAny_of_4 hrefl htr hsp f _ w0 F _ w hst hw hcl hF h3
        | some k2 =>
          cases k2 with
          | none =>
            simp only [hs] at h1
            refine (h1 w hw hcl hF).imp (Oper.wp_mono fun a' w' ⟨hcl', h3⟩ => ?_) id
            exact wpAny_of_4 hrefl htr hsp f _ w' none a' w' (fun _ _ _ _ _ => trivial) (hrefl _) hcl' (fun _ => trivial) h3
          | some S =>
            simp only [hs] at h1
            obtain ⟨h2, h3⟩ := h1
            left
            refine wp_of_rel (h2 w hw hcl (fun i _ => hF i)) fun v w' ⟨hr, hcl', hS⟩ => ?_
            exact wpAny_of_4 hrefl htr hsp f _ w0 _ _ w' (stable_upd hst (hsp i S hs v)) (htr _ _ _ hw hr) hcl' (fun k => ⟨hst k w w' hr (hF k), fun _ => hS⟩) (h3 v)
      · simp only [hwant] at h1 ⊢
        exact wpAny_of_4 hrefl htr hsp f _ w0 F _ w hst hw hcl hF h1

/-- A barrier, put ahead of an operation of kind (a) that is apart from it. -/
theorem wpOp_put4 {j : Nat} {oi oj : Oper} {v : Value} (hj : ops[j]? = .some oj) (hap : oi.apart ops oj = true) (hsj : ∀ cs b, oj.op ≠ .select cs b)
    (hQ : ∀ c a w, Q (.panic c) (a.put oi.dst v) w → Q (.panic c) a w) {K : Act → World → Prop} {a : Act} {w : World}
    (h : oj.wp P (a.put oi.dst v) w K Q ∨ (oj.asks P (a.put oi.dst v) w ∧ LetsOut Q)) :
    oj.wp P a w (fun a' w' => (∃ u D, a' = ({ a with defers := D } : Act).put oj.dst u) ∧ K (a'.put oi.dst v) w') Q ∨ (oj.asks P a w ∧ LetsOut Q) := by
  obtain ⟨h1, h2, h3⟩ := Oper.apart_spec hap
  rcases h with h | ⟨hasks, hlets⟩
  case inr => exact .inr ⟨by unfold Oper.asks at *; rw [execOp_put oj hsj a oi.dst v h1] at hasks; exact hasks, hlets⟩
  refine .inl ?_
  unfold Oper.wp at *
  rw [execOp_put oj hsj a oi.dst v h1] at h
  generalize (execOp a.eval oj).run P w = r at *
  cases r with
  | ok n w' =>
    cases n <;> simp only [Oper.upon] at h ⊢
    case value u => exact ⟨⟨u, a.defers, rfl⟩, by rw [← Act.put_comm a v u h2]; exact h⟩
    case skip => exact ⟨⟨undef, a.defers, rfl⟩, by rw [← Act.put_comm a v undef h2]; exact h⟩
    case defer d =>
      refine ⟨⟨undef, d :: a.defers, rfl⟩, ?_⟩
      rw [← Act.put_comm _ v undef h2, ← Act.put_defers]
      exact h
    case enter f args =>
      refine Calls.mono h fun e w'' he => ?_
      cases e with
      | returned u => exact ⟨⟨u, a.defers, rfl⟩, by rw [← Act.put_comm a v u h2]; exact he⟩
      | panicked c => exact hQ _ _ _ he
      | outgrown => exact he
    case row row args => exact Rows.mono h fun u w'' he => ⟨⟨u, a.defers, rfl⟩, by rw [← Act.put_comm a v u h2]; exact he⟩
  | halt x w' =>
    cases x <;> simp only [Oper.upon] at h ⊢
    case panic u => exact hQ _ _ _ h

/-- **An operation of kind (a) or (b) that may come up now may be taken first.** -/
theorem wpAny4_first (htr : ∀ a b c, Rel a b → Rel b c → Rel a c) (hsp : ∀ k S, kd k = .some (.some S) → ∀ v w w', Rel w w' → S v w → S v w') (hB : befOk ops T = true)
    (hbar : ∀ i j, (isB kd i = true ∨ ld i = true) → isC kd j = true → bef ops T j i = true ∨ bef ops T i j = true) (hQ : ∀ c (a : Act) x v w, Q (.panic c) (a.put x v) w → Q (.panic c) a w)
    {i : Nat} {oi : Oper} (hi : ops[i]? = .some oi) (hic : isC kd i = false) (hsel : ∀ (j : Nat) (o : Oper) cs b, ops[j]? = .some o → o.op ≠ .select cs b) :
    ∀ (f : Nat) (listed : Array Bool) (w0 : World) (F : Facts) (a : Act), StableF Rel F → Closed ops T listed →
      (∀ j oj, ops[j]? = .some oj → j ≠ i → listed.getD j true = false → (∀ e ∈ oj.after, Region.binds .any e = true → e.on ≠ i) → oi.apart ops oj = true) →
      i ∈ Region.ready .any ops listed → op4 P ops T Rel ld Cl kd Q i (wpAny4 P ops T Rel ld Cl kd Q f (listed.setIfInBounds i true)) w0 F a →
      wpAny4 P ops T Rel ld Cl kd Q (f + 1) listed w0 F a := by
  intro f
  induction f with
  | zero =>
    intro listed w0 F a hst hc _ hr H hinh
    refine ⟨fun h => (by rw [h] at hr; cases hr), fun j hj => ?_⟩
    by_cases hji : j = i
    · subst hji; exact H
    · exfalso
      have hrj := ready_mono hj hji
      obtain ⟨w, hw, hcl, hF⟩ := hinh
      unfold op4 at H
      simp only [hi] at H
      by_cases hwant : Region.wanted oi (yielded ops a.tmps) = true
      · simp only [hwant, if_true] at H
        cases hs : kd i with
        | none =>
          simp only [hs] at H
          obtain ⟨c, h2, h3⟩ := H
          have := (h3 ⟨w, hw, hcl, hF⟩).1
          rw [this] at hrj; cases hrj
        | some k2 =>
          cases k2 with
          | none => unfold isC at hic; rw [hs] at hic; cases hic
          | some S =>
            simp only [hs] at H
            obtain ⟨h2, h3⟩ := H
            obtain ⟨v, w', hr', hcl', hS⟩ := relUpon_exists (h2 w hw hcl (fun i _ => hF i))
            have := (h3 v ⟨w', htr _ _ _ hw hr', hcl', fun k => ⟨hst k w w' hr' (hF k), fun _ => hS⟩⟩).1
            rw [this] at hrj; cases hrj
      · simp only [hwant] at H
        have := (H ⟨w, hw, hcl, hF⟩).1
        rw [this] at hrj; cases hrj
  | succ f ih =>
    intro listed w0 F a hst hc hfree hr H hinh
    refine ⟨fun h => (by rw [h] at hr; cases hr), fun j hj => ?_⟩
    by_cases hji : j = i
    · subst hji; exact H
    obtain ⟨hjun, oj, hoj, hall⟩ := mem_ready.1 hj
    have hnot : ∀ e ∈ oj.after, Region.binds .any e = true → e.on ≠ i := fun e he hb heq => by
      have h1 := hall e he hb
      have h0 := (mem_ready.1 hr).1
      rw [heq] at h1
      rcases Nat.lt_or_ge i listed.size with h' | h'
      · simp [h'] at h0 h1; rw [h0] at h1; cases h1
      · simp [Array.getElem?_eq_none h'] at h1
    have hap := hfree j oj hoj hji hjun hnot
    obtain ⟨a1, a2, a3⟩ := Oper.apart_spec hap
    have hseli := fun cs b => hsel i oi cs b hi
    have hselj := fun cs b => hsel j oj cs b hoj
    have hfree' : ∀ k ok, ops[k]? = .some ok → k ≠ i → (listed.setIfInBounds j true).getD k true = false →
        (∀ e ∈ ok.after, Region.binds .any e = true → e.on ≠ i) → oi.apart ops ok = true := fun k ok hk hki hun hno => by
      refine hfree k ok hk hki ?_ hno
      by_cases hjk : j = k
      · subst hjk; exact hjun
      · rw [getD_set_ne true hjk] at hun; exact hun
    have nij : ¬ bef ops T i j = true := not_bef hB hc hr hj
    have nji : ¬ bef ops T j i = true := not_bef hB hc hj hr
    have hc' := closed_set hB hc hj
    have hr' := ready_mono hr (Ne.symm hji)
    have hjr := ready_mono hj hji
    have exi : ∀ u D, execOp (({ a with defers := D } : Act).put oj.dst u).eval oi = execOp a.eval oi := fun u D => (execOp_put oi hseli { a with defers := D } oj.dst u a3).trans rfl
    have wai : ∀ u D, Region.wanted oi (yielded ops (({ a with defers := D } : Act).put oj.dst u).tmps) = Region.wanted oi (yielded ops a.tmps) := fun u D => (wanted_put oi { a with defers := D } oj.dst u a3).trans rfl
    have exi' : ∀ u, execOp (a.put oj.dst u).eval oi = execOp a.eval oi := fun u => exi u a.defers
    have wai' : ∀ u, Region.wanted oi (yielded ops (a.put oj.dst u).tmps) = Region.wanted oi (yielded ops a.tmps) := fun u => wai u a.defers
    have exj : ∀ v, execOp (a.put oi.dst v).eval oj = execOp a.eval oj := fun v => execOp_put oj hselj a oi.dst v a1
    have waj : ∀ v, Region.wanted oj (yielded ops (a.put oi.dst v).tmps) = Region.wanted oj (yielded ops a.tmps) := fun v => wanted_put oj a oi.dst v a1
    have comm : ∀ u v, (a.put oj.dst u).put oi.dst v = (a.put oi.dst v).put oj.dst u := fun u v => (Act.put_comm a v u a2).symm
    have lcomm : (listed.setIfInBounds j true).setIfInBounds i true = (listed.setIfInBounds i true).setIfInBounds j true := Array.setIfInBounds_comm _ _ hji
    -- j is a barrier: i is of kind (a), or passed over
    by_cases hjc : isC kd j = true ∧ Region.wanted oj (yielded ops a.tmps) = true
    · obtain ⟨hjc, hwj⟩ := hjc
      have hjk : kd j = .some .none := by
        unfold isC at hjc; revert hjc; cases kd j with
        | none => intro h; cases h
        | some x => cases x with
          | none => intro _; rfl
          | some S => intro h; cases h
      -- the value of i, at any defers
      obtain ⟨c, hcrun, hcont⟩ : ∃ c, (∀ (u : Value) (D : List Deferred) (w0' : World) (F' : Facts) (K : World → Facts → Act → Prop),
            K w0' F' ((({ a with defers := D } : Act).put oj.dst u).put oi.dst c) → op4 P ops T Rel ld Cl kd Q i K w0' F' (({ a with defers := D } : Act).put oj.dst u)) ∧
          wpAny4 P ops T Rel ld Cl kd Q (f + 1) (listed.setIfInBounds i true) w0 F (a.put oi.dst c) := by
        unfold op4 at H
        simp only [hi] at H
        by_cases hwant : Region.wanted oi (yielded ops a.tmps) = true
        · simp only [hwant, if_true] at H
          cases hs : kd i with
          | none =>
            simp only [hs] at H
            obtain ⟨c, h2, h3⟩ := H
            refine ⟨c, fun u D w0' F' K hK => ?_, h3⟩
            unfold op4
            simp only [hi, wai, hwant, if_true, hs]
            refine ⟨c, fun w hld hcl => ?_, hK⟩
            have := h2 w (fun hl => (by
              rcases hbar i j (.inr hl) hjc with h | h
              · exact absurd h nji
              · exact absurd h nij)) hcl
            unfold stillAt at *
            rw [exi]; exact this
          | some k2 =>
            cases k2 with
            | none => unfold isC at hic; rw [hs] at hic; cases hic
            | some S =>
              exfalso
              rcases hbar i j (.inl (by unfold isB; rw [hs])) hjc with h | h
              · exact nji h
              · exact nij h
        · simp only [hwant] at H
          refine ⟨undef, fun u D w0' F' K hK => ?_, H⟩
          unfold op4
          simp only [hi, wai, hwant]
          exact hK
      have s0 := (hcont hinh).2 j hjr
      unfold op4 at s0 ⊢
      simp only [hoj, waj, hwj, if_true, hjk] at s0 ⊢
      intro w hw hcl hF
      refine (wpOp_put4 hoj hap hselj (fun c a w h => hQ c a _ _ w h) (s0 w hw hcl hF)).imp (Oper.wp_mono fun a' w' ⟨⟨u, D, ha'⟩, hcl', hK⟩ => ⟨hcl', ?_⟩) id
      subst ha'
      refine ih _ w' none _ (fun _ _ _ _ _ => trivial) hc' hfree' hr' (hcrun u D w' none _ ?_)
      rw [lcomm]
      exact hK
    -- the instances of i
    obtain ⟨Inst, hex, hinst, hback⟩ : ∃ Inst : Value → (Facts → Facts) → Prop,
        (∃ v U, Inst v U ∧ Inh4 Rel Cl w0 (U F)) ∧
        (∀ v U, Inst v U → (∀ w, Pre ops T (U F) j w ↔ Pre ops T F j w) ∧ (∀ G S, U (upd G j S) = upd (U G) j S) ∧ (∀ G S, Inh4 Rel Cl w0 (U (upd G j S)) → Inh4 Rel Cl w0 (U G)) ∧ wpAny4 P ops T Rel ld Cl kd Q (f + 1) (listed.setIfInBounds i true) w0 (U F) (a.put oi.dst v)) ∧
        (∀ (G : Facts) (u : Value) (K : World → Facts → Act → Prop), (∀ w, Pre ops T G i w → Pre ops T F i w) → (∀ v U, Inst v U → K w0 (U G) ((a.put oj.dst u).put oi.dst v)) →
          op4 P ops T Rel ld Cl kd Q i K w0 G (a.put oj.dst u)) := by
      obtain ⟨w, hw, hcl, hF⟩ := hinh
      unfold op4 at H
      simp only [hi] at H
      by_cases hwant : Region.wanted oi (yielded ops a.tmps) = true
      · simp only [hwant, if_true] at H
        cases hs : kd i with
        | none =>
          simp only [hs] at H
          obtain ⟨c, h2, h3⟩ := H
          refine ⟨fun v U => v = c ∧ U = id, ⟨c, id, ⟨rfl, rfl⟩, w, hw, hcl, hF⟩, ?_, ?_⟩
          · rintro v U ⟨rfl, rfl⟩
            exact ⟨fun _ => Iff.rfl, fun _ _ => rfl, fun _ _ h => inh4_upd h, h3⟩
          · intro G u K hG hK
            unfold op4
            simp only [hi, wai', hwant, if_true, hs]
            refine ⟨c, fun w hld hcl => ?_, hK c id ⟨rfl, rfl⟩⟩
            have := h2 w hld hcl
            unfold stillAt at *
            rw [exi']; exact this
        | some k2 =>
          cases k2 with
          | none => unfold isC at hic; rw [hs] at hic; cases hic
          | some S =>
            simp only [hs] at H
            obtain ⟨h2, h3⟩ := H
            obtain ⟨v0, w', hr0, hcl0, hS0⟩ := relUpon_exists (h2 w hw hcl (fun i _ => hF i))
            refine ⟨fun v U => U = fun G => upd G i (S v), ⟨v0, _, rfl, w', htr _ _ _ hw hr0, hcl0, fun k => ⟨hst k w w' hr0 (hF k), fun _ => hS0⟩⟩, ?_, ?_⟩
            · rintro v U rfl
              exact ⟨fun w => pre_upd nji, fun G S' => upd_comm _ _ _ _ _, fun G S' h => inh4_upd_mono h, h3 v⟩
            · intro G u K hG hK
              unfold op4
              simp only [hi, wai', hwant, if_true, hs]
              refine ⟨fun w hw hcl hp => ?_, fun v => hK v _ rfl⟩
              have := h2 w hw hcl (hG w hp)
              unfold relAt at *
              rw [exi']; exact this
      · simp only [hwant] at H
        refine ⟨fun v U => v = undef ∧ U = id, ⟨undef, id, ⟨rfl, rfl⟩, w, hw, hcl, hF⟩, ?_, ?_⟩
        · rintro v U ⟨rfl, rfl⟩
          exact ⟨fun _ => Iff.rfl, fun _ _ => rfl, fun _ _ h => inh4_upd h, H⟩
        · intro G u K hG hK
          unfold op4
          simp only [hi, wai', hwant]
          exact hK undef id ⟨rfl, rfl⟩
    obtain ⟨v0, U0, hI0, hinh0⟩ := hex
    have stepj : ∀ v U, Inst v U → Inh4 Rel Cl w0 (U F) → op4 P ops T Rel ld Cl kd Q j (wpAny4 P ops T Rel ld Cl kd Q f ((listed.setIfInBounds i true).setIfInBounds j true)) w0 (U F) (a.put oi.dst v) :=
      fun v U hI hn => ((hinst v U hI).2.2.2 hn).2 j hjr
    have s0 := stepj v0 U0 hI0 hinh0
    unfold op4 at s0 ⊢
    simp only [hoj, waj] at s0 ⊢
    by_cases hwant : Region.wanted oj (yielded ops a.tmps) = true
    · simp only [hwant, if_true] at s0 ⊢
      cases hs : kd j with
      | none =>
        simp only [hs] at s0 ⊢
        obtain ⟨c, hc1, hc2⟩ := s0
        have hstill : ∀ w, (ld j = true → Rel w0 w) → Cl w → stillAt P oj a w c := fun w hld hcl => by
          have := hc1 w hld hcl
          unfold stillAt at *
          rw [← exj v0]; exact this
        refine ⟨c, hstill, ih _ w0 F _ hst hc' hfree' hr' (hback F c _ (fun _ h => h) fun v U hI => wpAny4_of_inh fun hn => ?_)⟩
        have sv := stepj v U hI hn
        unfold op4 at sv
        simp only [hoj, waj, hwant, if_true, hs] at sv
        obtain ⟨c', hc1', hc2'⟩ := sv
        obtain ⟨w, hw, hcl, hF⟩ := hn
        have e1 := hc1' w (fun _ => hw) hcl
        have e2 := hstill w (fun _ => hw) hcl
        unfold stillAt at e1 e2
        rw [exj, e2] at e1
        injection e1 with e1 _
        injection e1 with e1
        subst e1
        rw [lcomm, comm]
        exact hc2'
      | some k2 =>
        cases k2 with
        | none => exact absurd ⟨by unfold isC; rw [hs], hwant⟩ hjc
        | some S =>
          simp only [hs] at s0 ⊢
          obtain ⟨hc1, hc2⟩ := s0
          refine ⟨fun w hw hcl hp => ?_, fun u => ih _ w0 _ _ (stable_upd hst (hsp j S hs u)) hc' hfree' hr' (hback _ u _ (fun w h => (pre_upd nij).1 h) fun v U hI => wpAny4_of_inh fun hn => ?_)⟩
          · have := hc1 w hw hcl (((hinst v0 U0 hI0).1 w).2 hp)
            unfold relAt at *
            rw [← exj v0]; exact this
          · have hn' : Inh4 Rel Cl w0 (U F) := (hinst v U hI).2.2.1 F _ hn
            have sv := stepj v U hI hn'
            unfold op4 at sv
            simp only [hoj, waj, hwant, if_true, hs] at sv
            rw [lcomm, comm, (hinst v U hI).2.1]
            exact sv.2 u
    · simp only [hwant] at s0 ⊢
      refine ih _ w0 F _ hst hc' hfree' hr' (hback F undef _ (fun _ h => h) fun v U hI => wpAny4_of_inh fun hn => ?_)
      have sv := stepj v U hI hn
      unfold op4 at sv
      simp only [hoj, waj, hwant] at sv
      rw [lcomm, comm]
      exact sv

theorem wpAny4_lex (htr : ∀ a b c, Rel a b → Rel b c → Rel a c) (hsp : ∀ k S, kd k = .some (.some S) → ∀ v w w', Rel w w' → S v w → S v w') (hB : befOk ops T = true)
    (hbar : ∀ i j, (isB kd i = true ∨ ld i = true) → isC kd j = true → bef ops T j i = true ∨ bef ops T i j = true) (hQ : ∀ c (a : Act) x v w, Q (.panic c) (a.put x v) w → Q (.panic c) a w)
    (C : List Nat) (hC : ∀ k, isC kd k = C.contains k) (hs : Region.noSelect ops = true) : ∀ (l : List (Nat × Oper)) (listed : Array Bool) (w0 : World) (F : Facts) (a : Act), (∀ p ∈ l, ops[p.1]? = .some p.2) →
    lex4 ops C (l.map (·.1)) listed = true → Closed ops T listed → StableF Rel F → wp4 P ops T Rel ld Cl kd Q l w0 F a → wpAny4 P ops T Rel ld Cl kd Q l.length listed w0 F a
  | [], _, _, _, _, _, hL, _, _, h => fun _ => ⟨by simpa [lex4] using hL, h⟩
  | (k, o) :: l, listed, w0, F, a, hl, hL, hc, hst, h => by
    have h0 : ops[k]? = .some o := hl (k, o) (by simp)
    simp only [List.map_cons, lex4, Bool.and_eq_true] at hL
    obtain ⟨hL1, hL'⟩ := hL
    have hl' : ∀ p ∈ l, ops[p.1]? = .some p.2 := fun p hp => hl p (by simp [hp])
    by_cases hkc : C.contains k = true
    · rw [if_pos hkc, decide_eq_true_eq] at hL1
      have hr' : k ∈ Region.ready .any ops listed := by rw [hL1]; simp
      have IH := fun w0 F a hst h => wpAny4_lex htr hsp hB hbar hQ C hC hs l (listed.setIfInBounds k true) w0 F a hl' hL' (closed_set hB hc hr') hst h
      intro hinh
      refine ⟨fun h => (by rw [hL1] at h; cases h), fun i hi => ?_⟩
      rw [hL1] at hi
      obtain rfl : i = k := by simpa using hi
      have hkk : kd i = .some .none := by
        have := hC i
        rw [hkc] at this
        unfold isC at this; revert this; cases kd i with
        | none => intro h; cases h
        | some x => cases x with
          | none => intro _; rfl
          | some S => intro h; cases h
      unfold op4
      unfold wp4 at h
      simp only [h0]
      by_cases hwant : Region.wanted o (yielded ops a.tmps) = true
      · simp only [hwant, if_true, hkk] at h ⊢
        intro w hw hcl hF
        exact (h w hw hcl hF).imp (Oper.wp_mono fun a' w' ⟨h1, h2⟩ => ⟨h1, IH w' none a' (fun _ _ _ _ _ => trivial) h2⟩) id
      · simp only [hwant] at h ⊢
        exact IH _ _ _ hst h
    · rw [if_neg hkc, Bool.and_eq_true] at hL1
      obtain ⟨hr, hf⟩ := hL1
      have hr' : k ∈ Region.ready .any ops listed := by simpa using hr
      have IH := fun w0 F a hst h => wpAny4_lex htr hsp hB hbar hQ C hC hs l (listed.setIfInBounds k true) w0 F a hl' hL' (closed_set hB hc hr') hst h
      have hkc' : isC kd k = false := by rw [hC]; simpa using hkc
      refine wpAny4_first htr hsp hB hbar hQ h0 hkc' (Region.noSelect_spec hs) l.length listed w0 F a hst hc (Region.free_spec h0 hf) hr' ?_
      unfold op4
      unfold wp4 at h
      simp only [h0]
      by_cases hwant : Region.wanted o (yielded ops a.tmps) = true
      · simp only [hwant, if_true] at h ⊢
        cases hs : kd k with
        | none =>
          simp only [hs] at h ⊢
          obtain ⟨c, h1, h2⟩ := h
          exact ⟨c, h1, IH _ _ _ hst h2⟩
        | some k2 =>
          cases k2 with
          | none => unfold isC at hkc'; rw [hs] at hkc'; cases hkc'
          | some S =>
            simp only [hs] at h ⊢
            obtain ⟨h1, h2⟩ := h
            exact ⟨h1, fun v => wpAny4_of_inh fun ⟨w, hw, hcl, hF⟩ => IH _ _ _ (stable_upd hst (hsp k S hs v)) (h2 v ⟨w, hw, hcl, (hF k).2 rfl⟩)⟩
      · simp only [hwant] at h ⊢
        exact IH _ _ _ hst h

section steps
variable {w0 : World} {o : Oper} {rest : List (Nat × Oper)} {k : Nat} {F : Facts} {a : Act}
theorem w4_nil (h : ∀ w, Rel w0 w → Cl w → All F w → Q .normal a w) : wp4 P ops T Rel ld Cl kd Q [] w0 F a := h
theorem w4_skip (hw : Region.wanted o (yielded ops a.tmps) = false) (h : wp4 P ops T Rel ld Cl kd Q rest w0 F (a.put o.dst undef)) : wp4 P ops T Rel ld Cl kd Q ((k, o) :: rest) w0 F a := by
  unfold wp4; rw [if_neg (by rw [hw]; decide)]; exact h
theorem w4_pure (hw : Region.wanted o (yielded ops a.tmps) = true) (hs : kd k = .none) (h : ∃ c, (∀ w, (ld k = true → Rel w0 w) → Cl w → (execOp a.eval o).run P w = .ok (.value c) w) ∧ wp4 P ops T Rel ld Cl kd Q rest w0 F (a.put o.dst c)) :
    wp4 P ops T Rel ld Cl kd Q ((k, o) :: rest) w0 F a := by
  unfold wp4; rw [if_pos hw, hs]; exact h
theorem w4_any (hw : Region.wanted o (yielded ops a.tmps) = true) (hs : kd k = .none) (h : ∃ c, (∀ w, (execOp a.eval o).run P w = .ok (.value c) w) ∧ wp4 P ops T Rel ld Cl kd Q rest w0 F (a.put o.dst c)) :
    wp4 P ops T Rel ld Cl kd Q ((k, o) :: rest) w0 F a := w4_pure hw hs (let ⟨c, h1, h2⟩ := h; ⟨c, fun w _ _ => h1 w, h2⟩)
theorem w4_read (hw : Region.wanted o (yielded ops a.tmps) = true) (hs : kd k = .none) (hl : ld k = true) (h : ∃ c, (∀ w, Rel w0 w → Cl w → (execOp a.eval o).run P w = .ok (.value c) w) ∧ wp4 P ops T Rel ld Cl kd Q rest w0 F (a.put o.dst c)) :
    wp4 P ops T Rel ld Cl kd Q ((k, o) :: rest) w0 F a := w4_pure hw hs (let ⟨c, h1, h2⟩ := h; ⟨c, fun w q => h1 w (q hl), h2⟩)
theorem w4_cl (hw : Region.wanted o (yielded ops a.tmps) = true) (hs : kd k = .none) (h : ∃ c, (∀ w, Cl w → (execOp a.eval o).run P w = .ok (.value c) w) ∧ wp4 P ops T Rel ld Cl kd Q rest w0 F (a.put o.dst c)) :
    wp4 P ops T Rel ld Cl kd Q ((k, o) :: rest) w0 F a := w4_pure hw hs (let ⟨c, h1, h2⟩ := h; ⟨c, fun w _ => h1 w, h2⟩)
theorem w4_some {S : Value → World → Prop} (hw : Region.wanted o (yielded ops a.tmps) = true) (hs : kd k = .some (.some S)) (hc : ∀ w, Rel w0 w → Cl w → Pre ops T F k w → relAt P o a w (fun v w' => Rel w w' ∧ Cl w' ∧ S v w'))
    (h : ∀ v, (∃ w, Rel w0 w ∧ Cl w ∧ S v w) → wp4 P ops T Rel ld Cl kd Q rest w0 (upd F k (S v)) (a.put o.dst v)) : wp4 P ops T Rel ld Cl kd Q ((k, o) :: rest) w0 F a := by
  unfold wp4; rw [if_pos hw, hs]; exact ⟨hc, h⟩
theorem w4_bar (hw : Region.wanted o (yielded ops a.tmps) = true) (hs : kd k = .some .none)
    (h : ∀ w, Rel w0 w → Cl w → All F w → ∀ K : Act → World → Prop, (∀ a' w', Cl w' ∧ wp4 P ops T Rel ld Cl kd Q rest w' none a' → K a' w') → o.wp P a w K Q) : wp4 P ops T Rel ld Cl kd Q ((k, o) :: rest) w0 F a := by
  unfold wp4; rw [if_pos hw, hs]
  exact fun w hr hcl hF => .inl (h w hr hcl hF _ fun _ _ q => q)
end steps
end
/-- What is asked of a panic does not look at the slots. -/
def PB (Q : Exit → Act → World → Prop) : Prop := ∀ c (a : Act) x v w, Q (.panic c) (a.put x v) w → Q (.panic c) a w
theorem pb_then {K : Act → World → Prop} {Q : Exit → Act → World → Prop} (h : PB Q) : PB (Exit.then K Q) := fun c a x v w q => h c a x v w q
theorem pb_inBlock {i : Nat} {Q : Exit → Act → World → Prop} (h : PB Q) : PB (Exit.inBlock i Q) := fun c a x v w q => h c a x v w q
theorem pb_noGoto {Q : Exit → Act → World → Prop} (h : PB Q) : PB (Exit.noGoto Q) := fun c a x v w q => h c a x v w q
theorem pb_body {P : Program} {fn : Func} {R : Ending → World → Prop} : PB (bodyPost P fn R) := fun c a x v w q => ⟨by cases x <;> exact q.1, q.2⟩
theorem leaves0 {P : Program} {fn : Func} {R : Ending → World → Prop} {tmps tmps' : Array Value} (hr : fn.results = #[]) : ∀ {ds : List Deferred} {u : FrameMode} {w : World}, Leaves P fn tmps R ds u w → Leaves P fn tmps' R ds u w
  | [], .run, _, h => h
  | [], .returning, _, ⟨v, h1, h2⟩ => by
    rw [results_none hr] at h1
    exact ⟨v, by rw [results_none hr]; exact h1, h2⟩
  | [], .panicking _, _, h => h
  | _ :: _, _, _, ⟨hu, fv, cap, f, args, ht, hi, hc⟩ => ⟨hu, fv, cap, f, args, ht, hi, fun c cs hm => by
    obtain ⟨e, u', w', fr, h1, h2⟩ := hc c cs hm
    refine ⟨e, u', w', fr, ?_, h2⟩
    cases e with
    | returned v => exact leaves0 hr h1
    | panicked ch => exact leaves0 hr h1
    | outgrown => exact h1⟩
theorem pb_bodyD {P : Program} {fn : Func} {R : Ending → World → Prop} (hr : fn.results = #[]) : PB (bodyPostD P fn R) := fun c a x v w q => by
  cases x with
  | none => exact q
  | some x => exact leaves0 hr q
/-- A guard's Bool is there, as it is wanted, or not. -/
theorem want_of {ops : Array Oper} {o : Oper} {a : Act} (g d : Nat) (gb : Bool) (h : o.guard = some (g, gb)) (hd : (ops[g]?).bind (·.dst) = some d) (ht : a.tmps[d]? = some (.bool gb)) : Region.wanted o (yielded ops a.tmps) = true := by
  simp [Region.wanted, yielded, h, hd, ht]
theorem unwant_of {ops : Array Oper} {o : Oper} {a : Act} (g d : Nat) (gb : Bool) (h : o.guard = some (g, gb)) (hd : (ops[g]?).bind (·.dst) = some d) (ht : a.tmps[d]? = some (.bool (!gb))) : Region.wanted o (yielded ops a.tmps) = false := by
  simp [Region.wanted, yielded, h, hd, ht]
theorem unwant_nil {ops : Array Oper} {o : Oper} {a : Act} (g d : Nat) (gb : Bool) (h : o.guard = some (g, gb)) (hd : (ops[g]?).bind (·.dst) = some d) (ht : a.tmps[d]? = some undef) : Region.wanted o (yielded ops a.tmps) = false := by
  simp [Region.wanted, yielded, h, hd, ht, undef]
theorem want_none {ops : Array Oper} {o : Oper} {a : Act} (h : o.guard = .none) : Region.wanted o (yielded ops a.tmps) = true := by
  simp [Region.wanted, h]
/-- The kinds: the listed specifications; the listed barriers; all else is of kind (a). -/
def kdOf {Rel : World → World → Prop} (Bs : List (Nat × Sp Rel)) (Cs : List Nat) (k : Nat) : Kd := if Cs.contains k then .some .none else (spOf Bs k).map .some
theorem kdOf_C {Rel : World → World → Prop} (Bs : List (Nat × Sp Rel)) (Cs : List Nat) (k : Nat) : isC (kdOf Bs Cs) k = Cs.contains k := by
  unfold isC kdOf
  cases h : Cs.contains k
  · simp only [Bool.false_eq_true, if_false]
    cases spOf Bs k <;> rfl
  · rfl
theorem kdOf_B {Rel : World → World → Prop} (Bs : List (Nat × Sp Rel)) (Cs : List Nat) (k : Nat) (h : isB (kdOf Bs Cs) k = true) : k ∈ Bs.map (·.1) := by
  unfold isB kdOf at h
  cases h' : Cs.contains k
  · rw [h'] at h
    simp only [Bool.false_eq_true, if_false] at h
    clear h'
    induction Bs with
    | nil => simp [spOf] at h
    | cons p Bs ih =>
      obtain ⟨i, s⟩ := p
      unfold spOf at h
      by_cases hk : k = i
      · simp [hk]
      · rw [if_neg hk] at h
        simp only [List.map_cons, List.mem_cons]
        exact .inr (ih h)
  · rw [h'] at h; simp at h
theorem kdOf_sp {Rel : World → World → Prop} (Bs : List (Nat × Sp Rel)) (Cs : List Nat) (k : Nat) (S : Value → World → Prop) (h : kdOf Bs Cs k = .some (.some S)) : ∀ v w w', Rel w w' → S v w → S v w' := by
  unfold kdOf at h
  split at h
  · cases h
  · cases hs : spOf Bs k with
    | none => rw [hs] at h; cases h
    | some S' =>
      rw [hs] at h
      injection h with h
      injection h with h
      subst h
      exact spOf_stable Bs k S' hs
/-- The operations in a lawful order of their own. -/
def inOrd (l : List Oper) (ord : List Nat) : List (Nat × Oper) := ord.filterMap fun k => (l[k]?).map fun o => (k, o)
theorem inOrd_mem {l : List Oper} {ord : List Nat} : ∀ p ∈ inOrd l ord, l.toArray[p.1]? = .some p.2 := by
  intro p hp
  unfold inOrd at hp
  rw [List.mem_filterMap] at hp
  obtain ⟨k, _, hk⟩ := hp
  cases h : l[k]? with
  | none => rw [h] at hk; cases hk
  | some o => rw [h] at hk; injection hk with hk; subst hk; simpa using h
theorem wp_region4 {P : Program} {Rel : World → World → Prop} (T : Array Nat) (Bs : List (Nat × Sp Rel)) (Cs Ls : List Nat) (Cl : World → Prop) (ord : List Nat) {id : Nat} {Q : Exit → Act → World → Prop} {a : Act} {w : World} {l : List Oper} (hm : P.follows .mixedOrders = true)
    (hL : (Region.noSelect l.toArray && (lex4 l.toArray Cs ((inOrd l ord).map (·.1)) (Array.replicate l.length false) && (inOrd l ord).length == l.length)) = true) (hB : befOk l.toArray T = true) (hb : barB l.toArray T (Bs.map (·.1) ++ Ls) Cs = true)
    (hrefl : ∀ w, Rel w w) (htr : ∀ a b c, Rel a b → Rel b c → Rel a c) (hQ : ∀ c (a : Act) x v w, Q (.panic c) (a.put x v) w → Q (.panic c) a w) (hcl : Cl { w with drawn := w.drawn + 1 })
    (h : wp4 P l.toArray T Rel (fun k => Ls.contains k) Cl (kdOf Bs Cs) Q (inOrd l ord) { w with drawn := w.drawn + 1 } none a) : (Code.region id l.toArray true).wp P Q a w := by
  rw [Bool.and_eq_true, Bool.and_eq_true] at hL
  have hlen : (inOrd l ord).length = l.length := by simpa using hL.2.2
  refine wp_region_any hm (wpAny_of_4 (T := T) (ld := fun k => Ls.contains k) hrefl htr (kdOf_sp Bs Cs) _ _ { w with drawn := w.drawn + 1 } none _ _ (fun _ _ _ _ _ => trivial) (hrefl _) hcl (fun _ => trivial) ?_)
  have := wpAny4_lex (P := P) (Q := Q) (ld := fun k => Ls.contains k) (Cl := Cl) htr (kdOf_sp Bs Cs) hB (fun i j hi hj => ?_) hQ Cs (kdOf_C Bs Cs) hL.1 (inOrd l ord) (Array.replicate l.length false) { w with drawn := w.drawn + 1 } none a inOrd_mem hL.2.1 (fun k m hk => by
    exfalso
    by_cases h : k < l.length <;> simp [h] at hk) (fun _ _ _ _ _ => trivial) h
  · rw [hlen] at this; simpa using this
  · rw [kdOf_C] at hj
    have h1 := List.all_eq_true.1 hb j (by simpa using hj)
    have h2 := List.all_eq_true.1 h1 i (by
      rw [List.mem_append]
      rcases hi with hi | hi
      · exact .inl (kdOf_B Bs Cs i hi)
      · exact .inr (by simpa using hi))
    simpa using h2
/-- Where nothing but the barriers touches the world. -/
theorem wp_region4_eq {P : Program} (T : Array Nat) (Cs Ls : List Nat) (Cl : World → Prop) (ord : List Nat) {id : Nat} {Q : Exit → Act → World → Prop} {a : Act} {w : World} {l : List Oper} (hm : P.follows .mixedOrders = true)
    (hL : (Region.noSelect l.toArray && (lex4 l.toArray Cs ((inOrd l ord).map (·.1)) (Array.replicate l.length false) && (inOrd l ord).length == l.length)) = true) (hB : befOk l.toArray T = true) (hb : barB l.toArray T Ls Cs = true)
    (hQ : ∀ c (a : Act) x v w, Q (.panic c) (a.put x v) w → Q (.panic c) a w) (hcl : Cl { w with drawn := w.drawn + 1 })
    (h : wp4 P l.toArray T (· = ·) (fun k => Ls.contains k) Cl (kdOf (Rel := (· = ·)) [] Cs) Q (inOrd l ord) { w with drawn := w.drawn + 1 } none a) : (Code.region id l.toArray true).wp P Q a w :=
  wp_region4 T [] Cs Ls Cl ord hm hL hB (by simpa using hb) (fun _ => rfl) (fun _ _ _ h k => h.trans k) hQ hcl h
/-- A slot that is put, for simp. -/
theorem nrm : (∀ (a : Act) (d : Nat) (v : Value), a.put (some d) v = { a with tmps := a.tmps.setIfInBounds d v }) ∧ (∀ (a : Act) (v : Value), a.put none v = a) ∧ (∀ (α : Type) (xs : List α) (i : Nat) (a : α), xs.toArray.setIfInBounds i a = (xs.set i a).toArray) ∧
    (∀ (α : Type) (i : Nat) (a : α), ([] : List α).set i a = []) ∧ (∀ (α : Type) (x a : α) (l : List α), (x :: l).set 0 a = a :: l) ∧ (∀ (α : Type) (x a : α) (l : List α) (n : Nat), (x :: l).set (n + 1) a = x :: l.set n a) :=
  ⟨fun _ _ _ => rfl, fun _ _ => rfl, fun _ xs i a => List.setIfInBounds_toArray xs i a, fun _ _ _ => rfl, fun _ _ _ _ => rfl, fun _ _ _ _ _ => rfl⟩
theorem wt {ops : Array Oper} {o : Oper} {a : Act} {g d : Nat} {gb : Bool} (h : o.guard = some (g, gb)) (hd : (ops[g]?).bind (·.dst) = some d) (ht : a.tmps[d]? = some (.bool gb)) : Region.wanted o (yielded ops a.tmps) = true := want_of g d gb h hd ht
theorem uw {ops : Array Oper} {o : Oper} {a : Act} {g d : Nat} {gb : Bool} (h : o.guard = some (g, gb)) (hd : (ops[g]?).bind (·.dst) = some d) (ht : a.tmps[d]? = some (.bool (!gb))) : Region.wanted o (yielded ops a.tmps) = false := unwant_of g d gb h hd ht
theorem un {ops : Array Oper} {o : Oper} {a : Act} {g d : Nat} {gb : Bool} (h : o.guard = some (g, gb)) (hd : (ops[g]?).bind (·.dst) = some d) (ht : a.tmps[d]? = some undef) : Region.wanted o (yielded ops a.tmps) = false := unwant_nil g d gb h hd ht
attribute [irreducible] wp4
end Go.Proofs.Ythdbobnebpoolaa.Rg4

namespace Go.Proofs.Ythdbobnebpoolaa
set_option linter.unusedSimpArgs false
set_option linter.unusedVariables false
open Go Go.RowKit
end Go.Proofs.Ythdbobnebpoolaa

namespace Go.Proofs.Ythdbobnebpoolaa
set_option linter.unusedSimpArgs false
set_option linter.unusedVariables false
open Go Go.RowKit
end Go.Proofs.Ythdbobnebpoolaa

namespace Go.Proofs.Ythdbobnebpoolaa
set_option linter.unusedSimpArgs false
set_option linter.unusedVariables false
open Go Go.RowKit
/-- A datum of k cells, none of which points. -/
class Flt (α : Type) where
  k : Nat
  cells : α → List Value
  len : ∀ x, (cells x).length = k
  pos : 0 < k
  one : ∀ x, ∀ u ∈ cells x, u.oneCell' = true
def fltR {α : Type} [Flt α] : World → Nat → Nat → α → Prop := fun w b o x => ∀ (j : Nat) (v : Value), (Flt.cells x)[j]? = some v → w.cell? ⟨b, o + j, none⟩ = some v
instance fltR_stb {α : Type} [Flt α] : Stb (fltR (α := α)) := ⟨fun _ _ _ _ _ hx h j v hj => hx.cell (h j v hj)⟩
/-- The slice (a, n) reads as xs. -/
abbrev Fl {α : Type} [Flt α] (w : World) (a : Option Addr) (n : Nat) (xs : List α) : Prop := Arr (Flt.k α) fltR w a n xs
def cellsL {α : Type} [Flt α] (xs : List α) : List Value := xs.flatMap Flt.cells
section
variable {α : Type} [Flt α]
theorem cellsL_cons (x : α) (xs : List α) : cellsL (x :: xs) = Flt.cells x ++ cellsL xs := rfl
theorem cellsL_append (xs ys : List α) : cellsL (xs ++ ys) = cellsL xs ++ cellsL ys := by simp [cellsL]
theorem cellsL_one' (x : α) : cellsL [x] = Flt.cells x := by simp [cellsL]
theorem cellsL_len (xs : List α) : (cellsL xs).length = xs.length * Flt.k α := by
  induction xs with
  | nil => simp [cellsL]
  | cons x xs ih => rw [cellsL_cons, List.length_append, ih, Flt.len, List.length_cons, Nat.add_mul, Nat.one_mul, Nat.add_comm]
theorem cellsL_get : ∀ {xs : List α} {i j : Nat} {x : α}, xs[i]? = some x → j < Flt.k α → (cellsL xs)[i * Flt.k α + j]? = (Flt.cells x)[j]?
  | [], i, j, x, h, _ => by simp at h
  | y :: xs, 0, j, x, h, hj => by
    simp at h; subst h
    rw [cellsL_cons, Nat.zero_mul, Nat.zero_add, List.getElem?_append_left (by rw [Flt.len]; exact hj)]
  | y :: xs, i + 1, j, x, h, hj => by
    have := cellsL_get (xs := xs) (i := i) (j := j) (x := x) (by simpa using h) hj
    rw [cellsL_cons, List.getElem?_append_right (by rw [Flt.len, Nat.add_mul]; omega), Flt.len, ← this]
    congr 1
    rw [Nat.add_mul]; omega
theorem cellsL_all (xs : List α) : ∀ u ∈ cellsL xs, u.oneCell' = true := by
  intro u hu
  obtain ⟨x, _, hx⟩ := List.mem_flatMap.1 hu
  exact Flt.one x u hx
theorem Fl.nil (w : World) (a : Option Addr) : Fl w a 0 ([] : List α) := ⟨rfl, fun h => by omega⟩
theorem Fl.flat {w : World} {a : Option Addr} {n : Nat} {xs : List α} (h : Fl w a n xs) : Flat w a n (Flt.k α) (cellsL xs) := by
  refine ⟨by rw [cellsL_len, h.1], fun h0 => ?_⟩
  have hk := Flt.pos (α := α)
  have hn : 0 < n := by
    rcases Nat.eq_zero_or_pos n with q | q
    · rw [cellsL_len, ← h.1, q] at h0; simp at h0
    · exact q
  obtain ⟨b, off, rfl, hc⟩ := h.2 hn
  refine ⟨_, rfl, fun j u hj => ?_⟩
  have hjl := (List.getElem?_eq_some_iff.1 hj).1
  rw [cellsL_len] at hjl
  have hi : j / Flt.k α < xs.length := (Nat.div_lt_iff_lt_mul hk).2 hjl
  have hr : j % Flt.k α < Flt.k α := Nat.mod_lt _ hk
  have e : j / Flt.k α * Flt.k α + j % Flt.k α = j := by rw [Nat.mul_comm]; exact Nat.div_add_mod _ _
  have h1 := cellsL_get (List.getElem?_eq_getElem hi) hr
  rw [e, hj] at h1
  have := hc _ _ (List.getElem?_eq_getElem hi) _ _ h1.symm
  rw [addr_add, ← this, Nat.add_assoc, e]
theorem Fl.of_cells {w : World} {b off : Nat} {xs : List α} (h : ∀ j u, (cellsL xs)[j]? = some u → w.cell? ⟨b, off + j, none⟩ = some u) : Fl w (some ⟨b, off, none⟩) xs.length xs :=
  ⟨rfl, fun _ => ⟨b, off, rfl, fun i x hi j v hj => by
    have hjl := (List.getElem?_eq_some_iff.1 hj).1
    rw [Flt.len] at hjl
    have := h _ v ((cellsL_get hi hjl).trans hj)
    rwa [Nat.add_assoc]⟩⟩
theorem fl_lit {w : World} {b : Nat} {vs : List Value} (h : Blk w b vs) (xs : List α) (he : vs = cellsL xs) : Fl w (some ⟨b, 0, none⟩) xs.length xs :=
  Fl.of_cells fun j u hj => by rw [Nat.zero_add, h.cell, he]; exact hj
end
/-- Blocks made since W hold the item; nothing old has changed. -/
def FreshI (W w' : World) (I : It) : Prop := Ext W w' ∧ ∃ e : Nat → Prop, I.P e (fun _ => False) w' ∧ ∀ b, e b → W.heap.size ≤ b ∧ b < w'.heap.size
section
variable {fr al : Nat → Prop} {w0 w w' : World} {L : List It}
theorem Own.fresh (st : Own fr al w0 L w) {I : It} (h : FreshI w w' I) : Own fr al w0 (L ++ [I]) w' :=
  let ⟨hx, e, h1, h2⟩ := h
  st.new hx h1 (fun b hb => ⟨(h2 b hb).2, (h2 b hb).1⟩) (fun _ q => q.elim) (fun _ _ q => q)
theorem Own.toFresh (st : Own (fun _ => False) al w0 L w) {i k n : Nat} {E : TypeId} {v : Value} {xs : List Value} (hi : L[i]? = some (rowI E k v n xs)) : FreshI w0 w (rowI E k v n xs) := by
  have hx := st.ext0
  obtain ⟨hm, e, s, F⟩ := st
  refine ⟨hx, e i, F.holds i _ hi, fun b hb => ⟨?_, F.lo i b (get_lt hi) (.inl hb)⟩⟩
  rcases Nat.lt_or_ge b w0.heap.size with q | q
  · exact (F.fr i b (get_lt hi) hb q).elim
  · exact q
theorem FreshI.ext {I : It} (h : FreshI w w' I) : Ext w w' := h.1
theorem FreshI.pre {W : World} {I : It} (h : FreshI w w' I) (hx : Ext W w) : FreshI W w' I := let ⟨h1, e, h2, h3⟩ := h; ⟨hx.trans h1, e, h2, fun b hb => ⟨Nat.le_trans hx.le (h3 b hb).1, (h3 b hb).2⟩⟩
theorem FreshI.post {w'' : World} {I : It} (h : FreshI w w' I) (hx : Ext w' w'') : FreshI w w'' I :=
  let ⟨h1, e, h2, h3⟩ := h
  ⟨h1.trans hx, e, I.st h2 fun b hb => by rcases hb with hb | hb; exact Below.block hx.bel b (h3 b hb).2; exact hb.elim, fun b hb => ⟨(h3 b hb).1, Nat.lt_of_lt_of_le (h3 b hb).2 hx.le⟩⟩
theorem FreshI.nilRow (w : World) (E : TypeId) (k : Nat) : FreshI w w (rowI E k (.slice none 0 0) 0 []) := ⟨Ext.refl w, fun _ => False, ⟨⟨by simp, .inl ⟨rfl, rfl⟩⟩, fun k hk => by simp [Value.ownBlock] at hk⟩, fun _ q => q.elim⟩
/-- A slice of one's own reads as its list. -/
theorem row_fl {α : Type} [Flt α] {W : World} {E : TypeId} {v : Value} {n : Nat} {xs : List α} (h : W.ownsRow 0 E (Flt.k α) v n (cellsL xs)) : ∃ a c, v = .slice a n c ∧ (n ≤ c ∧ c ≤ maxLen) ∧ Fl W a n xs := by
  have hk := Flt.pos (α := α)
  have hn : n = xs.length := by
    have := h.1
    rw [cellsL_len] at this
    exact (Nat.eq_of_mul_eq_mul_right hk this).symm
  subst hn
  rcases h.2 with ⟨rfl, h0⟩ | ⟨g, cap, cur, rfl, hb, hg, hc, hm, hs, ht⟩
  · have : xs = [] := List.eq_nil_of_length_eq_zero h0
    subst this
    exact ⟨none, 0, rfl, ⟨Nat.le_refl _, by simp [maxLen]⟩, Fl.nil _ _⟩
  · refine ⟨_, cap, rfl, ⟨hc, hm⟩, Fl.of_cells fun j u hj => ?_⟩
    have := h.cells (g := g) rfl j u hj
    rwa [addr_add] at this
theorem Own.rowFl {α : Type} [Flt α] (st : Own fr al w0 L w) {i n : Nat} {E : TypeId} {v : Value} {xs : List α} (hi : L[i]? = some (rowI E (Flt.k α) v n (cellsL xs))) : ∃ a c, v = .slice a n c ∧ (n ≤ c ∧ c ≤ maxLen) ∧ Fl w a n xs := row_fl (st.row hi)
theorem Own.oldFl {α : Type} [Flt α] (st : Own fr al w0 L w) {i : Nat} {W0 : World} (hi : L[i]? = some (oldI W0)) {A : Option Addr} {n : Nat} {xs : List α} (h : Fl W0 A n xs) : Fl w A n xs :=
  ⟨h.1, fun h0 => let ⟨b, off, e, hc⟩ := h.2 h0; ⟨b, off, e, fun j x hj q v hq => st.oldCell hi (hc j x hj q v hq)⟩⟩
end
/-- A string. -/
instance fltStr : Flt (List UInt8) := ⟨1, fun s => [S s], fun _ => rfl, by decide, fun x u hu => by simp at hu; subst hu; rfl⟩
end Go.Proofs.Ythdbobnebpoolaa

namespace Go.Proofs.Ythdbobnebpoolaa
set_option linter.unusedSimpArgs false
set_option linter.unusedVariables false
open Go Go.RowKit
section
variable {fr al : Nat → Prop} {w0 w w' : World} {L : List It} {P : Program} {o : Oper} {a : Act} {K : Act → World → Prop} {Q : Exit → Act → World → Prop}
/-- A cell of the row is stored. -/
theorem Own.rowSet1 (st : Own fr al w0 L w) {i k n c g : Nat} {E : TypeId} {xs : List Value} (hi : L[i]? = some (rowI E k (.slice (some ⟨g, 0, none⟩) n c) n xs)) (j : Nat) (v : Value) (hj : j < n * k) :
    Own fr al w0 (L.set i (rowI E k (.slice (some ⟨g, 0, none⟩) n c) n (xs.set j v))) (w.setCell ⟨g, j, none⟩ v) := by
  refine st.upd hi fun e s ⟨h1, h2⟩ h3 h4 => ⟨e, s, ⟨⟨by simpa using h1.1, ?_⟩, h2⟩, fun q hq => ⟨by simpa [World.setCell] using h3 q (.inl hq), .inl hq⟩, fun q hq => ⟨by simpa [World.setCell] using h3 q (.inr hq), .inr (.inl hq)⟩, h4, MutO.set (MutO.refl _ _) (h2 g rfl) _⟩
  rcases h1.2 with ⟨h5, _⟩ | ⟨g', cap, cur, hv, hb, hg, hc, hm, hs, ht⟩
  · cases h5
  · cases hv
    refine .inr ⟨g, c, cur.setIfInBounds j v, rfl, hb, ?_, hc, hm, by simpa using hs, ?_⟩
    · simp only [World.setCell, Array.getElem?_modify, hg]; simp
    · rw [Array.toList_setIfInBounds, List.take_set, ht]
theorem Own.rowSet (cs : List Value) : ∀ {w : World} {L : List It} {i k n c g : Nat} {E : TypeId} {xs : List Value} (_ : Own fr al w0 L w) (_ : L[i]? = some (rowI E k (.slice (some ⟨g, 0, none⟩) n c) n xs)) (j : Nat) (_ : j + cs.length ≤ n * k),
    Own fr al w0 (L.set i (rowI E k (.slice (some ⟨g, 0, none⟩) n c) n (spl xs j cs))) (w.setCells g j cs) := by
  induction cs with
  | nil =>
    intro w L i k n c g E xs st hi j hj
    have : L.set i (rowI E k (.slice (some ⟨g, 0, none⟩) n c) n xs) = L := by
      apply List.ext_getElem?
      intro q
      rw [List.getElem?_set]
      split
      · rename_i h; subst h; rw [hi, if_pos (get_lt hi)]
      · rfl
    simpa [spl, World.setCells, this] using st
  | cons u cs ih =>
    intro w L i k n c g E xs st hi j hj
    simp only [List.length_cons] at hj
    have h1 := st.rowSet1 hi j u (by omega)
    have h2 := ih h1 (i := i) (k := k) (n := n) (c := c) (g := g) (E := E) (xs := xs.set j u) (by simp [List.getElem?_set, get_lt hi]) (j + 1) (by omega)
    rw [List.set_set] at h2
    exact h2
/-- What a row's store needs to know of its cells. -/
theorem row_cell {E : TypeId} {k n c g : Nat} {xs : List Value} (h : w.ownsRow 0 E k (.slice (some ⟨g, 0, none⟩) n c) n xs) (j : Nat) (hj : j < n * k) : w.cell? ⟨g, j, none⟩ = xs[j]? ∧ w.frozen? ⟨g, j, none⟩ = false ∧ j < xs.length := by
  rcases h.2 with ⟨h5, _⟩ | ⟨g', cap, cur, hv, hb, hg, hc, hm, hs, ht⟩
  · cases h5
  · cases hv
    have hcn : n * k ≤ c * k := Nat.mul_le_mul_right _ hc
    have hjc : j < cur.size := by omega
    have hx : xs[j]? = cur[j]? := by rw [← ht, List.getElem?_take_of_lt hj]; simp
    have hlt : j < xs.length := by
      rw [Array.getElem?_eq_getElem hjc] at hx
      exact (List.getElem?_eq_some_iff.1 hx).1
    refine ⟨?_, by simp [World.frozen?, hg], hlt⟩
    rw [hx]; simp [World.cell?, hg]
theorem spl_take (cs : List Value) : ∀ (xs : List Value) (j q : Nat), q ≤ j → (spl xs j cs).take q = xs.take q := by
  induction cs with
  | nil => intro xs j q _; rfl
  | cons u cs ih =>
    intro xs j q h
    rw [spl, ih _ _ _ (by omega), List.take_set]
    apply List.ext_getElem?
    intro m
    rw [List.getElem?_set]
    split
    · rename_i e; subst e
      split
      · rename_i hh; simp at hh; omega
      · rename_i hh; rw [List.getElem?_eq_none (by simp at hh ⊢; omega)]
    · rfl
/-- clear(s[m:]): the elements from m on are turned, the others stay. -/
theorem owp_clearRow {x : Operand} {t E : TypeId} (ho : o.op = .call { callee := .builtin .clear, args := #[x], argTypes := #[t] }) (st : Own fr al w0 L w) (i : Nat) {k n c g m c' : Nat} {xs : List Value} {inf : TypeInfo} {z : Value}
    (hi : L[i]? = some (rowI E k (.slice (some ⟨g, 0, none⟩) n c) n xs)) (ht : P.underlying t = some (.slice E)) (hinf : P.info? E = some inf) (hz : inf.zero = some z) (hk : 0 < k) (hzs : z.cells.size = k) (hz1 : z.cells.toList.all (·.oneCell') = true)
    (hmn : m ≤ n) (hx : a.eval x = .slice (some ⟨g, m * k, none⟩) (n - m) c')
    (h : ∀ w' ys, ys.take (m * k) = xs.take (m * k) → ys.length = xs.length → Own fr al w0 (L.set i (rowI E k (.slice (some ⟨g, 0, none⟩) n c) n ys)) w' → K (a.put o.dst (.tuple #[])) w') : o.wp P a w K Q := by
  have hrow := st.row hi
  by_cases h0 : n - m = 0
  · refine owp_run (v := .tuple #[]) (w' := w) ?_ (h w xs rfl rfl ?_)
    · rw [h0] at hx
      simp [execOp, ho, resolve, invoke, builtin, hx, Builtin.clear_, run_underlying ht]
    · have : L.set i (rowI E k (.slice (some ⟨g, 0, none⟩) n c) n xs) = L := by
        apply List.ext_getElem?
        intro q
        rw [List.getElem?_set]
        split
        · rename_i h; subst h; rw [hi, if_pos (get_lt hi)]
        · rfl
      rw [this]; exact st
  · obtain ⟨q, hq⟩ : ∃ q, n - m = q + 1 := ⟨n - m - 1, by omega⟩
    have hlen : (Builtin.zeroCells z.cells (n - m)).toList.length = (n - m) * k := by
      rw [Array.length_toList, size_zeroCells, hzs]
    have hnk : m * k + (n - m) * k = n * k := by rw [← Nat.add_mul]; congr 1; omega
    have hall : (Builtin.zeroCells z.cells (n - m)).toList.all (·.oneCell') = true := by
      rw [List.all_eq_true] at hz1 ⊢
      intro u hu
      simp only [Builtin.zeroCells, Array.toList_map, List.mem_map] at hu
      obtain ⟨r, _, rfl⟩ := hu
      have hr : r % z.cells.size < z.cells.size := Nat.mod_lt _ (by omega)
      apply hz1
      rw [getElem!_pos z.cells _ hr]
      exact Array.getElem_mem_toList hr
    have hst := run_storeCells_cells (P := P) g (m * k) (Builtin.zeroCells z.cells (n - m)).toList 0 w (fun q hq => by
        have := row_cell hrow (m * k + q) (by omega)
        rw [Nat.add_zero, this.1, List.getElem?_eq_getElem this.2.2]; rfl) (fun q hq => (row_cell hrow (m * k + 0 + q) (by omega)).2.1) (fun u hu => (List.all_eq_true.1 hall) u hu)
    simp only [Nat.add_zero] at hst
    refine owp_run (v := .tuple #[]) (w' := w.setCells g (m * k) (Builtin.zeroCells z.cells (n - m)).toList) ?_ (h _ _ (spl_take _ _ _ _ (Nat.le_refl _)) (spl_len _ _ _) (st.rowSet _ hi (m * k) (by omega)))
    rw [hq] at hx hst ⊢
    simp [execOp, ho, resolve, invoke, builtin, hx, Builtin.clear_, run_underlying ht, zeroValue, typeInfo, hinf, hz, hst, Result.andThen]
theorem owp_clearRow' {x : Operand} {t E : TypeId} (ho : o.op = .call { callee := .builtin .clear, args := #[x], argTypes := #[t] }) (st : Own fr al w0 L w) (ht : P.underlying t = some (.slice E))
    (h : ∃ ad q c', a.eval x = .slice (some ad) q c' ∧ ∃ (i : Nat) (k n c g m : Nat) (xs : List Value) (inf : TypeInfo) (z : Value), L[i]? = some (rowI E k (.slice (some ⟨g, 0, none⟩) n c) n xs) ∧ P.info? E = some inf ∧ inf.zero = some z ∧ 0 < k ∧ z.cells.size = k ∧ z.cells.toList.all (·.oneCell') = true ∧
      m ≤ n ∧ ad = ⟨g, m * k, none⟩ ∧ q = n - m ∧ ∀ w' ys, ys.take (m * k) = xs.take (m * k) → ys.length = xs.length → Own fr al w0 (L.set i (rowI E k (.slice (some ⟨g, 0, none⟩) n c) n ys)) w' → K (a.put o.dst (.tuple #[])) w') : o.wp P a w K Q := by
  obtain ⟨ad, q, c', hx, i, k, n, c, g, m, xs, inf, z, hi, hinf, hz, hk, hzs, hz1, hmn, rfl, rfl, h⟩ := h
  exact owp_clearRow ho st i hi ht hinf hz hk hzs hz1 hmn hx h
/-- A slice literal as a row that may grow. -/
theorem owp_buildRow {T : TypeId} {q : Nat} {ps : Array (Nat × Operand)} (ho : o.op = .buildSlice T q ps) (st : Own fr al w0 L w) (E : TypeId) (k : Nat) (h : ∃ (m : Nat) (cs : Array Value), (execOp a.eval o).run P w = .ok (.value (.slice (some ⟨w.heap.size, 0, none⟩) m m)) (w.alloc (.cells cs E)) ∧
    cs.size = m * k ∧ m ≤ maxLen ∧ ∀ b w', w.heap.size ≤ b → Own fr al w0 (L ++ [rowI E k (.slice (some ⟨b, 0, none⟩) m m) m cs.toList]) w' → K (a.put o.dst (.slice (some ⟨b, 0, none⟩) m m)) w') : o.wp P a w K Q := by
  obtain ⟨m, cs, hr, h1, h2, h⟩ := h
  refine owp_run hr (h _ _ (Nat.le_refl _) (st.new (Ext.new w _) (e' := fun b => b = w.heap.size) (s' := fun _ => False) ⟨⟨by simpa using h1, .inr ⟨w.heap.size, m, cs, rfl, Nat.zero_le _, ?_, Nat.le_refl _, h2, h1, ?_⟩⟩, fun b hb => by cases hb; rfl⟩ (fun b hb => ?_) (fun _ q => q.elim) (fun _ _ q => q)))
  · show (w.heap.push _)[_]? = _; simp
  · rw [List.take_of_length_le]; simp [h1]
  · subst hb; exact ⟨by show _ < (w.heap.push _).size; simp, Nat.le_refl _⟩
/-- s[:m] -/
theorem Own.rowCut (st : Own fr al w0 L w) {i k n c g : Nat} {E : TypeId} {xs : List Value} (hi : L[i]? = some (rowI E k (.slice (some ⟨g, 0, none⟩) n c) n xs)) (m : Nat) (hm : m ≤ n) :
    Own fr al w0 (L.set i (rowI E k (.slice (some ⟨g, 0, none⟩) m c) m (xs.take (m * k)))) w := by
  refine st.conv hi fun e s ⟨h1, h2⟩ h3 => ⟨e, s, ⟨⟨?_, ?_⟩, fun q hq => h2 q hq⟩, fun _ q => q, fun _ q => .inr q, h3⟩
  · have := h1.1
    have : m * k ≤ n * k := Nat.mul_le_mul_right _ hm
    simp; omega
  · rcases h1.2 with ⟨h5, _⟩ | ⟨g', cap, cur, hv, hb, hg, hc, hmx, hs, ht⟩
    · cases h5
    · cases hv
      refine .inr ⟨g, c, cur, rfl, hb, hg, Nat.le_trans hm hc, hmx, hs, ?_⟩
      rw [← ht, List.take_take, Nat.min_eq_left (Nat.mul_le_mul_right _ hm)]
end
section
variable {α : Type} [Flt α]
theorem spl_in (cs : List Value) : ∀ (xs : List Value) (j q : Nat), (spl xs j cs)[q]? = if j ≤ q ∧ q < j + cs.length ∧ q < xs.length then cs[q - j]? else xs[q]? := by
  induction cs with
  | nil => intro xs j q; simp [spl]; intro h1 h2; omega
  | cons u cs ih =>
    intro xs j q
    rw [spl, ih]
    simp only [List.length_set, List.length_cons]
    by_cases h1 : q = j
    · subst h1
      rw [if_neg (by omega)]
      by_cases h2 : q < xs.length
      · rw [if_pos ⟨Nat.le_refl _, by omega, h2⟩]; simp [h2]
      · rw [if_neg (by omega)]; simp [h2]
    · rw [List.getElem?_set, if_neg (Ne.symm h1)]
      by_cases h2 : j + 1 ≤ q ∧ q < j + 1 + cs.length ∧ q < xs.length
      · rw [if_pos h2, if_pos (by omega), show q - j = (q - (j + 1)) + 1 by omega, List.getElem?_cons_succ]
      · rw [if_neg h2, if_neg (by omega)]
theorem cellsL_take (xs : List α) (m : Nat) : (cellsL xs).take (m * Flt.k α) = cellsL (xs.take m) := by
  by_cases hm : m ≤ xs.length
  · have h1 : cellsL xs = cellsL (xs.take m) ++ cellsL (xs.drop m) := by rw [← cellsL_append, List.take_append_drop]
    have h2 : (cellsL (xs.take m)).length = m * Flt.k α := by rw [cellsL_len]; simp [Nat.min_eq_left hm]
    rw [h1, List.take_append_of_le_length (by omega), List.take_of_length_le (by omega)]
  · rw [List.take_of_length_le (l := xs) (by omega), List.take_of_length_le]
    rw [cellsL_len]; exact Nat.mul_le_mul_right _ (by omega)
end
end Go.Proofs.Ythdbobnebpoolaa

namespace Go.Proofs.Ythdbobnebpoolaa
set_option linter.unusedSimpArgs false
set_option linter.unusedVariables false
open Go
/-- An order on what P lets. -/
structure SOrd {α : Type} (lt : α → α → Bool) (P : α → Bool) : Prop where
  irr : ∀ x, lt x x = false
  tr : ∀ x y z, lt x y = true → lt y z = true → lt x z = true
  tri : ∀ x y, P x = true → P y = true → lt x y = true ∨ x = y ∨ lt y x = true
/-- Strictly rising, and just those of l that P lets. -/
def SSet {α : Type} (lt : α → α → Bool) (P : α → Bool) (l out : List α) : Prop := out.Pairwise (fun x y => lt x y = true) ∧ ∀ x, x ∈ out ↔ x ∈ l ∧ P x = true
section
variable {α : Type} {lt : α → α → Bool} {P : α → Bool}
/-- The least candidate, the first of the like. -/
def pickMin (lt : α → α → Bool) (cand : α → Bool) (l : List α) : Option α := l.foldl (fun b x => if cand x && b.all (fun y => lt x y) then some x else b) none
theorem pickMin_snoc (cand : α → Bool) (l : List α) (x : α) : pickMin lt cand (l ++ [x]) = if cand x && (pickMin lt cand l).all (fun y => lt x y) then some x else pickMin lt cand l := by
  unfold pickMin; rw [List.foldl_append]; rfl
theorem list_snoc {motive : List α → Prop} (nil : motive []) (snoc : ∀ l x, motive l → motive (l ++ [x])) : ∀ l, motive l := by
  intro l
  have : ∀ r : List α, motive r.reverse := by
    intro r
    induction r with
    | nil => exact nil
    | cons x r ih => rw [List.reverse_cons]; exact snoc _ _ ih
  have := this l.reverse
  rwa [List.reverse_reverse] at this
theorem pickMin_spec (tr : ∀ x y z, lt x y = true → lt y z = true → lt x z = true) (irr : ∀ x, lt x x = false) (cand : α → Bool) (l : List α) :
    (pickMin lt cand l = none → ∀ x ∈ l, cand x = false) ∧ (∀ y, pickMin lt cand l = some y → y ∈ l ∧ cand y = true ∧ ∀ x ∈ l, cand x = true → lt x y = false) := by
  induction l using list_snoc with
  | nil => exact ⟨fun _ x hx => by simp at hx, fun y hy => by simp [pickMin] at hy⟩
  | snoc l x ih =>
    rw [pickMin_snoc]
    by_cases hc : (cand x && (pickMin lt cand l).all (fun y => lt x y)) = true
    · rw [if_pos hc]
      simp only [Bool.and_eq_true] at hc
      refine ⟨fun h => (by cases h), fun y hy => ?_⟩
      cases hy
      refine ⟨by simp, hc.1, fun z hz hcz => ?_⟩
      rcases List.mem_append.1 hz with q | q
      · cases hp : pickMin lt cand l with
        | none => have := ih.1 hp z q; rw [this] at hcz; cases hcz
        | some y0 =>
          have h1 := (ih.2 y0 hp).2.2 z q hcz
          have h2 : lt x y0 = true := by have := hc.2; rw [hp] at this; simpa using this
          cases h3 : lt z x with
          | false => rfl
          | true => have := tr _ _ _ h3 h2; rw [this] at h1; cases h1
      · rw [List.mem_singleton.1 q]; exact irr x
    · rw [if_neg hc]
      refine ⟨fun h z hz => ?_, fun y hy => ?_⟩
      · rcases List.mem_append.1 hz with q | q
        · exact ih.1 h z q
        · rw [List.mem_singleton.1 q]
          cases hcx : cand x with
          | false => rfl
          | true => rw [h, hcx] at hc; simp at hc
      · obtain ⟨h1, h2, h3⟩ := ih.2 y hy
        refine ⟨List.mem_append.2 (.inl h1), h2, fun z hz hcz => ?_⟩
        rcases List.mem_append.1 hz with q | q
        · exact h3 z q hcz
        · rw [List.mem_singleton.1 q] at hcz ⊢
          rw [hcz, hy] at hc
          simpa using hc
/-- What may come behind out. -/
def cnd (lt : α → α → Bool) (P : α → Bool) (out : List α) (x : α) : Bool := P x && out.getLast?.all (fun z => lt z x)
/-- A set that grows by its least candidate. -/
def GInv (lt : α → α → Bool) (P : α → Bool) (l out : List α) : Prop := out.Pairwise (fun x y => lt x y = true) ∧ (∀ x ∈ out, x ∈ l ∧ P x = true) ∧ ∀ x ∈ l, P x = true → cnd lt P out x = false → x ∈ out
theorem GInv.nil (l : List α) : GInv lt P l [] := ⟨List.Pairwise.nil, fun x hx => by simp at hx, fun x _ hp hc => by simp [cnd, hp] at hc⟩
theorem GInv.done (o : SOrd lt P) {l out : List α} (h : GInv lt P l out) (hn : pickMin lt (cnd lt P out) l = none) : SSet lt P l out := by
  obtain ⟨h1, h2, h3⟩ := h
  exact ⟨h1, fun x => ⟨h2 x, fun ⟨q1, q2⟩ => h3 x q1 q2 ((pickMin_spec o.tr o.irr _ _).1 hn x q1)⟩⟩
/-- How many may come yet. -/
def left (lt : α → α → Bool) (P : α → Bool) (l out : List α) : Nat := (l.filter (cnd lt P out)).length
theorem SSet.len {l out : List α} (irr : ∀ x, lt x x = false) (h : SSet lt P l out) : out.length ≤ l.length := by
  have hnd : out.Nodup := h.1.imp fun {a b} hab e => by subst e; rw [irr] at hab; cases hab
  exact (List.Nodup.length_le_of_subset hnd fun x hx => ((h.2 x).1 hx).1)
theorem GInv.len {l out : List α} (irr : ∀ x, lt x x = false) (h : GInv lt P l out) : out.length ≤ l.length := by
  have hnd : out.Nodup := h.1.imp fun {a b} hab e => by subst e; rw [irr] at hab; cases hab
  exact (List.Nodup.length_le_of_subset hnd fun x hx => (h.2.1 x hx).1)
end
end Go.Proofs.Ythdbobnebpoolaa

namespace Go.Proofs.Ythdbobnebpoolaa
set_option linter.unusedSimpArgs false
set_option linter.unusedVariables false
open Go
section
variable {α : Type} [Inhabited α] [DecidableEq α] {lt : α → α → Bool} {P : α → Bool}
end
end Go.Proofs.Ythdbobnebpoolaa

namespace Go.Proofs.Ythdbobnebpoolaa
set_option linter.unusedSimpArgs false
set_option linter.unusedVariables false
open Go Go.RowKit
/-- A letter; a sign of a name. -/
def ltr (c : UInt8) : Bool := decide (97 ≤ c.toNat) && decide (c.toNat ≤ 122)
def sgn (c : UInt8) : Bool := ltr c || (decide (48 ≤ c.toNat) && decide (c.toNat ≤ 57)) || decide (c.toNat = 45)
/-- A right name. -/
def nameR : List UInt8 → Bool
  | [] => false
  | c :: s => decide (s.length + 1 ≤ 16) && ltr c && (c :: s).all sgn
end Go.Proofs.Ythdbobnebpoolaa

namespace Go.Proofs.Ythdbobnebpoolaa
set_option linter.unusedSimpArgs false
set_option linter.unusedVariables false
open Go Go.RowKit
theorem ba_get (l : List UInt8) (j : Nat) (h : j < (⟨l.toArray⟩ : ByteArray).size) : (⟨l.toArray⟩ : ByteArray)[j] = l[j]'(by simpa [ByteArray.size] using h) := by
  simp [ByteArray.getElem_eq_getElem_data]
set_option maxRecDepth 100000 in
set_option maxHeartbeats 1000000 in
theorem refRight_any (s : List UInt8) (W : World) (hs : s.length ≤ 1000000000) : Calls Try.prog 62 #[S s] W fun e w' => e = .returned (.bool (nameR s)) ∧ Ext W w' := by
  unfold S
  cases s with
  | nil =>
    go_enter Try.func62, Try.ntmps62
    go_wp2_with fail
    go_ret
    exact ⟨rfl, Ext.refl _⟩
  | cons c s =>
    have hsz : (⟨(c :: s).toArray⟩ : ByteArray).size = s.length + 1 := by simp [ByteArray.size]
    have hg0 : ∀ h, (⟨(c :: s).toArray⟩ : ByteArray)[0]'h = c := fun h => ba_get _ _ h
    have hlen : (c :: s).length = s.length + 1 := rfl
    have HL := Lib.hid (show nameR (c :: s) = (decide (s.length + 1 ≤ 16) && ltr c && (c :: s).all sgn) from rfl)
    by_cases h16 : s.length + 1 ≤ 16
    · by_cases hc1 : 97 ≤ c.toNat
      · by_cases hc2 : c.toNat ≤ 122
        · have hb1 : decide ((c.toNat : Int) < 97) = false := by simp; omega
          have hb2 : decide (122 < (c.toNat : Int)) = false := by simp; omega
          have HN : Hid (nameR (c :: s) = (c :: s).all sgn) := Lib.hid (by rw [HL.out]; simp [h16, ltr, hc1, hc2])
          rw [HN.out]
          generalize hA : (c :: s).all sgn = A at *
          have HA := Lib.hid hA
          clear HN HL hc1 hc2 hA
          go_enter Try.func62, Try.ntmps62
          go_wp2_with fail
          clear hb1 hb2 hg0
          generalize hS : c :: s = S at *
          clear hS
          have hA := HA.out
          subst hA
          clear HA
          go_loopw [3] (fun i wr => ∃ j : Nat, j ≤ S.length ∧ i = .int .i64 (j : Int) ∧ Hid ((S.take j).all sgn = true) ∧ Ext W wr) (fun i _ => S.length - (intOf i).toNat)
          case atStart => exact ⟨0, by omega, rfl, Lib.hid (by simp), Ext.refl _⟩
          case round =>
            obtain ⟨j, hj, rfl, HT, hx⟩ := hrel
            have HX := Lib.hid hx
            clear hx
            by_cases hjn : j < S.length
            · have hgj : ∀ h, (⟨S.toArray⟩ : ByteArray)[j]'h = S[j] := fun h => ba_get _ _ h
              have hts : S.take (j + 1) = S.take j ++ [S[j]] := (List.take_append_getElem hjn).symm
              have hall : S.all sgn = (S.take j ++ S[j] :: S.drop (j + 1)).all sgn := by rw [← List.drop_eq_getElem_cons hjn, List.take_append_drop]
              obtain ⟨x, hxj⟩ : ∃ x, S[j] = x := ⟨_, rfl⟩
              rw [hxj] at hts hall
              have hgx : ∀ h, S[j]'h = x := fun _ => hxj
              have hgy : ∀ h, (⟨S.toArray⟩ : ByteArray)[j]'h = x := fun h => (ba_get _ _ h).trans hxj
              clear hxj hgj
              have HX2 := Lib.hid (And.intro hts hall)
              clear hts hall
              have HOK : sgn x = true → Hid ((S.take (j + 1)).all sgn = true) := fun h => Lib.hid (by rw [HX2.out.1, List.all_append, HT.out]; simp [h])
              have HNO : sgn x = false → Hid (S.all sgn = false) := fun h => Lib.hid (by rw [HX2.out.2, List.all_append, List.all_cons, h]; simp)
              have hsg : sgn x = decide ((97 ≤ x.toNat ∧ x.toNat ≤ 122) ∨ (48 ≤ x.toNat ∧ x.toNat ≤ 57) ∨ x.toNat = 45) := by unfold sgn ltr; simp [Bool.or_assoc]
              have H3 := Lib.hid (And.intro HOK (And.intro HNO hsg))
              clear HOK HNO hsg HX2 HT
              go_wp2_with fail
              all_goals (try simp only [bne_eq_false_iff_eq, bne_iff_ne, ne_eq] at *)
              all_goals first
                | exact ⟨⟨j + 1, by omega, by go_num, H3.out.1 (by rw [H3.out.2.2]; simp; omega), HX.out⟩, by simp [intOf]; omega⟩
                | (go_ret; exact ⟨by rw [(H3.out.2.1 (by rw [H3.out.2.2]; simp; omega)).out]; rfl, HX.out⟩)
            · obtain rfl : j = S.length := by omega
              have e : S.all sgn = true := by have := HT.out; rwa [List.take_length] at this
              have HE := Lib.hid e
              clear e
              go_wp2_with fail
              go_ret
              exact ⟨by rw [HE.out]; rfl, HX.out⟩
        · have hb1 : decide ((c.toNat : Int) < 97) = false := by simp; omega
          have hb2 : decide (122 < (c.toNat : Int)) = true := by simp; omega
          have HN : Hid (nameR (c :: s) = false) := Lib.hid (by rw [HL.out]; simp [ltr, hc2])
          clear HL hc1 hc2
          go_enter Try.func62, Try.ntmps62
          go_wp2_with fail
          go_ret
          exact ⟨by rw [HN.out]; rfl, Ext.refl _⟩
      · have hb1 : decide ((c.toNat : Int) < 97) = true := by simp; omega
        have HN : Hid (nameR (c :: s) = false) := Lib.hid (by rw [HL.out]; simp [ltr, hc1])
        clear HL hc1
        go_enter Try.func62, Try.ntmps62
        go_wp2_with fail
        go_ret
        exact ⟨by rw [HN.out]; rfl, Ext.refl _⟩
    · have HN : Hid (nameR (c :: s) = false) := Lib.hid (by rw [HL.out]; simp [h16])
      clear HL
      go_enter Try.func62, Try.ntmps62
      go_wp2_with fail
      go_ret
      exact ⟨by rw [HN.out]; rfl, Ext.refl _⟩
end Go.Proofs.Ythdbobnebpoolaa

namespace Go.Proofs.Ythdbobnebpoolaa
set_option linter.unusedSimpArgs false
set_option linter.unusedVariables false
open Go Go.RowKit
def strLt (x y : List UInt8) : Bool := Op.bytesLess x y
theorem strLt_eq (x y : List UInt8) : strLt x y = decide (x < y) := bytesLess_eq x y
theorem strOrd (P : List UInt8 → Bool) : SOrd strLt P where
  irr x := by rw [strLt_eq]; simp [List.lt_irrefl]
  tr x y z h1 h2 := by simp only [strLt_eq, decide_eq_true_eq] at *; exact List.lt_trans h1 h2
  tri x y _ _ := by
    simp only [strLt_eq, decide_eq_true_eq]
    rcases Decidable.em (x < y) with h | h
    · exact .inl h
    · rcases Decidable.em (y < x) with h' | h'
      · exact .inr (.inr h')
      · exact .inr (.inl (List.le_antisymm (List.not_lt.1 h') (List.not_lt.1 h)))
theorem strLt_asymm {x y : List UInt8} (h : strLt x y = true) : Op.bytesLess y x = false ∧ (y == x) = false := by
  constructor
  · cases hq : Op.bytesLess y x with
    | false => rfl
    | true => have := (strOrd (fun _ => true)).tr _ _ _ h hq; rw [(strOrd (fun _ => true)).irr] at this; cases this
  · cases hq : (y == x) with
    | false => rfl
    | true => have e : y = x := by simpa using hq
              rw [e, (strOrd (fun _ => true)).irr] at h; cases h
end Go.Proofs.Ythdbobnebpoolaa

namespace Go.Proofs.Ythdbobnebpoolaa
set_option linter.unusedSimpArgs false
set_option linter.unusedVariables false
open Go Go.RowKit Go.Sort Go.Lib
section
variable {fr al : Nat → Prop} {w0 w : World} {L : List It}
end
end Go.Proofs.Ythdbobnebpoolaa

namespace Go.Proofs.Ythdbobnebpoolaa
set_option linter.unusedSimpArgs false
set_option linter.unusedVariables false
open Go Go.RowKit
def lettersB : List UInt8 := [97, 98, 99, 100, 101, 102, 103, 104, 105, 106, 107, 108, 109, 110, 111, 112, 113, 114, 115, 116, 117, 118, 119, 120, 121, 122]
def signsB : List UInt8 := lettersB ++ [48, 49, 50, 51, 52, 53, 54, 55, 56, 57, 45]
theorem ix_letters : ∀ n : Nat, n < 256 → (decide (0 ≤ Lib.indexByte lettersB n.toUInt8)) = ltr n.toUInt8 := by decide +kernel
theorem ix_signs : ∀ n : Nat, n < 256 → (decide (Lib.indexByte signsB n.toUInt8 < 0)) = !sgn n.toUInt8 := by decide +kernel
theorem ix_letter (c : UInt8) : (decide (0 ≤ Lib.indexByte lettersB c)) = ltr c := by
  have := ix_letters c.toNat c.toNat_lt
  simpa using this
theorem ix_sign (c : UInt8) : (decide (Lib.indexByte signsB c < 0)) = !sgn c := by
  have := ix_signs c.toNat c.toNat_lt
  simpa using this
theorem signIx (c : UInt8) (w : World) : Calls Try.prog 56 #[.string ⟨signsB.toArray⟩, .int .u8 (c.toNat : Int)] w fun e w' => ∃ v : Int, e = .returned (.int .i64 v) ∧ decide (v < 0) = !sgn c ∧ w = w' :=
  (Try.strings_IndexByte ⟨signsB.toArray⟩ _ w).mono fun e w' ⟨h1, h2⟩ => ⟨_, h1, by simpa using ix_sign c, h2.symm⟩
theorem letterIx (c : UInt8) (w : World) : Calls Try.prog 56 #[.string ⟨lettersB.toArray⟩, .int .u8 (c.toNat : Int)] w fun e w' => ∃ v : Int, e = .returned (.int .i64 v) ∧ decide (0 ≤ v) = ltr c ∧ w = w' :=
  (Try.strings_IndexByte ⟨lettersB.toArray⟩ _ w).mono fun e w' ⟨h1, h2⟩ => ⟨_, h1, by simpa using ix_letter c, h2.symm⟩
set_option maxRecDepth 100000 in
set_option maxHeartbeats 1000000 in
theorem only_any (s : List UInt8) (W : World) (hs : s.length ≤ 100000) : Calls Try.prog 57 #[S s] W fun e w' => e = .returned (.bool (s.all sgn)) ∧ Ext W w' := by
  have st := Own.startOld W
  unfold S
  (try simp only [nsl, Value.cells, unB] at st)
  (try clear hc); have hc := st.facts; (try simp only [nfl, nft, Nat.reduceAdd] at hc)
  go_enter Try.func57, Try.ntmps57
  go_wp2_with ((((with_reducible refine wl_convert ?_ (fun K hK => ?_)); rfl; refine owp_sb (o := ⟨some 6, _, _, _, _, _⟩) rfl st rfl Try.underlying9 Try.underlying33 Try.underlying5 ?_ ?_; (simp only [maxLen]; omega); (clear st; intro A6 c6 w hc6 st))); (try simp only [nsl, Value.cells, unB] at st); (try clear hc); have hc := st.facts; (try simp only [nfl, nft, Nat.reduceAdd] at hc))
  go_loopw [8] (fun i wr => ∃ j : Nat, j ≤ s.length ∧ i = .int .i64 (j : Int) ∧ Hid ((s.take j).all sgn = true) ∧ Own (fun _ => False) (fun _ => True) W [oldI W, byI A6 s.length s] wr) (fun i _ => s.length - (intOf i).toNat)
  case atStart => exact ⟨0, by omega, rfl, Lib.hid (by simp), st⟩
  case round =>
    obtain ⟨j, hj, rfl, HT, st'⟩ := hrel
    clear st hc
    have st := st'
    clear st'
    by_cases hjn : j < s.length
    · obtain ⟨b, off, ha, hq, hjl, hcell⟩ := (st.by (i := 1) get1).at hjn
      clear hq
      subst ha
      have hts : s.take (j + 1) = s.take j ++ [s[j]] := (List.take_append_getElem hjl).symm
      have hall : s.all sgn = (s.take j ++ s[j] :: s.drop (j + 1)).all sgn := by rw [← List.drop_eq_getElem_cons hjl, List.take_append_drop]
      generalize s[j] = x at *
      have HX := Lib.hid (And.intro hts hall)
      have hix := ix_sign x
      clear hts hall
      go_wp2_with fail
      refine (signIx x _).mono ?_
      rintro en w' ⟨v, rfl, hv, rfl⟩
      clear hix
      by_cases hsx : sgn x = true
      · have hv0 : decide (v < 0) = false := by rw [hv, hsx]; rfl
        have hv1 : ¬ v < 0 := by simpa using hv0
        clear hv
        go_wp2_with fail
        exact ⟨⟨j + 1, by omega, by go_num, Lib.hid (by rw [HX.out.1, List.all_append, HT.out]; simp [hsx]), st⟩, by simp [intOf]; omega⟩
      · have hsx' : sgn x = false := by simpa using hsx
        have hv0 : decide (v < 0) = true := by rw [hv, hsx']; rfl
        have hv1 : v < 0 := by simpa using hv0
        clear hv
        have HF : Hid (s.all sgn = false) := Lib.hid (by rw [HX.out.2, List.all_append, List.all_cons, hsx']; simp)
        go_wp2_with fail
        go_ret
        exact ⟨by rw [HF.out]; rfl, st.ext0⟩
    · obtain rfl : j = s.length := by omega
      have e : s.all sgn = true := by have := HT.out; rwa [List.take_length] at this
      have HE := Lib.hid e
      clear e
      go_wp2_with fail
      go_ret
      exact ⟨by rw [HE.out]; rfl, st.ext0⟩
set_option maxRecDepth 100000 in
set_option maxHeartbeats 1000000 in
theorem right_any (s : List UInt8) (W : World) (hs : s.length ≤ 100000) : Calls Try.prog 48 #[S s] W fun e w' => e = .returned (.bool (nameR s)) ∧ Ext W w' := by
  unfold S
  cases s with
  | nil =>
    go_enter Try.func48, Try.ntmps48
    go_wp2_with fail
    go_ret
    exact ⟨rfl, Ext.refl _⟩
  | cons c s =>
    have hsz : (⟨(c :: s).toArray⟩ : ByteArray).size = s.length + 1 := by simp [ByteArray.size]
    have hg0 : (⟨(c :: s).toArray⟩ : ByteArray)[0]? = some c := rfl
    simp only [List.length_cons] at hs
    by_cases h16 : s.length + 1 ≤ 16
    · skip
      go_enter Try.func48, Try.ntmps48
      go_wp2_with fail
      refine (letterIx c W).mono ?_
      rintro en w' ⟨v, rfl, hv, rfl⟩
      by_cases hl : ltr c = true
      · have hv0 : decide (0 ≤ v) = true := by rw [hv, hl]
        have hv1 : 0 ≤ v := by simpa using hv0
        clear hv
        go_wp2_with fail
        refine (only_any (c :: s) W (by simp; omega)).mono ?_
        rintro en w ⟨rfl, hx⟩
        have HX := Lib.hid hx
        clear hx
        have HN : Hid (nameR (c :: s) = (c :: s).all sgn) := Lib.hid (by unfold nameR; simp [h16, hl])
        generalize (c :: s).all sgn = q at *
        go_wp2_with fail
        go_ret
        exact ⟨by rw [HN.out]; rfl, HX.out⟩
      · have hl' : ltr c = false := by simpa using hl
        have hv0 : decide (0 ≤ v) = false := by rw [hv, hl']
        have hv1 : ¬ 0 ≤ v := by simpa using hv0
        have HN : Hid (nameR (c :: s) = false) := Lib.hid (by unfold nameR; simp [hl'])
        clear hv
        go_wp2_with fail
        go_ret
        exact ⟨by rw [HN.out]; rfl, Ext.refl _⟩
    · skip
      go_enter Try.func48, Try.ntmps48
      have HN : Hid (nameR (c :: s) = false) := Lib.hid (by unfold nameR; simp [h16])
      go_wp2_with fail
      go_ret
      exact ⟨by rw [HN.out]; rfl, Ext.refl _⟩
end Go.Proofs.Ythdbobnebpoolaa

namespace Go.Proofs.Ythdbobnebpoolaa
set_option linter.unusedSimpArgs false
set_option linter.unusedVariables false
open Go Go.RowKit
/-- The set of the right names of a list. -/
@[irreducible] def nameSet (l : List (List UInt8)) : List (List UInt8) := Lib.compact ((l.filter nameR).mergeSort fun x y => decide (x ≤ y))
end Go.Proofs.Ythdbobnebpoolaa

namespace Go.Proofs.Ythdbobnebpoolaa
set_option linter.unusedSimpArgs false
set_option linter.unusedVariables false
open Go Go.RowKit
/-- A slice of slices. -/
def slsR {α : Type} [Flt α] : World → Nat → Nat → List α → Prop := fun w b o x => ∃ a n c, w.cell? ⟨b, o, none⟩ = some (.slice a n c) ∧ Fl w a n x
instance slsR_stb {α : Type} [Flt α] : Stb (slsR (α := α)) := ⟨fun _ _ _ _ _ hx ⟨a, n, c, h1, h2⟩ => ⟨a, n, c, hx.cell h1, h2.ext hx⟩⟩
end Go.Proofs.Ythdbobnebpoolaa

namespace Go.Proofs.Ythdbobnebpoolaa
set_option linter.unusedSimpArgs false
set_option linter.unusedVariables false
open Go Go.RowKit
theorem wl_clear {P : Program} {Q : Exit → Act → World → Prop} {a : Act} {w : World} {ops : Array Oper} {rest : List Oper} {d : Option Tmp} {x : Operand} {t : TypeId} {ty : TypeId} {pos : String} {af : Array Edge} {gd : Option (Nat × Bool)} (hg : Region.wanted ⟨d, .call { callee := .builtin .clear, args := #[x], argTypes := #[t] }, ty, pos, af, gd⟩ (yielded ops a.tmps) = true)
    (h : ∀ K : Act → World → Prop, (∀ a w, wpList P ops Q rest a w → K a w) → Oper.wp P ⟨d, .call { callee := .builtin .clear, args := #[x], argTypes := #[t] }, ty, pos, af, gd⟩ a w K Q) : wpList P ops Q (⟨d, .call { callee := .builtin .clear, args := #[x], argTypes := #[t] }, ty, pos, af, gd⟩ :: rest) a w := wpl_at hg h
end Go.Proofs.Ythdbobnebpoolaa

namespace Go.Proofs.Ythdbobnebpoolaa
set_option linter.unusedSimpArgs false
set_option linter.unusedVariables false
open Go Go.RowKit
end Go.Proofs.Ythdbobnebpoolaa

namespace Go.Proofs.Ythdbobnebpoolaa
set_option linter.unusedSimpArgs false
set_option linter.unusedVariables false
open Go Go.RowKit
theorem nameR_len {s : List UInt8} (h : nameR s = true) : 1 ≤ s.length ∧ s.length ≤ 16 := by
  cases s with
  | nil => simp [nameR] at h
  | cons c s => simp [nameR] at h; simp; omega
set_option maxRecDepth 100000 in
set_option maxHeartbeats 1000000 in
theorem namePut_yes {fr al : Nat → Prop} {w : World} {p : Nat} {xs : List UInt8} (st : Own fr al w [penI p xs] w) (s : List UInt8) (hr : nameR s = true) (hl : xs.length ≤ 10000000) :
    Calls Try.prog 68 #[.pointer (some ⟨p, 0, none⟩), S s] w fun e w' => e = .returned (.bool true) ∧ Own fr al w [penI p (xs ++ (numB s.length ++ s))] w' := by
  have hsl := nameR_len hr
  have HR := Lib.hid hr
  clear hr
  unfold S
  go_enter Try.func68, Try.ntmps68
  go_wp2_with fail
  refine (right_any s _ (by omega)).mono ?_
  rintro en w ⟨rfl, hx⟩
  replace st := st.ext hx
  clear hx
  (try clear hc); have hc := st.facts; (try simp only [nfl, nft, Nat.reduceAdd] at hc)
  rw [HR.out]
  go_wp2_with ((((with_reducible refine wl_convert ?_ (fun K hK => ?_)); rfl; refine owp_sb (o := ⟨some 14, _, _, _, _, _⟩) rfl st rfl Try.underlying9 Try.underlying33 Try.underlying5 ?_ ?_; (simp only [maxLen]; omega); (clear st; intro A14 c14 w hc14 st))); (try simp only [nsl, Value.cells, unB] at st); (try clear hc); have hc := st.facts; (try simp only [nfl, nft, Nat.reduceAdd] at hc))
  obtain ⟨fr', al', st', back⟩ := st.sub [0, 1] (by decide) (by simp)
  (try simp only [nsl, Value.cells, unB] at st')
  refine (penText_c st' (by omega) (by omega)).mono ?_
  clear st'
  rintro en w ⟨rfl, st'⟩
  replace st := back _ _ (by simp) st'
  clear back st'
  (try simp only [nsl, Value.cells, unB] at st)
  (try clear hc); have hc := st.facts; (try simp only [nfl, nft, Nat.reduceAdd] at hc)
  go_wp2_with fail
  go_ret
  have st' := st.keep [0] (by decide) (by simp)
  exact ⟨rfl, by simpa [pick] using st'⟩
/-- The next name. -/
def rdName (xs : List UInt8) : Except Int (List UInt8 × List UInt8) := match rdText 16 xs with
  | .error e => .error e
  | .ok (s, ys) => if nameR s = true then .ok (s, ys) else .error 30
end Go.Proofs.Ythdbobnebpoolaa

namespace Go.Proofs.Ythdbobnebpoolaa
set_option linter.unusedSimpArgs false
set_option linter.unusedVariables false
open Go Go.RowKit
end Go.Proofs.Ythdbobnebpoolaa

namespace Go.Proofs.Ythdbobnebpoolaa
set_option linter.unusedSimpArgs false
set_option linter.unusedVariables false
open Go Go.RowKit
theorem rdNumF_back (f : Nat) : ∀ (i acc m : Nat) (ys : List UInt8), f + i = 10 → m * 128 ^ i < 9223372036854775808 → (0 < i → 0 < m) → rdNumF f i acc (numF f m ++ ys) = .ok (acc + m * 128 ^ i, ys) := by
  induction f with
  | zero =>
    intro i acc m ys hf hm hi
    exfalso
    obtain rfl : i = 10 := by omega
    have := hi (by omega)
    have : (128 : Nat) ^ 10 ≤ m * 128 ^ 10 := Nat.le_mul_of_pos_left _ this
    have h3 : (128 : Nat) ^ 10 = 1180591620717411303424 := by decide
    omega
  | succ f ih =>
    intro i acc m ys hf hm hi
    have h9 : i ≠ 9 := by
      rintro rfl
      have := hi (by omega)
      have h1 : (128 : Nat) ^ 9 ≤ m * 128 ^ 9 := Nat.le_mul_of_pos_left _ this
      have h3 : (128 : Nat) ^ 9 = 9223372036854775808 := by decide
      omega
    by_cases hlt : 128 ≤ m
    · rw [numF_more _ _ hlt, List.cons_append]
      unfold rdNumF rdNext
      rw [if_neg h9]
      have hc : (UInt8.ofNat (128 + m % 128)).toNat = 128 + m % 128 := by simp; omega
      have hne : UInt8.ofNat (128 + m % 128) ≠ 0 := fun q => by have := congrArg UInt8.toNat q; rw [hc] at this; simp at this
      simp only [hne, false_and, if_false, hc]
      rw [if_neg (by omega), ih (i + 1) _ (m / 128) ys (by omega) ?_ (fun _ => by omega)]
      · congr 2
        have e1 : (128 + m % 128) % 128 = m % 128 := by omega
        rw [e1, Nat.pow_succ, Nat.add_assoc, ← Nat.mul_assoc, Nat.mul_right_comm, ← Nat.add_mul]
        congr 2
        omega
      · rw [Nat.pow_succ, Nat.mul_comm (128 ^ i), ← Nat.mul_assoc]
        exact Nat.lt_of_le_of_lt (Nat.mul_le_mul_right _ (Nat.div_mul_le_self m 128)) hm
    · rw [numF_last _ _ hlt, List.cons_append]
      unfold rdNumF rdNext
      rw [if_neg h9]
      have hc : (UInt8.ofNat m).toNat = m := by simp; omega
      have hne : ¬ (UInt8.ofNat m = 0 ∧ 0 < i) := fun ⟨q, q2⟩ => by have := congrArg UInt8.toNat q; rw [hc] at this; simp at this; have := hi q2; omega
      simp only [hne, if_false, hc]
      rw [if_pos (by omega), Nat.mod_eq_of_lt (by omega)]
      rfl
theorem rdNum_back (n : Nat) (ys : List UInt8) (hn : n < 9223372036854775808) : rdNum (numB n ++ ys) = .ok (n, ys) := by
  have := rdNumF_back 10 0 0 n ys rfl (by simpa using hn) (fun h => by omega)
  simpa [rdNum, numB] using this
theorem rdText_put (most : Nat) (b ys : List UInt8) (hb : b.length ≤ most) (hm : most < 9223372036854775808) : rdText (most : Int) (numB b.length ++ b ++ ys) = .ok (b, ys) := by
  unfold rdText
  rw [List.append_assoc, rdNum_back _ _ (by omega)]
  simp only
  rw [if_neg (by omega), if_neg (by simp)]
  simp
end Go.Proofs.Ythdbobnebpoolaa

namespace Go.Proofs.Ythdbobnebpoolaa
set_option linter.unusedSimpArgs false
set_option linter.unusedVariables false
open Go Go.RowKit
section
variable {P : Program} {fn : Func} {R : Ending → World → Prop} {a : Act} {w : World} {p u g : Nat} {ty : TypeId} {d : TypeDesc} {vs : List Value}
theorem bodyPost_cell (h : fn.results = #[.cell p ty]) (hp : a.tmps.getD p undef = .pointer (some ⟨g, 0, none⟩)) (hb : Blk w g vs) (hu : P.underlying ty = some d) (hd : (match d with | .struct _ | .array _ _ => true | _ => false) = true) (hi : (P.info? ty).map (·.size) = some vs.length)
    (hdef : a.defers = []) (hR : R (.returned (.agg vs.toArray)) w) : bodyPost P fn R .ret a w := by
  obtain ⟨t, hb⟩ := hb
  exact bodyPost_ret (results_cell_row h a.tmps w g t vs.toArray (0, 0) d hp hb hu hd (by simpa using hi)) hdef hR
theorem bodyPost_cell2 (h : fn.results = #[.cell p ty, .tmp u]) (hp : a.tmps.getD p undef = .pointer (some ⟨g, 0, none⟩)) (hb : Blk w g vs) (hu : P.underlying ty = some d) (hd : (match d with | .struct _ | .array _ _ => true | _ => false) = true) (hi : (P.info? ty).map (·.size) = some vs.length)
    (hdef : a.defers = []) (hR : R (.returned (.tuple #[.agg vs.toArray, a.tmps.getD u undef])) w) : bodyPost P fn R .ret a w := by
  obtain ⟨t, hb⟩ := hb
  refine bodyPost_ret (v := .tuple #[.agg vs.toArray, a.tmps.getD u undef]) ?_ hdef hR
  rw [results_cell_tmp h]
  rw [hp]
  simp [asAddr, run_loadVar_row w g t ty vs.toArray (0, 0) d hb hu hd (by simpa using hi), Result.andThen]
end
end Go.Proofs.Ythdbobnebpoolaa

namespace Go.Proofs.Ythdbobnebpoolaa
set_option linter.unusedSimpArgs false
set_option linter.unusedVariables false
open Go Go.RowKit
abbrev Role := List UInt8 × List UInt8
instance fltRole : Flt Role := ⟨2, fun r => [S r.1, S r.2], fun _ => rfl, by decide, fun x u hu => by simp at hu; rcases hu with rfl | rfl <;> rfl⟩
/-- A role as a value. -/
def rV (r : Role) : Value := .agg #[S r.1, S r.2]
def roleR (r : Role) : Bool := nameR r.1 && nameR r.2
def roleB (r : Role) : List UInt8 := (numB r.1.length ++ r.1) ++ (numB r.2.length ++ r.2)
set_option maxRecDepth 100000 in
set_option maxHeartbeats 1000000 in
theorem roleRight_any (r : Role) (W : World) (h1 : r.1.length ≤ 100000) (h2 : r.2.length ≤ 100000) : Calls Try.prog 47 #[rV r] W fun e w' => e = .returned (.bool (roleR r)) ∧ Ext W w' := by
  obtain ⟨o, d⟩ := r
  simp only at h1 h2
  have st := Own.startOld W
  unfold rV roleR S
  (try simp only [nsl, Value.cells, unB] at st)
  (try clear hc); have hc := st.facts; (try simp only [nfl, nft, Nat.reduceAdd] at hc)
  go_enter Try.func47, Try.ntmps47
  go_wp2_with ((((with_reducible refine wl_box ?_ (fun K hK => ?_)); rfl; refine owp_box (o := ⟨some 1, _, _, _, _, _⟩) rfl st ?_; apply Exists.intro; refine ⟨?_, ?_⟩; (focus (go_simp; try rfl)); (clear st; intro b1 w hb st; clear hb))); (try simp only [nsl, Value.cells, unB] at st); (try clear hc); have hc := st.facts; (try simp only [nfl, nft, Nat.reduceAdd] at hc))
  refine (right_any o _ h1).mono ?_
  rintro en w ⟨rfl, hx⟩
  replace st := st.ext hx
  clear hx
  (try clear hc); have hc := st.facts; (try simp only [nfl, nft, Nat.reduceAdd] at hc)
  cases hr : nameR o with
  | true =>
    go_wp2_with ((((with_reducible refine wl_box ?_ (fun K hK => ?_)); rfl; refine owp_box (o := ⟨some 1, _, _, _, _, _⟩) rfl st ?_; apply Exists.intro; refine ⟨?_, ?_⟩; (focus (go_simp; try rfl)); (clear st; intro b1 w hb st; clear hb))); (try simp only [nsl, Value.cells, unB] at st); (try clear hc); have hc := st.facts; (try simp only [nfl, nft, Nat.reduceAdd] at hc))
    refine (right_any d _ h2).mono ?_
    rintro en w ⟨rfl, hx⟩
    replace st := st.ext hx
    clear hx
    (try clear hc); have hc := st.facts; (try simp only [nfl, nft, Nat.reduceAdd] at hc)
    go_wp2_with ((((with_reducible refine wl_box ?_ (fun K hK => ?_)); rfl; refine owp_box (o := ⟨some 1, _, _, _, _, _⟩) rfl st ?_; apply Exists.intro; refine ⟨?_, ?_⟩; (focus (go_simp; try rfl)); (clear st; intro b1 w hb st; clear hb))); (try simp only [nsl, Value.cells, unB] at st); (try clear hc); have hc := st.facts; (try simp only [nfl, nft, Nat.reduceAdd] at hc))
    go_ret
    exact ⟨by simp [hr], st.ext0⟩
  | false =>
    go_wp2_with ((((with_reducible refine wl_box ?_ (fun K hK => ?_)); rfl; refine owp_box (o := ⟨some 1, _, _, _, _, _⟩) rfl st ?_; apply Exists.intro; refine ⟨?_, ?_⟩; (focus (go_simp; try rfl)); (clear st; intro b1 w hb st; clear hb))); (try simp only [nsl, Value.cells, unB] at st); (try clear hc); have hc := st.facts; (try simp only [nfl, nft, Nat.reduceAdd] at hc))
    go_ret
    exact ⟨by simp [hr], st.ext0⟩
set_option maxRecDepth 100000 in
set_option maxHeartbeats 1000000 in
theorem refRoleRight_any (r : Role) (W : World) (h1 : r.1.length ≤ 1000000000) (h2 : r.2.length ≤ 1000000000) : Calls Try.prog 61 #[rV r] W fun e w' => e = .returned (.bool (roleR r)) ∧ Ext W w' := by
  obtain ⟨o, d⟩ := r
  simp only at h1 h2
  have st := Own.startOld W
  unfold rV roleR S
  (try simp only [nsl, Value.cells, unB] at st)
  (try clear hc); have hc := st.facts; (try simp only [nfl, nft, Nat.reduceAdd] at hc)
  go_enter Try.func61, Try.ntmps61
  go_wp2_with ((((with_reducible refine wl_box ?_ (fun K hK => ?_)); rfl; refine owp_box (o := ⟨some 1, _, _, _, _, _⟩) rfl st ?_; apply Exists.intro; refine ⟨?_, ?_⟩; (focus (go_simp; try rfl)); (clear st; intro b1 w hb st; clear hb))); (try simp only [nsl, Value.cells, unB] at st); (try clear hc); have hc := st.facts; (try simp only [nfl, nft, Nat.reduceAdd] at hc))
  refine (refRight_any o _ h1).mono ?_
  rintro en w ⟨rfl, hx⟩
  replace st := st.ext hx
  clear hx
  (try clear hc); have hc := st.facts; (try simp only [nfl, nft, Nat.reduceAdd] at hc)
  cases hr : nameR o with
  | true =>
    go_wp2_with ((((with_reducible refine wl_box ?_ (fun K hK => ?_)); rfl; refine owp_box (o := ⟨some 1, _, _, _, _, _⟩) rfl st ?_; apply Exists.intro; refine ⟨?_, ?_⟩; (focus (go_simp; try rfl)); (clear st; intro b1 w hb st; clear hb))); (try simp only [nsl, Value.cells, unB] at st); (try clear hc); have hc := st.facts; (try simp only [nfl, nft, Nat.reduceAdd] at hc))
    refine (refRight_any d _ h2).mono ?_
    rintro en w ⟨rfl, hx⟩
    replace st := st.ext hx
    clear hx
    (try clear hc); have hc := st.facts; (try simp only [nfl, nft, Nat.reduceAdd] at hc)
    go_wp2_with ((((with_reducible refine wl_box ?_ (fun K hK => ?_)); rfl; refine owp_box (o := ⟨some 1, _, _, _, _, _⟩) rfl st ?_; apply Exists.intro; refine ⟨?_, ?_⟩; (focus (go_simp; try rfl)); (clear st; intro b1 w hb st; clear hb))); (try simp only [nsl, Value.cells, unB] at st); (try clear hc); have hc := st.facts; (try simp only [nfl, nft, Nat.reduceAdd] at hc))
    go_ret
    exact ⟨by simp [hr], st.ext0⟩
  | false =>
    go_wp2_with ((((with_reducible refine wl_box ?_ (fun K hK => ?_)); rfl; refine owp_box (o := ⟨some 1, _, _, _, _, _⟩) rfl st ?_; apply Exists.intro; refine ⟨?_, ?_⟩; (focus (go_simp; try rfl)); (clear st; intro b1 w hb st; clear hb))); (try simp only [nsl, Value.cells, unB] at st); (try clear hc); have hc := st.facts; (try simp only [nfl, nft, Nat.reduceAdd] at hc))
    go_ret
    exact ⟨by simp [hr], st.ext0⟩
set_option maxRecDepth 100000 in
set_option maxHeartbeats 1000000 in
theorem rolePut_yes {fr al : Nat → Prop} {w : World} {p : Nat} {xs : List UInt8} (st : Own fr al w [penI p xs] w) (r : Role) (hr : roleR r = true) (hl : xs.length ≤ 9000000) :
    Calls Try.prog 67 #[.pointer (some ⟨p, 0, none⟩), rV r] w fun e w' => e = .returned (.bool true) ∧ Own fr al w [penI p (xs ++ roleB r)] w' := by
  obtain ⟨o, d⟩ := r
  have hr' : nameR o = true ∧ nameR d = true := by simpa [roleR] using hr
  have HR := Lib.hid hr'
  have hl1 := nameR_len hr'.1
  have hl2 := nameR_len hr'.2
  clear hr hr'
  unfold rV S
  go_enter Try.func67, Try.ntmps67
  go_wp2_with ((((with_reducible refine wl_box ?_ (fun K hK => ?_)); rfl; refine owp_box (o := ⟨some 3, _, _, _, _, _⟩) rfl st ?_; apply Exists.intro; refine ⟨?_, ?_⟩; (focus (go_simp; try rfl)); (clear st; intro b3 w hb st; clear hb))); (try simp only [nsl, Value.cells, unB] at st); (try clear hc); have hc := st.facts; (try simp only [nfl, nft, Nat.reduceAdd] at hc))
  refine (roleRight_any (o, d) _ (by simp only; omega) (by simp only; omega)).mono ?_
  rintro en w ⟨rfl, hx⟩
  replace st := st.ext hx
  clear hx
  (try clear hc); have hc := st.facts; (try simp only [nfl, nft, Nat.reduceAdd] at hc)
  rw [show roleR (o, d) = true from by simp [roleR, HR.out.1, HR.out.2]]
  go_wp2_with ((((with_reducible refine wl_box ?_ (fun K hK => ?_)); rfl; refine owp_box (o := ⟨some 3, _, _, _, _, _⟩) rfl st ?_; apply Exists.intro; refine ⟨?_, ?_⟩; (focus (go_simp; try rfl)); (clear st; intro b3 w hb st; clear hb))); (try simp only [nsl, Value.cells, unB] at st); (try clear hc); have hc := st.facts; (try simp only [nfl, nft, Nat.reduceAdd] at hc))
  obtain ⟨fr', al', st', back⟩ := st.sub [0] (by decide) (by simp)
  (try simp only [nsl, Value.cells, unB] at st')
  refine (namePut_yes st' o HR.out.1 (by omega)).mono ?_
  clear st'
  rintro en w ⟨rfl, st'⟩
  replace st := back _ _ (by simp) st'
  clear back st'
  (try simp only [nsl, Value.cells, unB] at st)
  (try clear hc); have hc := st.facts; (try simp only [nfl, nft, Nat.reduceAdd] at hc)
  go_wp2_with ((((with_reducible refine wl_box ?_ (fun K hK => ?_)); rfl; refine owp_box (o := ⟨some 3, _, _, _, _, _⟩) rfl st ?_; apply Exists.intro; refine ⟨?_, ?_⟩; (focus (go_simp; try rfl)); (clear st; intro b3 w hb st; clear hb))); (try simp only [nsl, Value.cells, unB] at st); (try clear hc); have hc := st.facts; (try simp only [nfl, nft, Nat.reduceAdd] at hc))
  obtain ⟨fr', al', st', back⟩ := st.sub [0] (by decide) (by simp)
  (try simp only [nsl, Value.cells, unB] at st')
  refine (namePut_yes st' d HR.out.2 (by have := numF_len 10 o.length; simp [numB]; omega)).mono ?_
  clear st'
  rintro en w ⟨rfl, st'⟩
  replace st := back _ _ (by simp) st'
  clear back st'
  (try simp only [nsl, Value.cells, unB] at st)
  (try clear hc); have hc := st.facts; (try simp only [nfl, nft, Nat.reduceAdd] at hc)
  go_wp2_with ((((with_reducible refine wl_box ?_ (fun K hK => ?_)); rfl; refine owp_box (o := ⟨some 3, _, _, _, _, _⟩) rfl st ?_; apply Exists.intro; refine ⟨?_, ?_⟩; (focus (go_simp; try rfl)); (clear st; intro b3 w hb st; clear hb))); (try simp only [nsl, Value.cells, unB] at st); (try clear hc); have hc := st.facts; (try simp only [nfl, nft, Nat.reduceAdd] at hc))
  go_ret
  have st' := st.keep [0] (by decide) (by simp)
  exact ⟨rfl, by simpa [pick, roleB] using st'⟩
/-- The next role. -/
def rdRole (xs : List UInt8) : Except Int (Role × List UInt8) := match rdName xs with
  | .error e => .error e
  | .ok (o, ys) => match rdName ys with
    | .error e => .error e
    | .ok (d, zs) => .ok ((o, d), zs)
set_option maxRecDepth 100000 in
set_option maxHeartbeats 1000000 in
theorem refRoleBytes_any (r : Role) (W : World) (h1 : r.1.length ≤ 100000) (h2 : r.2.length ≤ 100000) : Calls Try.prog 74 #[rV r] W fun e w' => e = .returned (S (roleB r)) ∧ Ext W w' := by
  have happ := ba_append
  obtain ⟨o, d⟩ := r
  simp only at h1 h2
  have hn1 : (numB o.length).length ≤ 10 := numF_len 10 o.length
  have hn2 : (numB d.length).length ≤ 10 := numF_len 10 d.length
  have st := Own.startOld W
  unfold rV roleB S
  simp only
  (try simp only [nsl, Value.cells, unB] at st)
  (try clear hc); have hc := st.facts; (try simp only [nfl, nft, Nat.reduceAdd] at hc)
  go_enter Try.func74, Try.ntmps74
  go_wp2_with ((((with_reducible refine wl_box ?_ (fun K hK => ?_)); rfl; refine owp_box (o := ⟨some 1, _, _, _, _, _⟩) rfl st ?_; apply Exists.intro; refine ⟨?_, ?_⟩; (focus (go_simp; try rfl)); (clear st; intro b1 w hb st; clear hb))); (try simp only [nsl, Value.cells, unB] at st); (try clear hc); have hc := st.facts; (try simp only [nfl, nft, Nat.reduceAdd] at hc))
  refine Rg4.wp_region4 (Rel := Ext) #[0, 1, 3, 0, 8, 31, 63, 127]
    [(2, .val (.string ⟨(numB o.length ++ o).toArray⟩)), (5, .val (.string ⟨(numB d.length ++ d).toArray⟩))] [] [1, 4] (fun _ => True) [0, 1, 2, 3, 4, 5, 6, 7] (by kernel_rfl) (by kernel_rfl) (by kernel_rfl) (by kernel_rfl) Ext.refl (fun _ _ _ => Ext.trans) (show Rg4.PB _ by repeat (first | with_reducible exact Rg4.pb_body | with_reducible exact Rg4.pb_bodyD rfl | with_reducible refine Rg4.pb_then ?_ | with_reducible refine Rg4.pb_inBlock ?_ | with_reducible refine Rg4.pb_noGoto ?_ | with_reducible assumption)) (trivial) ?_
  replace st := st.drew
  change Rg4.wp4 _ _ _ _ _ _ _ _ _ (World.drew _) _ _
  generalize World.drew _ = w at st ⊢
  (try clear hc); have hc := st.facts; (try simp only [nfl, nft, Nat.reduceAdd] at hc)
  (refine Rg4.w4_any (Rg4.want_none rfl) rfl ?_; apply Exists.intro; refine ⟨fun w' => ?_, ?_⟩; (focus (first | (go_simp; done) | (go_simp; first | rfl | (rw [if_neg] <;> first | rfl | omega) | (rw [if_pos] <;> first | rfl | omega)))); (try simp only [Rg4.nrm]))
  (refine Rg4.w4_read (Rg4.want_none rfl) rfl rfl ?_; apply Exists.intro; refine ⟨fun w' hw' hcl' => ?_, ?_⟩; focus (have st' := st.ext hw'; have hc' := st'.facts; (try simp only [nfl, nft, Nat.reduceAdd] at hc'); (focus (first | (go_simp; done) | (go_simp; first | rfl | (rw [if_neg] <;> first | rfl | omega) | (rw [if_pos] <;> first | rfl | omega))))); (try simp only [Rg4.nrm]))
  refine Rg4.w4_some (Rg4.want_none rfl) rfl (fun w' hw' hcl' _ => ?_) ?_
  · refine Rg.relAt_call (by go_simp; exact ⟨rfl, rfl⟩) ?_
    refine (refText_any o _ (by omega)).mono ?_
    rintro en w'' ⟨rfl, hx⟩
    exact ⟨_, rfl, hx, trivial, rfl⟩
  rintro v ⟨_, _, _, rfl⟩
  (try simp only [Rg4.nrm])
  (refine Rg4.w4_any (Rg4.want_none rfl) rfl ?_; apply Exists.intro; refine ⟨fun w' => ?_, ?_⟩; (focus (first | (go_simp; done) | (go_simp; first | rfl | (rw [if_neg] <;> first | rfl | omega) | (rw [if_pos] <;> first | rfl | omega)))); (try simp only [Rg4.nrm]))
  (refine Rg4.w4_read (Rg4.want_none rfl) rfl rfl ?_; apply Exists.intro; refine ⟨fun w' hw' hcl' => ?_, ?_⟩; focus (have st' := st.ext hw'; have hc' := st'.facts; (try simp only [nfl, nft, Nat.reduceAdd] at hc'); (focus (first | (go_simp; done) | (go_simp; first | rfl | (rw [if_neg] <;> first | rfl | omega) | (rw [if_pos] <;> first | rfl | omega))))); (try simp only [Rg4.nrm]))
  refine Rg4.w4_some (Rg4.want_none rfl) rfl (fun w' hw' hcl' _ => ?_) ?_
  · refine Rg.relAt_call (by go_simp; exact ⟨rfl, rfl⟩) ?_
    refine (refText_any d _ (by omega)).mono ?_
    rintro en w'' ⟨rfl, hx⟩
    exact ⟨_, rfl, hx, trivial, rfl⟩
  rintro v ⟨_, _, _, rfl⟩
  (try simp only [Rg4.nrm])
  iterate 2 (refine Rg4.w4_any (Rg4.want_none rfl) rfl ?_; apply Exists.intro; refine ⟨fun w' => ?_, ?_⟩; (focus (first | (go_simp; done) | (go_simp; first | rfl | (rw [if_neg] <;> first | rfl | omega) | (rw [if_pos] <;> first | rfl | omega)))); (try simp only [Rg4.nrm]))
  refine Rg4.w4_nil (fun w' hw' hcl' _ => ?_); replace st := st.ext hw'; clear hw' hcl'; (try clear hc); have hc := st.facts; (try simp only [nfl, nft, Nat.reduceAdd] at hc)
  go_wp2_with fail
  go_ret
  exact ⟨by simp, st.ext0⟩
end Go.Proofs.Ythdbobnebpoolaa

namespace Go.Proofs.Ythdbobnebpoolaa
set_option linter.unusedSimpArgs false
set_option linter.unusedVariables false
open Go Go.RowKit
def roleLt (a b : Role) : Bool := strLt a.1 b.1 || (a.1 == b.1 && strLt a.2 b.2)
theorem strLt_irr (x : List UInt8) : strLt x x = false := (strOrd (fun _ => true)).irr x
theorem strLt_tr {x y z : List UInt8} (h : strLt x y = true) (k : strLt y z = true) : strLt x z = true := (strOrd (fun _ => true)).tr _ _ _ h k
theorem strLt_tri (x y : List UInt8) : strLt x y = true ∨ x = y ∨ strLt y x = true := (strOrd (fun _ => true)).tri x y rfl rfl
/-- What Compare tells. -/
def roleCmp (a b : Role) : Int := if roleLt a b = true then -1 else if roleLt b a = true then 1 else 0
theorem cmpBytes_eq : ∀ (a b : List UInt8), Lib.compareBytes a b = if strLt a b = true then -1 else if strLt b a = true then 1 else 0
  | [], [] => by simp [Lib.compareBytes, strLt, Op.bytesLess]
  | [], _ :: _ => by simp [Lib.compareBytes, strLt, Op.bytesLess]
  | _ :: _, [] => by simp [Lib.compareBytes, strLt, Op.bytesLess]
  | a :: s, b :: t => by
    have ih := cmpBytes_eq s t
    simp only [strLt] at ih
    simp only [Lib.compareBytes, strLt, Op.bytesLess]
    by_cases h1 : a < b
    · simp [h1]
    · by_cases h2 : b < a
      · have hab : (a == b) = false := by
          cases hq : a == b with
          | false => rfl
          | true => have e : a = b := by simpa using hq
                    subst e; exact absurd h2 h1
        simp [h1, h2, hab]
      · have e : a = b := by
          apply UInt8.toNat_inj.1
          have q1 : ¬ a.toNat < b.toNat := fun q => h1 (by simpa [UInt8.lt_iff_toNat_lt] using q)
          have q2 : ¬ b.toNat < a.toNat := fun q => h2 (by simpa [UInt8.lt_iff_toNat_lt] using q)
          omega
        subst e
        simp [h1, ih]
        rfl
set_option maxRecDepth 100000 in
set_option maxHeartbeats 1000000 in
theorem refRoleLess_any (a b : Role) (W : World) : Calls Try.prog 63 #[rV a, rV b] W fun e w' => e = .returned (.bool (roleLt a b)) ∧ Ext W w' := by
  obtain ⟨o, d⟩ := a
  obtain ⟨o', d'⟩ := b
  have st := Own.startOld W
  unfold rV roleLt S strLt
  simp only
  (try simp only [nsl, Value.cells, unB] at st)
  (try clear hc); have hc := st.facts; (try simp only [nfl, nft, Nat.reduceAdd] at hc)
  cases h1 : Op.bytesLess o o' with
  | true =>
    go_enter Try.func63, Try.ntmps63
    go_wp2_with ((first
          | ((with_reducible refine wl_box ?_ (fun K hK => ?_)); rfl; refine owp_box (o := ⟨some 2, _, _, _, _, _⟩) rfl st ?_; apply Exists.intro; refine ⟨?_, ?_⟩; (focus (go_simp; try rfl)); (clear st; intro b2 w hb st; clear hb))
          | ((with_reducible refine wl_box ?_ (fun K hK => ?_)); rfl; refine owp_box (o := ⟨some 3, _, _, _, _, _⟩) rfl st ?_; apply Exists.intro; refine ⟨?_, ?_⟩; (focus (go_simp; try rfl)); (clear st; intro b3 w hb st; clear hb))); (try simp only [nsl, Value.cells, unB] at st); (try clear hc); have hc := st.facts; (try simp only [nfl, nft, Nat.reduceAdd] at hc))
    go_ret
    exact ⟨by simp [h1], st.ext0⟩
  | false =>
    cases h2 : (o == o') with
    | true =>
      go_enter Try.func63, Try.ntmps63
      go_wp2_with ((first
            | ((with_reducible refine wl_box ?_ (fun K hK => ?_)); rfl; refine owp_box (o := ⟨some 2, _, _, _, _, _⟩) rfl st ?_; apply Exists.intro; refine ⟨?_, ?_⟩; (focus (go_simp; try rfl)); (clear st; intro b2 w hb st; clear hb))
            | ((with_reducible refine wl_box ?_ (fun K hK => ?_)); rfl; refine owp_box (o := ⟨some 3, _, _, _, _, _⟩) rfl st ?_; apply Exists.intro; refine ⟨?_, ?_⟩; (focus (go_simp; try rfl)); (clear st; intro b3 w hb st; clear hb))); (try simp only [nsl, Value.cells, unB] at st); (try clear hc); have hc := st.facts; (try simp only [nfl, nft, Nat.reduceAdd] at hc))
      go_ret
      exact ⟨by simp [h1, h2], st.ext0⟩
    | false =>
      go_enter Try.func63, Try.ntmps63
      go_wp2_with ((first
            | ((with_reducible refine wl_box ?_ (fun K hK => ?_)); rfl; refine owp_box (o := ⟨some 2, _, _, _, _, _⟩) rfl st ?_; apply Exists.intro; refine ⟨?_, ?_⟩; (focus (go_simp; try rfl)); (clear st; intro b2 w hb st; clear hb))
            | ((with_reducible refine wl_box ?_ (fun K hK => ?_)); rfl; refine owp_box (o := ⟨some 3, _, _, _, _, _⟩) rfl st ?_; apply Exists.intro; refine ⟨?_, ?_⟩; (focus (go_simp; try rfl)); (clear st; intro b3 w hb st; clear hb))); (try simp only [nsl, Value.cells, unB] at st); (try clear hc); have hc := st.facts; (try simp only [nfl, nft, Nat.reduceAdd] at hc))
      go_ret
      exact ⟨by simp [h1, h2], st.ext0⟩
def or2 (x y : Int) : Int := if x = 0 then y else x
set_option maxRecDepth 100000 in
set_option maxHeartbeats 1000000 in
theorem cmpOr2_any (b k : Nat) (x y : Int) (W : World) (h0 : W.cell? ⟨b, 0, none⟩ = some (.int .i64 x)) (h1 : W.cell? ⟨b, 1, none⟩ = some (.int .i64 y)) :
    Calls Try.prog 58 #[.slice (some ⟨b, 0, none⟩) 2 k] W fun e w' => e = .returned (.int .i64 (or2 x y)) ∧ Ext W w' := by
  have H := Lib.hid (And.intro h0 h1)
  clear h0 h1
  have st := Own.startOld W
  (try simp only [nsl, Value.cells, unB] at st)
  (try clear hc); have hc := st.facts; (try simp only [nfl, nft, Nat.reduceAdd] at hc)
  go_enter Try.func58, Try.ntmps58
  go_wp2_with fail
  go_loopg [8] 2 (fun k i wr => ∃ (j : Nat), j ≤ 2 ∧ k = 2 - j ∧ i = .int .i64 (j : Int) ∧ Hid ((0 < j → x = 0) ∧ (1 < j → y = 0)) ∧ Own (fun _ => False) (fun _ => True) W [oldI W] wr)
  case atStart => exact ⟨0, by omega, by omega, rfl, Lib.hid ⟨by omega, by omega⟩, st⟩
  case round =>
    obtain ⟨j, hj, rfl, rfl, HT, st'⟩ := hrel
    clear st hc
    have st := st'
    clear st'
    have r0 := st.oldCell (i := 0) get0 H.out.1
    have r1 := st.oldCell (i := 0) get0 H.out.2
    match j, hj with
    | 0, _ =>
      by_cases hx : x = 0
      · subst hx
        go_wp2_with fail
        go_roundg 1
        case measure => omega
        case rel => exact ⟨1, by omega, by omega, by first | rfl | trivial | go_num, Lib.hid (by simp), st⟩
      · have hb : (x != 0) = true := by simpa using hx
        have HX := Lib.hid hx
        clear hx
        go_wp2_with fail
        go_ret
        exact ⟨by rw [show or2 x y = x from if_neg HX.out]; rfl, st.ext0⟩
    | 1, _ =>
      have HX : Hid (x = 0) := Lib.hid (HT.out.1 (by omega))
      by_cases hy : y = 0
      · subst hy
        go_wp2_with fail
        go_roundg 0
        case measure => omega
        case rel => exact ⟨2, by omega, by omega, by first | rfl | trivial | go_num, Lib.hid (by simp [HX.out]), st⟩
      · have hb : (y != 0) = true := by simpa using hy
        clear hy
        go_wp2_with fail
        go_ret
        exact ⟨by rw [show or2 x y = y from if_pos HX.out]; rfl, st.ext0⟩
    | 2, _ =>
      have HX : Hid (x = 0 ∧ y = 0) := Lib.hid ⟨HT.out.1 (by omega), HT.out.2 (by omega)⟩
      go_wp2_with fail
      go_ret
      exact ⟨by rw [show or2 x y = 0 from (if_pos HX.out.1).trans HX.out.2]; rfl, st.ext0⟩
    | j + 3, hj => omega
def cmp2 (x y : List UInt8) : Int := if strLt x y = true then -1 else if strLt y x = true then 1 else 0
theorem strCompare_any (a b : List UInt8) (W : World) : Calls Try.prog 59 #[.string ⟨a.toArray⟩, .string ⟨b.toArray⟩] W fun e w' => e = .returned (.int .i64 (cmp2 a b)) ∧ Ext W w' := by
  refine (Try.strings_Compare ⟨a.toArray⟩ ⟨b.toArray⟩ W).mono ?_
  rintro e w' ⟨rfl, rfl⟩
  exact ⟨by rw [show cmp2 a b = Lib.compareBytes a b from (cmpBytes_eq a b).symm], Ext.refl _⟩
theorem roleCmp_or (o d o' d' : List UInt8) : or2 (cmp2 o o') (cmp2 d d') = roleCmp (o, d) (o', d') := by
  unfold roleCmp roleLt or2 cmp2
  simp only
  rcases strLt_tri o o' with h | h | h
  · have h2 : strLt o' o = false := (strLt_asymm h).1
    simp [h]
  · subst h; simp [strLt_irr]
  · have h2 : strLt o o' = false := (strLt_asymm h).1
    have h3 : (o == o') = false := by have := (strLt_asymm h).2; exact this
    have h4 : (o' == o) = false := by cases hq : o' == o with
      | false => rfl
      | true => have e : o' = o := by simpa using hq
                subst e; rw [strLt_irr] at h; cases h
    simp [h, h2, h3]
set_option maxRecDepth 100000 in
set_option maxHeartbeats 1000000 in
theorem roleCompare_any (a b : Role) (W : World) : Calls Try.prog 49 #[rV a, rV b] W fun e w' => e = .returned (.int .i64 (roleCmp a b)) ∧ Ext W w' := by
  obtain ⟨o, d⟩ := a
  obtain ⟨o', d'⟩ := b
  have st := Own.startOld W
  have HO := Lib.hid (roleCmp_or o d o' d')
  unfold rV S
  simp only
  (try simp only [nsl, Value.cells, unB] at st)
  (try clear hc); have hc := st.facts; (try simp only [nfl, nft, Nat.reduceAdd] at hc)
  go_enter Try.func49, Try.ntmps49
  go_wp2_with ((first
        | ((with_reducible refine wl_box ?_ (fun K hK => ?_)); rfl; refine owp_box (o := ⟨some 2, _, _, _, _, _⟩) rfl st ?_; apply Exists.intro; refine ⟨?_, ?_⟩; (focus (go_simp; try rfl)); (clear st; intro b2 w hb st; clear hb))
        | ((with_reducible refine wl_box ?_ (fun K hK => ?_)); rfl; refine owp_box (o := ⟨some 3, _, _, _, _, _⟩) rfl st ?_; apply Exists.intro; refine ⟨?_, ?_⟩; (focus (go_simp; try rfl)); (clear st; intro b3 w hb st; clear hb))
        | ((with_reducible refine wl_buildSlice ?_ (fun K hK => ?_)); rfl; refine owp_buildSlice (o := ⟨some 15, _, _, _, _, _⟩) rfl st ?_; apply Exists.intro; apply Exists.intro; apply Exists.intro; apply Exists.intro; refine ⟨?_, ?_⟩; (focus (go_simp; (first | done | exact ⟨⟨rfl, rfl⟩, rfl⟩ | rfl))); (clear st; intro b15 w hb st; clear hb))); (try simp only [nsl, Value.cells, unB] at st); (try clear hc); have hc := st.facts; (try simp only [nfl, nft, Nat.reduceAdd] at hc))
  refine Rg4.wp_region4 (Rel := Ext) #[0, 1, 0, 4, 15, 0, 32, 0, 128, 511, 1023, 2047, 4095]
    [(4, .val (.int .i64 (cmp2 o o'))), (9, .val (.int .i64 (cmp2 d d')))] [10, 11] [1, 3, 6, 8] (fun _ => True) [0, 1, 2, 3, 4, 5, 6, 7, 8, 9, 10, 11, 12] (by kernel_rfl) (by kernel_rfl) (by kernel_rfl) (by kernel_rfl) Ext.refl (fun _ _ _ => Ext.trans) (show Rg4.PB _ by repeat (first | with_reducible exact Rg4.pb_body | with_reducible exact Rg4.pb_bodyD rfl | with_reducible refine Rg4.pb_then ?_ | with_reducible refine Rg4.pb_inBlock ?_ | with_reducible refine Rg4.pb_noGoto ?_ | with_reducible assumption)) (trivial) ?_
  replace st := st.drew
  change Rg4.wp4 _ _ _ _ _ _ _ _ _ (World.drew _) _ _
  generalize World.drew _ = w at st ⊢
  (try clear hc); have hc := st.facts; (try simp only [nfl, nft, Nat.reduceAdd] at hc)
  (refine Rg4.w4_any (Rg4.want_none rfl) rfl ?_; apply Exists.intro; refine ⟨fun w' => ?_, ?_⟩; (focus (first | (go_simp; done) | (go_simp; first | rfl | (rw [if_neg] <;> first | rfl | omega) | (rw [if_pos] <;> first | rfl | omega)))); (try simp only [Rg4.nrm]))
  (refine Rg4.w4_read (Rg4.want_none rfl) rfl rfl ?_; apply Exists.intro; refine ⟨fun w' hw' hcl' => ?_, ?_⟩; focus (have st' := st.ext hw'; have hc' := st'.facts; (try simp only [nfl, nft, Nat.reduceAdd] at hc'); (focus (first | (go_simp; done) | (go_simp; first | rfl | (rw [if_neg] <;> first | rfl | omega) | (rw [if_pos] <;> first | rfl | omega))))); (try simp only [Rg4.nrm]))
  (refine Rg4.w4_any (Rg4.want_none rfl) rfl ?_; apply Exists.intro; refine ⟨fun w' => ?_, ?_⟩; (focus (first | (go_simp; done) | (go_simp; first | rfl | (rw [if_neg] <;> first | rfl | omega) | (rw [if_pos] <;> first | rfl | omega)))); (try simp only [Rg4.nrm]))
  (refine Rg4.w4_read (Rg4.want_none rfl) rfl rfl ?_; apply Exists.intro; refine ⟨fun w' hw' hcl' => ?_, ?_⟩; focus (have st' := st.ext hw'; have hc' := st'.facts; (try simp only [nfl, nft, Nat.reduceAdd] at hc'); (focus (first | (go_simp; done) | (go_simp; first | rfl | (rw [if_neg] <;> first | rfl | omega) | (rw [if_pos] <;> first | rfl | omega))))); (try simp only [Rg4.nrm]))
  refine Rg4.w4_some (Rg4.want_none rfl) rfl (fun w' hw' hcl' _ => ?_) ?_
  · refine Rg.relAt_call (by go_simp; exact ⟨rfl, rfl⟩) ?_
    refine (strCompare_any o o' _).mono ?_
    rintro en w'' ⟨rfl, hx⟩
    exact ⟨_, rfl, hx, trivial, rfl⟩
  rintro v ⟨_, _, _, rfl⟩
  (try simp only [Rg4.nrm])
  (refine Rg4.w4_any (Rg4.want_none rfl) rfl ?_; apply Exists.intro; refine ⟨fun w' => ?_, ?_⟩; (focus (first | (go_simp; done) | (go_simp; first | rfl | (rw [if_neg] <;> first | rfl | omega) | (rw [if_pos] <;> first | rfl | omega)))); (try simp only [Rg4.nrm]))
  (refine Rg4.w4_read (Rg4.want_none rfl) rfl rfl ?_; apply Exists.intro; refine ⟨fun w' hw' hcl' => ?_, ?_⟩; focus (have st' := st.ext hw'; have hc' := st'.facts; (try simp only [nfl, nft, Nat.reduceAdd] at hc'); (focus (first | (go_simp; done) | (go_simp; first | rfl | (rw [if_neg] <;> first | rfl | omega) | (rw [if_pos] <;> first | rfl | omega))))); (try simp only [Rg4.nrm]))
  (refine Rg4.w4_any (Rg4.want_none rfl) rfl ?_; apply Exists.intro; refine ⟨fun w' => ?_, ?_⟩; (focus (first | (go_simp; done) | (go_simp; first | rfl | (rw [if_neg] <;> first | rfl | omega) | (rw [if_pos] <;> first | rfl | omega)))); (try simp only [Rg4.nrm]))
  (refine Rg4.w4_read (Rg4.want_none rfl) rfl rfl ?_; apply Exists.intro; refine ⟨fun w' hw' hcl' => ?_, ?_⟩; focus (have st' := st.ext hw'; have hc' := st'.facts; (try simp only [nfl, nft, Nat.reduceAdd] at hc'); (focus (first | (go_simp; done) | (go_simp; first | rfl | (rw [if_neg] <;> first | rfl | omega) | (rw [if_pos] <;> first | rfl | omega))))); (try simp only [Rg4.nrm]))
  refine Rg4.w4_some (Rg4.want_none rfl) rfl (fun w' hw' hcl' _ => ?_) ?_
  · refine Rg.relAt_call (by go_simp; exact ⟨rfl, rfl⟩) ?_
    refine (strCompare_any d d' _).mono ?_
    rintro en w'' ⟨rfl, hx⟩
    exact ⟨_, rfl, hx, trivial, rfl⟩
  rintro v ⟨_, _, _, rfl⟩
  (try simp only [Rg4.nrm])
  (refine Rg4.w4_bar (Rg4.want_none rfl) rfl (fun w' hw' hcl' _ K hK => ?_); replace st := st.ext hw'; (refine owp_buildSlice (o := ⟨some 15, _, _, _, _, _⟩) rfl st ?_; apply Exists.intro; apply Exists.intro; apply Exists.intro; apply Exists.intro; refine ⟨?_, ?_⟩; (focus (go_simp; (first | done | exact ⟨⟨rfl, rfl⟩, rfl⟩ | rfl))); (clear st; intro b15 w hb st; clear hb); (try simp only [nsl, Value.cells, unB] at st); (try clear hc); have hc := st.facts; (try simp only [nfl, nft, Nat.reduceAdd] at hc)); refine hK _ _ ⟨trivial, ?_⟩; (try simp only [Rg4.nrm]))
  refine Rg4.w4_bar (Rg4.want_none rfl) rfl (fun w' hw' hcl _ K hK => ?_)
  replace st := st.ext hw'
  clear hw'
  (try clear hc); have hc := st.facts; (try simp only [nfl, nft, Nat.reduceAdd] at hc)
  go_wp2_with fail
  refine (cmpOr2_any b15 2 _ _ _ hc.2.2.1 hc.2.2.2).mono ?_
  rintro en w ⟨rfl, hx⟩
  replace st := st.ext hx
  clear hx
  (try clear hc); have hc := st.facts; (try simp only [nfl, nft, Nat.reduceAdd] at hc)
  rw [HO.out]
  refine hK _ _ ⟨trivial, ?_⟩
  clear hK
  (try simp only [Rg4.nrm])
  (refine Rg4.w4_any (Rg4.want_none rfl) rfl ?_; apply Exists.intro; refine ⟨fun w' => ?_, ?_⟩; (focus (first | (go_simp; done) | (go_simp; first | rfl | (rw [if_neg] <;> first | rfl | omega) | (rw [if_pos] <;> first | rfl | omega)))); (try simp only [Rg4.nrm]))
  refine Rg4.w4_nil (fun w' hw' hcl' _ => ?_); replace st := st.ext hw'; clear hw' hcl'; (try clear hc); have hc := st.facts; (try simp only [nfl, nft, Nat.reduceAdd] at hc)
  go_wp2_with fail
  go_ret
  exact ⟨rfl, st.ext0⟩
end Go.Proofs.Ythdbobnebpoolaa

namespace Go.Proofs.Ythdbobnebpoolaa
set_option linter.unusedSimpArgs false
set_option linter.unusedVariables false
open Go Go.RowKit
end Go.Proofs.Ythdbobnebpoolaa

namespace Go.Proofs.Ythdbobnebpoolaa
set_option linter.unusedSimpArgs false
set_option linter.unusedVariables false
open Go Go.RowKit
@[irreducible] def roleEq (a b : Role) : Bool := decide (a = b)
theorem roleEq_eq (a b : Role) : roleEq a b = decide (a = b) := by unfold roleEq; rfl
@[go_sem high] theorem eqRole (o d o' d' : List UInt8) (w : World) : (Op.equalIn 10000 30 (.agg #[.string ⟨o.toArray⟩, .string ⟨d.toArray⟩]) (.agg #[.string ⟨o'.toArray⟩, .string ⟨d'.toArray⟩])).run Try.prog w = .ok (roleEq (o, d) (o', d')) w := by
  have hS : Try.prog.underlying 30 = some (.struct (Try.prog.fieldsOf 30)) := by kernel_rfl
  rw [show (10000 : Nat) = 9999 + 1 from rfl, run_equalIn_agg w 9999 30 _ _ hS (by kernel_rfl), roleEq_eq]
  simp only [Program.fieldsOf, Try.underlying30]
  go_simp
  by_cases h1 : o = o' <;> by_cases h2 : d = d' <;> simp [h1, h2]
end Go.Proofs.Ythdbobnebpoolaa

namespace Go.Proofs.Ythdbobnebpoolaa
set_option linter.unusedSimpArgs false
set_option linter.unusedVariables false
open Go Go.RowKit
structure CredT where
  k : Int
  h : Role
  w : List UInt8
  b : Role
  c : Role
  e : List UInt8
deriving DecidableEq, Inhabited
def cC (x : CredT) : List Value := [.int .i64 x.k, S x.h.1, S x.h.2, S x.w, S x.b.1, S x.b.2, S x.c.1, S x.c.2, S x.e]
def cV (x : CredT) : Value := .agg #[.int .i64 x.k, S x.h.1, S x.h.2, S x.w, S x.b.1, S x.b.2, S x.c.1, S x.c.2, S x.e]
instance fltCred : Flt CredT := ⟨9, cC, fun _ => rfl, by decide, fun x u hu => by simp [cC] at hu; rcases hu with rfl | rfl | rfl | rfl | rfl | rfl | rfl | rfl | rfl <;> rfl⟩
end Go.Proofs.Ythdbobnebpoolaa
