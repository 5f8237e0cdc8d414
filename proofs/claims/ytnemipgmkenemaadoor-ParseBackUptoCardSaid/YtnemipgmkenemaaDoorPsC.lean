/- Plain predicates on memory: slices that read as lists, worlds that extend one another. No program in sight. -/
import Derived.WalkKit
import Derived.WalkSpells
import Derived.WalkLawsBesides
import Derived.Lib.Hide
import Derived.Deep.Draws
import Derived.Lib.SmallJoins
import Derived.Laws.AppendOwnNone
import Derived.Orders
import Derived.Still
import Derived.KernelRfl
import Derived.Tactics
import Derived.Deep.MidRow
import Derived.Test.YtnemipgmkenemaaDoorRows
import Derived.Laws.BitsAllLaws
import Derived.Defers
import Derived.Recover
import Derived.Lib.Builder
import Derived.Scope
import Derived.Deep.LoopGhost
import Derived.Lib.SlicesCompact
import Derived.Sort.Walk0
import Derived.Test.YtnemipgmkenemaaDoorShelf
import Derived.Sort.OwnSorted
import Derived.Lib.AppendZeros
import Derived.Laws.Rows
import Derived.Laws.ResultCell
import Derived.Lib.IndexLaws
namespace Go.Proofs.YtnemipgmkenemaaDoor
set_option linter.unusedSimpArgs false
set_option linter.unusedVariables false
open Go Go.RowKit

/-- What a computation draws is counted upwards. -/
theorem viewStore_drawn {P : Program} {w w' : World} {at_ : Addr} {u : TypeId} {a : Addr} {v : Value} {b : Bool} {l : List Addr} (h : w.viewStore P at_ u a v b = .ok (w', l)) : w'.drawn = w.drawn := by
  unfold World.viewStore at h
  repeat' (first | (split at h) | (simp only [bind, Except.bind, pure, Except.pure, MonadExcept.throw, throwThe, MonadExceptOf.throw] at h))
  all_goals first | (cases h; done) | (injection h with h; injection h with h1 h2; subst h1; rfl) | skip
theorem farStore_drawn {P : Program} {w w' : World} {a : Addr} {v : Value} {b : Bool} {l : List Addr} (h : w.farStore P a v b = .ok (w', l)) : w'.drawn = w.drawn := by
  unfold World.farStore at h
  split at h
  · split at h
    · injection h with h; subst h
      exact viewStore_drawn (by assumption)
    · cases h
  · cases h
theorem ask_drawn {α : Type} : ∀ (k : Ask α) (w : World), w.drawn ≤ (w.ask k).2.drawn := by
  intro k
  induction k with
  | done a => intro w; unfold World.ask; exact Nat.le_refl _
  | ask what range k ih =>
    intro w; unfold World.ask
    simp only
    split
    · exact ih _ _
    · exact Nat.le_trans (Nat.le_succ _) (ih _ { w with drawn := w.drawn + 1 })
theorem sem_drawn {P : Program} {α : Type} : ∀ (s : Sem α) (w w' : World) (v : α), s.run P w = .ok v w' → w.drawn ≤ w'.drawn := by
  intro s
  induction s with
  | pure a => intro w w' v h; unfold Sem.run at h; injection h with _ h; subst h; exact Nat.le_refl _
  | load m a k ih =>
    intro w w' v h; unfold Sem.run at h
    split at h
    · exact ih _ _ _ _ h
    · split at h
      · exact ih _ _ _ _ h
      · cases h
  | store m a v k ih =>
    intro w w' u h
    have hs : ∀ (h : (match w.cell? a with
      | some _ => if w.frozen? a then Result.halt (.unsupported (.unsafePointer "a write to bytes that a string shares")) w else k.run P (w.setCell a v)
      | none => match w.farStore P a v (m == .atomic) with
        | .ok (w, _) => k.run P w
        | .error h => .halt h w) = Result.ok u w'), w.drawn ≤ w'.drawn := by
      intro h
      split at h
      · split at h
        · cases h
        · have := ih _ _ _ h; exact this
      · split at h
        · have := ih _ _ _ h; rename_i hf; rw [farStore_drawn hf] at this; exact this
        · cases h
    cases v <;> first | exact hs h | (simp only [Sem.run] at h; cases h; done)
  | new o k ih => intro w w' v h; unfold Sem.run at h; have := ih _ _ _ _ h; exact this
  | shape r k ih => intro w w' v h; unfold Sem.run at h; exact ih _ _ _ _ h
  | freeze a n k ih =>
    intro w w' v h; unfold Sem.run at h; have := ih _ _ _ h
    have e : (w.freeze a n).drawn = w.drawn := by first | rfl | (unfold World.freeze; rfl) | (unfold World.freeze; split <;> rfl)
    rw [e] at this; exact this
  | frozen a k ih => intro w w' v h; unfold Sem.run at h; exact ih _ _ _ _ h
  | getObj r k ih =>
    intro w w' v h; unfold Sem.run at h
    split at h
    · cases h
    · exact ih _ _ _ _ h
    · cases h
  | setObj r o k ih =>
    intro w w' v h; unfold Sem.run at h
    split at h
    · cases h
    · have := ih _ _ _ h; exact this
    · cases h
  | choose q k ih =>
    intro w w' v h; unfold Sem.run at h
    split at h
    · exact ih _ _ _ _ h
    · have := ih _ _ _ _ h; exact Nat.le_trans (Nat.le_succ _) this
  | sys c k ih =>
    intro w w' v h; unfold Sem.run at h
    have := ih _ _ _ _ h
    refine Nat.le_trans ?_ this
    unfold World.sys
    split
    · exact Nat.le_refl _
    · rename_i hq
      have := ask_drawn (Kernel.perform c w.os) w
      rw [hq] at this
      exact this
  | program k ih => intro w w' v h; unfold Sem.run at h; exact ih _ _ _ _ h
  | mark m k ih => intro w w' v h; unfold Sem.run at h; exact ih _ _ _ h
  | halt h => intro w w' v h; unfold Sem.run at h; cases h
/- How many draws there were: counted where the seat sorts (the shelf's sort asks it of a comparison), else asked by nobody. -/
def Dr (_ _ : Nat) : Prop := True
theorem Dr.of {m n : Nat} (_ : m ≤ n) : Dr m n := trivial
theorem Dr.trans {m n k : Nat} (_ : Dr m n) (_ : Dr n k) : Dr m k := trivial
/-- Old memory reads as it did. -/
structure Ext (w w' : World) : Prop where
  bel : Below w.heap.size w w'
  drawn : Dr w.drawn w'.drawn
/-- What lies below suffices. -/
theorem Ext.of_below {w w' : World} (h : Below w.heap.size w w') : Ext w w' := ⟨h, trivial⟩
theorem Ext.os {w w' : World} (h : Ext w w') : w'.os = w.os := h.bel.os
theorem Ext.tape {w w' : World} (h : Ext w w') : w'.tape = w.tape := h.bel.tape
theorem Ext.output {w w' : World} (h : Ext w w') : w'.output = w.output := h.bel.output
theorem Ext.size {w w' : World} (h : Ext w w') : w.heap.size ≤ w'.heap.size := h.bel.size
theorem Ext.refl (w : World) : Ext w w := ⟨Below.refl _ _, .of (Nat.le_refl _)⟩
theorem Ext.trans {a b c : World} (h : Ext a b) (k : Ext b c) : Ext a c := ⟨Below.trans h.bel (Below.mono k.bel h.bel.size), Dr.trans h.drawn k.drawn⟩
theorem Ext.drew {a w : World} (h : Ext a w) : Ext a w.drew := ⟨Below.drew h.bel, Dr.trans h.drawn (.of (Nat.le_succ _))⟩
theorem Ext.alloc {a w : World} (h : Ext a w) (o : Obj) : Ext a (w.alloc o) := ⟨Below.alloc h.bel h.bel.size o, h.drawn⟩
theorem Ext.setCell {a w : World} (h : Ext a w) {p : Addr} (hp : a.heap.size ≤ p.block) (u : Value) : Ext a (w.setCell p u) := ⟨Below.setCell h.bel hp u, h.drawn⟩
theorem Ext.le {a w : World} (h : Ext a w) : a.heap.size ≤ w.heap.size := h.size
theorem Ext.cell {w w' : World} (h : Ext w w') {p : Addr} {v : Value} (hc : w.cell? p = some v) : w'.cell? p = some v :=
  (Below.cell h.bel (World.block_lt_of_cell? w p hc)).trans hc
theorem Ext.frozen {w w' : World} (h : Ext w w') {p : Addr} (hp : p.block < w.heap.size) : w'.frozen? p = w.frozen? p := Below.frozen h.bel hp
theorem Ext.block {w w' : World} (h : Ext w w') {k : Nat} {o : Obj} (hk : w.heap[k]? = some o) : w'.heap[k]? = some o :=
  (Below.block h.bel k (Array.getElem?_eq_some_iff.1 hk).1).trans hk
/-- A row grew, and what was drawn is counted upwards. -/
structure GrownBy (w w' : World) (row : Option Nat) : Prop where
  g : w.grownBy w' row
  drawn : Dr w.drawn w'.drawn
theorem GrownBy.os {w w' : World} {row : Option Nat} (h : GrownBy w w' row) : w'.os = w.os := h.g.os
theorem GrownBy.tape {w w' : World} {row : Option Nat} (h : GrownBy w w' row) : w'.tape = w.tape := h.g.tape
theorem GrownBy.output {w w' : World} {row : Option Nat} (h : GrownBy w w' row) : w'.output = w.output := h.g.output
theorem GrownBy.size {w w' : World} {row : Option Nat} (h : GrownBy w w' row) : w.heap.size ≤ w'.heap.size := h.g.size
theorem GrownBy.block {w w' : World} {row : Option Nat} (h : GrownBy w w' row) (k : Nat) (hk : k < w.heap.size) (hne : some k ≠ row) : w'.heap[k]? = w.heap[k]? := h.g.block k hk hne
theorem Ext.grown {a w w' : World} {row : Option Nat} (h : Ext a w) (hg : GrownBy w w' row) (hr : ∀ k, row = some k → a.heap.size ≤ k) : Ext a w' := ⟨Below.grown h.bel hg.g h.size hr, Dr.trans h.drawn hg.drawn⟩

/-- The slice (a, n) reads as the list xs: element i lies at its own s cells. -/
def Arr {α : Type} (s : Nat) (R : World → Nat → Nat → α → Prop) (w : World) (a : Option Addr) (n : Nat) (xs : List α) : Prop :=
  n = xs.length ∧ (0 < n → ∃ b off, a = some ⟨b, off, none⟩ ∧ ∀ i x, xs[i]? = some x → R w b (off + i * s) x)
/-- A slice value that reads as the list xs. -/
def IsSl {α : Type} (s : Nat) (R : World → Nat → Nat → α → Prop) (w : World) (v : Value) (xs : List α) : Prop :=
  ∃ a n c, v = .slice a n c ∧ n ≤ c ∧ c ≤ maxLen ∧ Arr s R w a n xs
class Stb {α : Type} (R : World → Nat → Nat → α → Prop) : Prop where
  st : ∀ w w' b o x, Ext w w' → R w b o x → R w' b o x
theorem Arr.ext {α : Type} {s : Nat} {R : World → Nat → Nat → α → Prop} [hR : Stb R] {w w' : World} {a : Option Addr} {n : Nat} {xs : List α} (h : Arr s R w a n xs) (hx : Ext w w') : Arr s R w' a n xs :=
  ⟨h.1, fun h0 => let ⟨b, off, ha, hc⟩ := h.2 h0; ⟨b, off, ha, fun i x hi => hR.st _ _ _ _ _ hx (hc i x hi)⟩⟩
theorem IsSl.ext {α : Type} {s : Nat} {R : World → Nat → Nat → α → Prop} [hR : Stb R] {w w' : World} {v : Value} {xs : List α} (h : IsSl s R w v xs) (hx : Ext w w') : IsSl s R w' v xs :=
  let ⟨a, n, c, e, h1, h2, h3⟩ := h; ⟨a, n, c, e, h1, h2, h3.ext hx⟩

/-- A byte as a value. -/
def B (c : UInt8) : Value := .int .u8 (c.toNat : Int)
/-- A string as a value. -/
def S (l : List UInt8) : Value := .string ⟨l.toArray⟩
def byteR : World → Nat → Nat → UInt8 → Prop := fun w b o x => w.cell? ⟨b, o, none⟩ = some (B x)
instance byteR_stb : Stb byteR := ⟨fun _ _ _ _ _ hx h => hx.cell h⟩
/-- The byte slice (a, n) reads as xs. -/
abbrev By (w : World) (a : Option Addr) (n : Nat) (xs : List UInt8) : Prop := Arr 1 byteR w a n xs
abbrev IsBy (w : World) (v : Value) (xs : List UInt8) : Prop := IsSl 1 byteR w v xs
theorem By.nil (w : World) (a : Option Addr) : By w a 0 [] := ⟨rfl, fun h => by omega⟩
theorem IsBy.nil (w : World) : IsBy w (.slice none 0 0) [] := ⟨none, 0, 0, rfl, Nat.le_refl _, by simp [maxLen], By.nil _ _⟩
theorem By.at {w : World} {a : Option Addr} {n : Nat} {xs : List UInt8} (h : By w a n xs) {k : Nat} (hk : k < n) :
    ∃ b off, a = some ⟨b, off, none⟩ ∧ (∀ i x, xs[i]? = some x → w.cell? ⟨b, off + i, none⟩ = some (.int .u8 (x.toNat : Int))) ∧ ∃ h' : k < xs.length, w.cell? ⟨b, off + k, none⟩ = some (.int .u8 (xs[k].toNat : Int)) := by
  obtain ⟨b, off, ha, hc⟩ := h.2 (by omega)
  have hk' : k < xs.length := h.1 ▸ hk
  refine ⟨b, off, ha, fun i x hi => ?_, hk', ?_⟩
  · have := hc i x hi; rw [Nat.mul_one] at this; exact this
  · have := hc k xs[k] (List.getElem?_eq_getElem hk'); rw [Nat.mul_one] at this; exact this
/-- A slice of byte slices. -/
def sliceR : World → Nat → Nat → List UInt8 → Prop := fun w b o x => ∃ v, w.cell? ⟨b, o, none⟩ = some v ∧ IsBy w v x
instance sliceR_stb : Stb sliceR := ⟨fun _ _ _ _ _ hx ⟨v, h1, h2⟩ => ⟨v, hx.cell h1, IsSl.ext h2 hx⟩⟩

theorem ba_append (a b : List UInt8) : ((⟨a.toArray⟩ : ByteArray) ++ ⟨b.toArray⟩) = ⟨(a ++ b).toArray⟩ := by
  apply ByteArray.ext; simp
/-- []byte(s): what is made. -/
theorem conv_sb {P : Program} {w : World} {src dst e : TypeId} (s : List UInt8) (hs : P.underlying src = some .string) (hd : P.underlying dst = some (.slice e)) (he : P.underlying e = some (.int .u8)) (hl : s.length ≤ maxLen) :
    ∃ v w', (convert src dst (S s)).run P w = .ok v w' ∧ IsBy w' v s ∧ Ext w w' := by
  have hr := run_bytes_of_string (P := P) w src dst e ⟨s.toArray⟩ hs hd he
  refine ⟨_, _, hr, ⟨_, _, _, rfl, ?_, ?_, ?_⟩, ?_⟩
  · exact grownCap_ge _ _ _ _
  · exact grownCap_le_maxLen _ _ _ _ hl
  · refine ⟨by simp [ByteArray.size], fun _ => ⟨_, _, rfl, fun i x hi => ?_⟩⟩
    unfold byteR
    have := World.cell?_alloc_mark w.drew (bytesRow ⟨s.toArray⟩ (grownCap w (ByteArray.size ⟨s.toArray⟩) 0 e)) e ((bytesRow ⟨s.toArray⟩ (grownCap w (ByteArray.size ⟨s.toArray⟩) 0 e)).size, (bytesRow ⟨s.toArray⟩ (grownCap w (ByteArray.size ⟨s.toArray⟩) 0 e)).size + 1) (0 + i * 1)
    refine Eq.trans this ?_
    have hi' : i < s.length := (List.getElem?_eq_some_iff.1 hi).1
    simp [bytesRow, Array.getElem?_append, hi', B]
    have := (List.getElem?_eq_some_iff.1 hi).2
    simp [this]
  · exact Ext.alloc (Ext.drew (Ext.refl w)) _
/-- Two lists, member by member. -/
def All2 {α β : Type} (R : α → β → Prop) : List α → List β → Prop
  | [], [] => True
  | a :: l, b :: l' => R a b ∧ All2 R l l'
  | _, _ => False
theorem All2.at {α β : Type} {R : α → β → Prop} : ∀ {l : List α} {l' : List β}, All2 R l l' → ∀ {i : Nat} {y : β}, l'[i]? = some y → ∃ x, l[i]? = some x ∧ R x y
  | [], [], _, i, y, h => by simp at h
  | a :: l, b :: l', h, 0, y, hy => by simp at hy; subst hy; exact ⟨a, by simp, h.1⟩
  | a :: l, b :: l', h, i + 1, y, hy => by
    obtain ⟨x, h1, h2⟩ := All2.at h.2 (i := i) (y := y) (by simpa using hy)
    exact ⟨x, by simpa using h1, h2⟩
  | [], _ :: _, h, _, _, _ => h.elim
  | _ :: _, [], h, _, _, _ => h.elim
theorem All2.length {α β : Type} {R : α → β → Prop} : ∀ {l : List α} {l' : List β}, All2 R l l' → l.length = l'.length
  | [], [], _ => rfl
  | _ :: _, _ :: _, h => by simp [All2.length h.2]
  | [], _ :: _, h => h.elim
  | _ :: _, [], h => h.elim
/-- A new row of one-cell elements reads as a list. -/
theorem Arr.lit {α : Type} {R : World → Nat → Nat → α → Prop} {E : World → Value → α → Prop} (hE : ∀ w b o v x, w.cell? ⟨b, o, none⟩ = some v → E w v x → R w b o x) (w : World) (vs : List Value) (ty : TypeId) (fr : Nat × Nat) (xs : List α) (b n : Nat)
    (hb : b = w.heap.size) (hn : n = vs.length) (h : All2 (E (w.alloc (.cells vs.toArray ty fr))) vs xs) : Arr 1 R (w.alloc (.cells vs.toArray ty fr)) (some ⟨b, 0, none⟩) n xs := by
  subst hb hn
  refine ⟨h.length, fun _ => ⟨_, _, rfl, fun i x hi => ?_⟩⟩
  obtain ⟨v, h1, h2⟩ := h.at hi
  refine hE _ _ _ v _ ?_ h2
  rw [World.cell?_alloc_mark]
  simpa using h1
theorem By.lit (w : World) (vs : List Value) (ty : TypeId) (fr : Nat × Nat) (xs : List UInt8) (b n : Nat) (hb : b = w.heap.size) (hn : n = vs.length) (h : All2 (fun v x => v = B x) vs xs) :
    By (w.alloc (.cells vs.toArray ty fr)) (some ⟨b, 0, none⟩) n xs :=
  Arr.lit (E := fun _ v x => v = B x) (fun w b o v x hc he => by unfold byteR; rw [hc, he]) w vs ty fr xs b n hb hn h
theorem Bys.lit (w : World) (vs : List Value) (ty : TypeId) (fr : Nat × Nat) (xs : List (List UInt8)) (b n : Nat) (hb : b = w.heap.size) (hn : n = vs.length) (h : All2 (IsBy (w.alloc (.cells vs.toArray ty fr))) vs xs) :
    Arr 1 sliceR (w.alloc (.cells vs.toArray ty fr)) (some ⟨b, 0, none⟩) n xs :=
  Arr.lit (E := IsBy) (fun w b o v x hc he => ⟨v, hc, he⟩) w vs ty fr xs b n hb hn h
theorem Ext.new (w : World) (o : Obj) : Ext w (w.alloc o) := (Ext.refl w).alloc o

/-- Block b is a row of the cells vs, none frozen. -/
def Blk (w : World) (b : Nat) (vs : List Value) : Prop := ∃ ty, w.heap[b]? = some (.cells vs.toArray ty (0, 0))
theorem Blk.cell {w : World} {b : Nat} {vs : List Value} (h : Blk w b vs) (i : Nat) : w.cell? ⟨b, i, none⟩ = vs[i]? := by
  obtain ⟨ty, h⟩ := h
  simp [World.cell?, h]
theorem Blk.free {w : World} {b : Nat} {vs : List Value} (h : Blk w b vs) (i : Nat) : w.frozen? ⟨b, i, none⟩ = false := by
  obtain ⟨ty, h⟩ := h
  simp [World.frozen?, h]
theorem Blk.new (w : World) (vs : List Value) (ty : TypeId) : Blk (w.alloc (.cells vs.toArray ty)) w.heap.size vs := ⟨ty, by show (w.heap.push _)[_]? = _; simp⟩
theorem Blk.lit (w : World) (vs : List Value) (ty : TypeId) (b : Nat) (hb : b = w.heap.size) : Blk (w.alloc (.cells vs.toArray ty)) b vs := hb ▸ Blk.new w vs ty
theorem Blk.lt {w : World} {b : Nat} {vs : List Value} (h : Blk w b vs) : b < w.heap.size := by
  obtain ⟨ty, h⟩ := h
  exact (Array.getElem?_eq_some_iff.1 h).1
theorem Blk.set {w : World} {b : Nat} {vs : List Value} (h : Blk w b vs) (i : Nat) (v : Value) : Blk (w.setCell ⟨b, i, none⟩ v) b (vs.set i v) := by
  obtain ⟨ty, h⟩ := h
  refine ⟨ty, ?_⟩
  simp only [World.setCell, Array.getElem?_modify, h]
  simp
theorem Blk.ext {w w' : World} {b : Nat} {vs : List Value} (h : Blk w b vs) (hx : Ext w w') : Blk w' b vs := let ⟨ty, h⟩ := h; ⟨ty, hx.block h⟩
theorem Blk.by {w : World} {b : Nat} {xs : List UInt8} (h : Blk w b (xs.map B)) : By w (some ⟨b, 0, none⟩) xs.length xs :=
  ⟨rfl, fun _ => ⟨b, 0, rfl, fun i x hi => by unfold byteR; rw [h.cell]; simp [hi]⟩⟩
end Go.Proofs.YtnemipgmkenemaaDoor

namespace Go.Proofs.YtnemipgmkenemaaDoor
set_option linter.unusedSimpArgs false
set_option linter.unusedVariables false
open Go Go.RowKit

/-- The m elements (of 'size' cells each) at 'a' are the cells 'news'. -/
def Flat (w : World) (a : Option Addr) (m size : Nat) (news : List Value) : Prop := news.length = m * size ∧ (0 < news.length → ∃ ad, a = some ad ∧ ∀ j u, news[j]? = some u → w.cell? (ad.add j) = some u)
theorem addr_add (b off j : Nat) : (⟨b, off, none⟩ : Addr).add j = ⟨b, off + j, none⟩ := by unfold Addr.add; split <;> simp_all
theorem By.flat {w : World} {a : Option Addr} {n : Nat} {xs : List UInt8} (h : By w a n xs) : Flat w a n 1 (xs.map B) := by
  refine ⟨by simp [h.1], fun h0 => ?_⟩
  obtain ⟨b, off, rfl, hc⟩ := h.2 (by have := h.1; simp at h0; omega)
  refine ⟨_, rfl, fun j u hj => ?_⟩
  rw [List.getElem?_map] at hj
  cases hx : xs[j]? with
  | none => rw [hx] at hj; cases hj
  | some x =>
    rw [hx] at hj
    simp at hj
    have := hc j x hx
    rw [Nat.mul_one] at this
    rw [addr_add, ← hj]
    exact this
theorem run_append_any {P : Program} {w : World} (base : Nat) (t ty e : TypeId) (i : TypeInfo) (z : Value) (size bytes : Nat) (ht : P.underlying t = some (.slice e)) (hi : P.info? e = some i) (hz : i.zero = some z)
    (hsize : i.size = size) (hby : i.bytes = bytes) (hzs : z.cells.size = size) (hsz : 0 < size)
    (v : Value) (n : Nat) (xs : List Value) (hown : w.ownsRow base e size v n xs)
    (a : Option Addr) (m c : Nat) (news : List Value) (hf : Flat w a m size news) (h1 : ∀ u ∈ news, u.oneCell' = true)
    (h63 : n + m ≤ maxLen) (hbytes : (n + m) * bytes ≤ 140737488355328) (hbase : base ≤ w.heap.size) :
    ∃ v' w', (Builtin.append_ #[t, t] ty #[v, .slice a m c]).run P w = .ok v' w' ∧ w'.ownsRow base e size v' (n + m) (xs ++ news) ∧ GrownBy w w' v.ownBlock := by
  by_cases h0 : 0 < m
  · obtain ⟨ad, rfl, hc⟩ := hf.2 (by rw [hf.1]; exact Nat.mul_pos h0 hsz)
    obtain ⟨v', w', hr, h2, h3, _⟩ := run_append_own (P := P) w base t ty e i z size bytes ht hi hz hsize hby hzs hsz v n xs hown ad m c news hf.1 hc h1 h63 hbytes hbase
    exact ⟨v', w', hr, h2, h3, .of (sem_drawn _ _ _ _ hr)⟩
  · obtain rfl : m = 0 := by omega
    have hn : news = [] := List.eq_nil_of_length_eq_zero (by rw [hf.1]; simp)
    subst hn
    cases a with
    | some ad =>
      obtain ⟨v', w', hr, h2, h3, _⟩ := run_append_own (P := P) w base t ty e i z size bytes ht hi hz hsize hby hzs hsz v n xs hown ad 0 c [] hf.1 (fun j u hj => by simp at hj) h1 h63 hbytes hbase
      exact ⟨v', w', hr, h2, h3, .of (sem_drawn _ _ _ _ hr)⟩
    | none =>
      refine ⟨v, w, ?_, by simpa using hown, ⟨rfl, rfl, rfl, Nat.le_refl _, fun _ _ _ => rfl⟩, .of (Nat.le_refl _)⟩
      rcases hown.2 with ⟨rfl, rfl⟩ | ⟨g, cap, cur, rfl, _, _, hnc, _⟩
      · simp [Builtin.append_, run_underlying ht, sizeOf, typeInfo, hi, Builtin.lenOf, Builtin.firstCells]
      · simp [Builtin.append_, run_underlying ht, sizeOf, typeInfo, hi, Builtin.lenOf, Builtin.firstCells, hnc, storeCells]
/-- Where the result of an append lies: where the slice lay, or in a new block. -/
theorem append_block {P : Program} {w w' : World} (base : Nat) (t ty e : TypeId) (i : TypeInfo) (z : Value) (size bytes : Nat) (ht : P.underlying t = some (.slice e)) (hi : P.info? e = some i) (hz : i.zero = some z)
    (hsize : i.size = size) (hby : i.bytes = bytes) (hsz : 0 < size)
    (v v' : Value) (n : Nat) (xs : List Value) (hown : w.ownsRow base e size v n xs)
    (a : Option Addr) (m c : Nat) (news : List Value) (hf : Flat w a m size news) (h1 : ∀ u ∈ news, u.oneCell' = true)
    (h63 : n + m ≤ maxLen) (hbytes : (n + m) * bytes ≤ 140737488355328)
    (hr : (Builtin.append_ #[t, t] ty #[v, .slice a m c]).run P w = .ok v' w') : v'.ownBlock = v.ownBlock ∨ v'.ownBlock = some w.heap.size := by
  subst hsize hby
  have hsmall : n + m ≤ 9223372036854775807 := by simp only [maxLen] at h63; omega
  have hout : ∀ {u : Value} {w1 : World}, (Builtin.append_ #[t, t] ty #[v, .slice a m c]).run P w = .ok u w1 → v' = u := fun h => by rw [h] at hr; injection hr with h2 _; exact h2.symm
  by_cases h0 : 0 < m
  · obtain ⟨ad, rfl, hc⟩ := hf.2 (by rw [hf.1]; exact Nat.mul_pos h0 hsz)
    rcases hown.2 with ⟨rfl, rfl⟩ | ⟨g, cap, cur, rfl, _, hg, hnc, _, hcs, htake⟩
    · have := run_append_nil (P := P) w t ty e i z ht hi hz ad m c news hf.1 hc h0 (by omega) (by have hb := hbytes; simp only [Nat.zero_add] at hb; omega)
      rw [hout this]; right; rfl
    · by_cases hroom : n + m ≤ cap
      · have hfit : n * i.size + news.length ≤ cur.size := by rw [hf.1, hcs, ← Nat.add_mul]; exact Nat.mul_le_mul_right _ hroom
        have := run_append_room (P := P) w t ty e i ht hi g n cap cur hg ad m c news hf.1 hc h1 hroom hfit
        rw [hout this]; left; rfl
      · have := run_append_grow (P := P) w t ty e i z ht hi hz ⟨g, 0, none⟩ n cap xs hown.1 (hown.cells (g := g) rfl) ad m c news hf.1 hc (by omega) (by omega) (growslice_fits (by omega) hbytes)
        rw [hout this]; right; rfl
  · obtain rfl : m = 0 := by omega
    have hn : news = [] := List.eq_nil_of_length_eq_zero (by rw [hf.1]; simp)
    subst hn
    rcases hown.2 with ⟨rfl, rfl⟩ | ⟨g, cap, cur, rfl, _, hg, hnc, _, hcs, htake⟩
    · cases a with
      | none =>
        have : (Builtin.append_ #[t, t] ty #[.slice none 0 0, .slice none 0 c]).run P w = .ok (.slice none 0 0) w := by
          simp [Builtin.append_, run_underlying ht, sizeOf, typeInfo, hi, Builtin.lenOf, Builtin.firstCells]
        rw [hout this]; left; rfl
      | some ad =>
        have : (Builtin.append_ #[t, t] ty #[.slice none 0 0, .slice (some ad) 0 c]).run P w = .ok (.slice none 0 0) w := by
          simp [Builtin.append_, run_underlying ht, sizeOf, typeInfo, hi, Builtin.lenOf, Builtin.firstCells, loadCells, loadCellsFrom]
        rw [hout this]; left; rfl
    · cases a with
      | none =>
        have : (Builtin.append_ #[t, t] ty #[.slice (some ⟨g, 0, none⟩) n cap, .slice none 0 c]).run P w = .ok (.slice (some ⟨g, 0, none⟩) n cap) w := by
          simp [Builtin.append_, run_underlying ht, sizeOf, typeInfo, hi, Builtin.lenOf, Builtin.firstCells, hnc, storeCells]
        rw [hout this]; left; rfl
      | some ad =>
        have := run_append_room (P := P) w t ty e i ht hi g n cap cur hg ad 0 c [] (by simp) (fun j u hj => by simp at hj) (fun u hu => by simp at hu) hnc (by simp; rw [hcs]; exact Nat.mul_le_mul_right _ hnc)
        rw [hout this]; left; rfl
theorem own_slice {w : World} {base n size : Nat} {e : TypeId} {v : Value} {xs : List Value} (h : w.ownsRow base e size v n xs) : ∃ a c, v = .slice a n c := by
  rcases h.2 with ⟨rfl, rfl⟩ | ⟨g, cap, cur, rfl, _⟩
  · exact ⟨_, _, rfl⟩
  · exact ⟨_, _, rfl⟩
end Go.Proofs.YtnemipgmkenemaaDoor

namespace Go.Proofs.YtnemipgmkenemaaDoor
set_option linter.unusedSimpArgs false
set_option linter.unusedVariables false
open Go Go.RowKit

/-- What is outside the footprint is as it was. -/
structure MutO (fp : Nat → Prop) (w w' : World) : Prop where
  os : w'.os = w.os
  tape : w'.tape = w.tape
  output : w'.output = w.output
  size : w.heap.size ≤ w'.heap.size
  drawn : Dr w.drawn w'.drawn
  block : ∀ k, k < w.heap.size → ¬ fp k → w'.heap[k]? = w.heap[k]?
theorem MutO.refl (fp : Nat → Prop) (w : World) : MutO fp w w := ⟨rfl, rfl, rfl, Nat.le_refl _, .of (Nat.le_refl _), fun _ _ _ => rfl⟩
theorem MutO.of_ext {fp : Nat → Prop} {w w' : World} (h : Ext w w') : MutO fp w w' := ⟨h.os, h.tape, h.output, h.size, h.drawn, fun k hk _ => Below.block h.bel k hk⟩
theorem MutO.ext {fp : Nat → Prop} {w0 w w' : World} (h : Ext w0 w) (hm : MutO fp w w') (hf : ∀ k, fp k → w0.heap.size ≤ k) : Ext w0 w' :=
  ⟨⟨hm.os.trans h.os, hm.tape.trans h.tape, hm.output.trans h.output, Nat.le_trans h.size hm.size, fun k hk =>
    (hm.block k (Nat.lt_of_lt_of_le hk h.size) (fun hk' => by have := hf k hk'; omega)).trans (Below.block h.bel k hk)⟩, Dr.trans h.drawn hm.drawn⟩
theorem MutO.trans {fp fp' : Nat → Prop} {a b c : World} (h : MutO fp a b) (k : MutO fp' b c) (hf : ∀ i, i < a.heap.size → fp' i → fp i) : MutO fp a c :=
  ⟨k.os.trans h.os, k.tape.trans h.tape, k.output.trans h.output, Nat.le_trans h.size k.size, Dr.trans h.drawn k.drawn, fun i hi hn =>
    (k.block i (Nat.lt_of_lt_of_le hi h.size) (fun hx => hn (hf i hi hx))).trans (h.block i hi hn)⟩
theorem MutO.mono {fp fp' : Nat → Prop} {a b : World} (h : MutO fp a b) (hf : ∀ i, fp i → fp' i) : MutO fp' a b := ⟨h.os, h.tape, h.output, h.size, h.drawn, fun i hi hn => h.block i hi (fun hx => hn (hf i hx))⟩
theorem MutO.set {fp : Nat → Prop} {a w : World} (h : MutO fp a w) {p : Addr} (hp : fp p.block) (u : Value) : MutO fp a (w.setCell p u) :=
  h.trans (fp' := fp) ⟨rfl, rfl, rfl, by simp [World.setCell], .of (Nat.le_refl _), fun k _ hn => Below.heap_setCell _ _ _ _ (fun e => hn (e ▸ hp))⟩ (fun _ _ h => h)
theorem MutO.alloc {fp : Nat → Prop} {a w : World} (h : MutO fp a w) (o : Obj) : MutO fp a (w.alloc o) := h.trans (MutO.of_ext (Ext.new w o)) (fun _ _ h => h)
theorem MutO.drew {fp : Nat → Prop} {a w : World} (h : MutO fp a w) : MutO fp a w.drew := ⟨h.os, h.tape, h.output, h.size, Dr.trans h.drawn (.of (Nat.le_succ _)), h.block⟩
theorem MutO.grown {fp : Nat → Prop} {a w w' : World} {row : Option Nat} (h : MutO fp a w) (hg : GrownBy w w' row) (hr : ∀ k, row = some k → k < a.heap.size → fp k) : MutO fp a w' :=
  ⟨hg.os.trans h.os, hg.tape.trans h.tape, hg.output.trans h.output, Nat.le_trans h.size hg.size, Dr.trans h.drawn hg.drawn, fun k hk hn =>
    (hg.block k (Nat.lt_of_lt_of_le hk h.size) (fun e => hn (hr k e.symm hk))).trans (h.block k hk hn)⟩
end Go.Proofs.YtnemipgmkenemaaDoor

namespace Go.Proofs.YtnemipgmkenemaaDoor
set_option linter.unusedSimpArgs false
set_option linter.unusedVariables false
open Go Go.RowKit

/-- A piece of memory: P e s w: in w, with the blocks e of its own and the blocks s that are shared. -/
structure It where
  P : (Nat → Prop) → (Nat → Prop) → World → Prop
  st : ∀ {e s w w'}, P e s w → (∀ b, e b ∨ s b → w'.heap[b]? = w.heap[b]?) → P e s w'
  facts : World → Prop
  ok : ∀ {e s w}, P e s w → facts w
def nullI : It := ⟨fun _ _ _ => True, fun _ _ => trivial, fun _ => True, fun _ => trivial⟩

structure Foot (fr al : Nat → Prop) (w0 : World) (L : List It) (w : World) (e s : Nat → Nat → Prop) : Prop where
  holds : ∀ (i : Nat) (I : It), L[i]? = some I → I.P (e i) (s i) w
  lo : ∀ i b, i < L.length → (e i b ∨ s i b) → b < w.heap.size
  fr : ∀ i b, i < L.length → e i b → b < w0.heap.size → fr b
  al : ∀ i b, i < L.length → (e i b ∨ s i b) → b < w0.heap.size → al b
  ee : ∀ i j b, i < L.length → j < L.length → i ≠ j → e i b → ¬ e j b
  es : ∀ i j b, i < L.length → j < L.length → e i b → ¬ s j b
/-- Since w0 nothing but fr has changed; the pieces L lie apart; their old blocks are in al. -/
def Own (fr al : Nat → Prop) (w0 : World) (L : List It) (w : World) : Prop := MutO fr w0 w ∧ ∃ e s, Foot fr al w0 L w e s

section
variable {fr al : Nat → Prop} {w0 w w' : World} {L : List It}
theorem Own.start (fr al : Nat → Prop) (w : World) : Own fr al w [] w :=
  ⟨MutO.refl _ _, fun _ _ => False, fun _ _ => False, fun _ _ h => by simp at h, fun _ _ h => by simp at h, fun _ _ h => by simp at h, fun _ _ h => by simp at h, fun _ _ _ h => by simp at h, fun _ _ _ h => by simp at h⟩
theorem Own.le (h : Own fr al w0 L w) : w0.heap.size ≤ w.heap.size := h.1.size
theorem Own.ext0 (h : Own (fun _ => False) al w0 L w) : Ext w0 w := ⟨⟨h.1.os, h.1.tape, h.1.output, h.1.size, fun k hk => h.1.block k hk (fun q => q)⟩, h.1.drawn⟩
theorem get_lt {L : List It} {i : Nat} {I : It} (h : L[i]? = some I) : i < L.length := (List.getElem?_eq_some_iff.1 h).1

/-- An item is changed, with blocks of its own and new ones. -/
theorem Foot.upd (hm : MutO fr w0 w) {e s : Nat → Nat → Prop} (F : Foot fr al w0 L w e s) {i : Nat} {I I' : It} (hi : L[i]? = some I)
    (h : I.P (e i) (s i) w → (∀ b, e i b ∨ s i b → b < w.heap.size) → (∀ b, e i b → ¬ s i b) → ∃ e' s' : Nat → Prop, I'.P e' s' w' ∧ (∀ b, e' b → b < w'.heap.size ∧ (e i b ∨ w.heap.size ≤ b)) ∧
      (∀ b, s' b → b < w'.heap.size ∧ (e i b ∨ s i b ∨ w.heap.size ≤ b)) ∧ (∀ b, e' b → ¬ s' b) ∧ MutO (e i) w w') : Own fr al w0 (L.set i I') w' := by
  have hil := get_lt hi
  obtain ⟨e', s', h1, h2, h3, h4, h5⟩ := h (F.holds i I hi) (fun b => F.lo i b hil) (fun b => F.es i i b hil hil)
  have hle := hm.size
  refine ⟨hm.trans h5 fun b hb he => F.fr i b hil he hb, fun j => if j = i then e' else e j, fun j => if j = i then s' else s j, ?_, ?_, ?_, ?_, ?_, ?_⟩
  · intro j J hj
    rw [List.getElem?_set] at hj
    by_cases hji : j = i
    · subst hji
      rw [if_pos rfl, if_pos hil] at hj
      injection hj with hj
      subst hj
      simp only [if_true]
      exact h1
    · rw [if_neg (Ne.symm hji)] at hj
      simp only [hji, if_false]
      have hjl := get_lt hj
      refine J.st (F.holds j J hj) fun b hb => h5.block b (F.lo j b hjl hb) fun he => ?_
      rcases hb with hb | hb
      · exact F.ee i j b hil hjl (Ne.symm hji) he hb
      · exact F.es i j b hil hjl he hb
  · intro j b hj hb
    rw [List.length_set] at hj
    by_cases hji : j = i
    · subst hji
      simp only [if_true] at hb
      rcases hb with hb | hb
      · exact (h2 b hb).1
      · exact (h3 b hb).1
    · simp only [hji, if_false] at hb
      exact Nat.lt_of_lt_of_le (F.lo j b hj hb) h5.size
  · intro j b hj hb hb0
    rw [List.length_set] at hj
    by_cases hji : j = i
    · subst hji
      simp only [if_true] at hb
      rcases (h2 b hb).2 with q | q
      · exact F.fr j b hj q hb0
      · omega
    · simp only [hji, if_false] at hb
      exact F.fr j b hj hb hb0
  · intro j b hj hb hb0
    rw [List.length_set] at hj
    by_cases hji : j = i
    · subst hji
      simp only [if_true] at hb
      rcases hb with hb | hb
      · rcases (h2 b hb).2 with q | q
        · exact F.al j b hj (.inl q) hb0
        · omega
      · rcases (h3 b hb).2 with q | q | q
        · exact F.al j b hj (.inl q) hb0
        · exact F.al j b hj (.inr q) hb0
        · omega
    · simp only [hji, if_false] at hb
      exact F.al j b hj hb hb0
  · intro j k b hj hk hjk hb hb'
    rw [List.length_set] at hj hk
    by_cases hji : j = i
    · subst hji
      have hkj : k ≠ j := Ne.symm hjk
      simp only [if_true, hkj, if_false] at hb hb'
      rcases (h2 b hb).2 with q | q
      · exact F.ee j k b hj hk hjk q hb'
      · have := F.lo k b hk (.inl hb'); omega
    · by_cases hki : k = i
      · subst hki
        simp only [hji, if_true, if_false] at hb hb'
        rcases (h2 b hb').2 with q | q
        · exact F.ee j k b hj hk hjk hb q
        · have := F.lo j b hj (.inl hb); omega
      · simp only [hji, hki, if_false] at hb hb'
        exact F.ee j k b hj hk hjk hb hb'
  · intro j k b hj hk hb hb'
    rw [List.length_set] at hj hk
    by_cases hji : j = i
    · subst hji
      by_cases hki : k = j
      · subst hki
        simp only [if_true] at hb hb'
        exact h4 b hb hb'
      · simp only [if_true, hki, if_false] at hb hb'
        rcases (h2 b hb).2 with q | q
        · exact F.es j k b hj hk q hb'
        · have := F.lo k b hk (.inr hb'); omega
    · by_cases hki : k = i
      · subst hki
        simp only [hji, if_true, if_false] at hb hb'
        rcases (h3 b hb').2 with q | q | q
        · exact F.ee j k b hj hk hji hb q
        · exact F.es j k b hj hk hb q
        · have := F.lo j b hj (.inl hb); omega
      · simp only [hji, hki, if_false] at hb hb'
        exact F.es j k b hj hk hb hb'

theorem Own.upd (st : Own fr al w0 L w) {i : Nat} {I I' : It} (hi : L[i]? = some I)
    (h : ∀ e s : Nat → Prop, I.P e s w → (∀ b, e b ∨ s b → b < w.heap.size) → (∀ b, e b → ¬ s b) → ∃ e' s' : Nat → Prop, I'.P e' s' w' ∧ (∀ b, e' b → b < w'.heap.size ∧ (e b ∨ w.heap.size ≤ b)) ∧
      (∀ b, s' b → b < w'.heap.size ∧ (e b ∨ s b ∨ w.heap.size ≤ b)) ∧ (∀ b, e' b → ¬ s' b) ∧ MutO e w w') : Own fr al w0 (L.set i I') w' :=
  let ⟨hm, _, _, F⟩ := st
  F.upd hm hi (h _ _)
/-- A new item, of new blocks, or of what others share. -/
theorem Own.snoc (st : Own fr al w0 L w) (hx : Ext w w') {I : It} {e' s' : Nat → Prop} (h1 : I.P e' s' w') (h2 : ∀ b, e' b → b < w'.heap.size ∧ w.heap.size ≤ b)
    (h3 : ∀ b, s' b → b < w'.heap.size ∧ (w.heap.size ≤ b ∨ ((b < w0.heap.size → al b) ∧ ∀ f : Nat → Nat → Prop, ∀ t, Foot fr al w0 L w f t → ∀ i, i < L.length → ¬ f i b))) (h4 : ∀ b, e' b → ¬ s' b) : Own fr al w0 (L ++ [I]) w' := by
  obtain ⟨hm, e, s, F⟩ := st
  have hle := hm.size
  have hlen : ∀ {j}, j < (L ++ [I]).length → j < L.length ∨ j = L.length := fun {j} h => by simp at h; omega
  refine ⟨hm.trans (MutO.of_ext (fp := fun _ => False) hx) fun _ _ q => q.elim, fun j => if j < L.length then e j else e', fun j => if j < L.length then s j else s', ?_, ?_, ?_, ?_, ?_, ?_⟩
  · intro j J hj
    have hjl := get_lt hj
    rcases hlen hjl with h | h
    · rw [List.getElem?_append_left h] at hj
      simp only [h, if_true]
      exact J.st (F.holds j J hj) fun b hb => Below.block hx.bel b (F.lo j b h hb)
    · subst h
      simp at hj
      subst hj
      simp only [Nat.lt_irrefl, if_false]
      exact h1
  · intro j b hj hb
    rcases hlen hj with h | h
    · simp only [h, if_true] at hb
      exact Nat.lt_of_lt_of_le (F.lo j b h hb) hx.le
    · subst h
      simp only [Nat.lt_irrefl, if_false] at hb
      rcases hb with hb | hb
      · exact (h2 b hb).1
      · exact (h3 b hb).1
  · intro j b hj hb hb0
    rcases hlen hj with h | h
    · simp only [h, if_true] at hb
      exact F.fr j b h hb hb0
    · subst h
      simp only [Nat.lt_irrefl, if_false] at hb
      have := (h2 b hb).2; omega
  · intro j b hj hb hb0
    rcases hlen hj with h | h
    · simp only [h, if_true] at hb
      exact F.al j b h hb hb0
    · subst h
      simp only [Nat.lt_irrefl, if_false] at hb
      rcases hb with hb | hb
      · have := (h2 b hb).2; omega
      · rcases (h3 b hb).2 with q | q
        · omega
        · exact q.1 hb0
  · intro j k b hj hk hjk hb hb'
    rcases hlen hj with h | h <;> rcases hlen hk with h' | h'
    · simp only [h, h', if_true] at hb hb'
      exact F.ee j k b h h' hjk hb hb'
    · subst h'
      simp only [h, if_true, Nat.lt_irrefl, if_false] at hb hb'
      have := F.lo j b h (.inl hb); have := (h2 b hb').2; omega
    · subst h
      simp only [h', if_true, Nat.lt_irrefl, if_false] at hb hb'
      have := F.lo k b h' (.inl hb'); have := (h2 b hb).2; omega
    · omega
  · intro j k b hj hk hb hb'
    rcases hlen hj with h | h <;> rcases hlen hk with h' | h'
    · simp only [h, h', if_true] at hb hb'
      exact F.es j k b h h' hb hb'
    · subst h'
      simp only [h, if_true, Nat.lt_irrefl, if_false] at hb hb'
      rcases (h3 b hb').2 with q | q
      · have := F.lo j b h (.inl hb); omega
      · exact q.2 e s F j h hb
    · subst h
      simp only [h', if_true, Nat.lt_irrefl, if_false] at hb hb'
      have := F.lo k b h' (.inr hb'); have := (h2 b hb).2; omega
    · subst h; subst h'
      simp only [Nat.lt_irrefl, if_false] at hb hb'
      exact h4 b hb hb'
theorem Own.ext (st : Own fr al w0 L w) (hx : Ext w w') : Own fr al w0 L w' := by
  obtain ⟨hm, e, s, F⟩ := st
  exact ⟨hm.trans (MutO.of_ext (fp := fun _ => False) hx) fun _ _ q => q.elim, e, s, fun j J hj => J.st (F.holds j J hj) fun b hb => Below.block hx.bel b (F.lo j b (get_lt hj) hb),
    fun j b hj hb => Nat.lt_of_lt_of_le (F.lo j b hj hb) hx.le, F.fr, F.al, F.ee, F.es⟩
/-- A new item of new blocks. -/
theorem Own.new (st : Own fr al w0 L w) (hx : Ext w w') {I : It} {e' s' : Nat → Prop} (h1 : I.P e' s' w') (h2 : ∀ b, e' b → b < w'.heap.size ∧ w.heap.size ≤ b) (h3 : ∀ b, s' b → b < w'.heap.size ∧ w.heap.size ≤ b) (h4 : ∀ b, e' b → ¬ s' b) : Own fr al w0 (L ++ [I]) w' :=
  st.snoc hx h1 h2 (fun b hb => ⟨(h3 b hb).1, .inl (h3 b hb).2⟩) h4
/-- A new item of nothing. -/
theorem Own.bare (st : Own fr al w0 L w) {I : It} (h1 : I.P (fun _ => False) (fun _ => False) w) : Own fr al w0 (L ++ [I]) w :=
  st.new (Ext.refl w) h1 (fun _ q => q.elim) (fun _ q => q.elim) (fun _ q => q.elim)
/-- A new item of what another one shares. -/
theorem Own.share (st : Own fr al w0 L w) {i : Nat} {I I' : It} (hi : L[i]? = some I) (h : ∀ e s, I.P e s w → I'.P (fun _ => False) s w) : Own fr al w0 (L ++ [I']) w := by
  obtain ⟨hm, e, s, F⟩ := st
  have hil := get_lt hi
  have h1 := h _ _ (F.holds i I hi)
  have hlen : ∀ {j}, j < (L ++ [I']).length → j < L.length ∨ j = L.length := fun {j} h => by simp at h; omega
  refine ⟨hm, fun j => if j < L.length then e j else fun _ => False, fun j => if j < L.length then s j else s i, ?_, ?_, ?_, ?_, ?_, ?_⟩
  · intro j J hj
    have hjl := get_lt hj
    rcases hlen hjl with h | h
    · rw [List.getElem?_append_left h] at hj
      simp only [h, if_true]
      exact F.holds j J hj
    · subst h
      simp at hj
      subst hj
      simp only [Nat.lt_irrefl, if_false]
      exact h1
  · intro j b hj hb
    rcases hlen hj with h | h
    · simp only [h, if_true] at hb
      exact F.lo j b h hb
    · subst h
      simp only [Nat.lt_irrefl, if_false, false_or] at hb
      exact F.lo i b hil (.inr hb)
  · intro j b hj hb hb0
    rcases hlen hj with h | h
    · simp only [h, if_true] at hb
      exact F.fr j b h hb hb0
    · subst h
      simp only [Nat.lt_irrefl, if_false] at hb
  · intro j b hj hb hb0
    rcases hlen hj with h | h
    · simp only [h, if_true] at hb
      exact F.al j b h hb hb0
    · subst h
      simp only [Nat.lt_irrefl, if_false, false_or] at hb
      exact F.al i b hil (.inr hb) hb0
  · intro j k b hj hk hjk hb hb'
    rcases hlen hj with h | h <;> rcases hlen hk with h' | h'
    · simp only [h, h', if_true] at hb hb'
      exact F.ee j k b h h' hjk hb hb'
    · subst h'
      simp only [Nat.lt_irrefl, if_false] at hb'
    · subst h
      simp only [Nat.lt_irrefl, if_false] at hb
    · omega
  · intro j k b hj hk hb hb'
    rcases hlen hj with h | h <;> rcases hlen hk with h' | h'
    · simp only [h, h', if_true] at hb hb'
      exact F.es j k b h h' hb hb'
    · subst h'
      simp only [h, if_true, Nat.lt_irrefl, if_false] at hb hb'
      exact F.es j i b h hil hb hb'
    · subst h
      simp only [Nat.lt_irrefl, if_false] at hb
    · subst h
      simp only [Nat.lt_irrefl, if_false] at hb
/-- An item is seen as another one. -/
theorem Own.conv (st : Own fr al w0 L w) {i : Nat} {I I' : It} (hi : L[i]? = some I)
    (h : ∀ e s : Nat → Prop, I.P e s w → (∀ b, e b → ¬ s b) → ∃ e' s' : Nat → Prop, I'.P e' s' w ∧ (∀ b, e' b → e b) ∧ (∀ b, s' b → e b ∨ s b) ∧ (∀ b, e' b → ¬ s' b)) : Own fr al w0 (L.set i I') w :=
  st.upd hi fun e s h1 h2 h3 => by
    obtain ⟨e', s', q1, q2, q3, q4⟩ := h e s h1 h3
    exact ⟨e', s', q1, fun b hb => ⟨h2 b (.inl (q2 b hb)), .inl (q2 b hb)⟩, fun b hb => ⟨h2 b (q3 b hb), by rcases q3 b hb with q | q; exact .inl q; exact .inr (.inl q)⟩, q4, MutO.refl _ _⟩
theorem Own.get (st : Own fr al w0 L w) {i : Nat} {I : It} (hi : L[i]? = some I) : ∃ e s, I.P e s w ∧ (∀ b, e b ∨ s b → b < w.heap.size) ∧ ∀ b, e b → ¬ s b := by
  obtain ⟨hm, e, s, F⟩ := st
  exact ⟨_, _, F.holds i I hi, fun b => F.lo i b (get_lt hi), fun b => F.es i i b (get_lt hi) (get_lt hi)⟩
def factsOf : List It → World → Prop
  | [], _ => True
  | I :: L, w => I.facts w ∧ factsOf L w
theorem factsOf_all {L : List It} {w : World} (h : ∀ (i : Nat) (I : It), L[i]? = some I → I.facts w) : factsOf L w := by
  induction L with
  | nil => trivial
  | cons I L ih => exact ⟨h 0 I rfl, ih fun i J hi => h (i + 1) J (by simpa using hi)⟩
theorem Own.facts (st : Own fr al w0 L w) : factsOf L w := factsOf_all fun i I hi => let ⟨_, _, h, _⟩ := st.get hi; I.ok h

/-- Some of the items. -/
def pick (L : List It) (idx : List Nat) : List It := idx.map fun i => (L[i]?).getD nullI
/-- They came back as M; what M has more goes behind all. -/
def putIt (L : List It) (M : List It) : Nat → List Nat → List It
  | k, [] => L ++ M.drop k
  | k, i :: idx => putIt (L.set i ((M[k]?).getD nullI)) M (k + 1) idx
/-- Where an item of the new list comes from: the old list, or place k of M. -/
def srcOf (n : Nat) : Nat → List Nat → Nat → Nat ⊕ Nat
  | k, [], j => if j < n then .inl j else .inr (k + (j - n))
  | k, i :: idx, j => if idx.contains j = false ∧ j = i then .inr k else srcOf n (k + 1) idx j
theorem putIt_get (M : List It) : ∀ (idx : List Nat) (L : List It) (k j : Nat), (∀ i ∈ idx, i < L.length) → idx.Nodup → k + idx.length ≤ M.length →
    (putIt L M k idx)[j]? = match srcOf L.length k idx j with | .inl i => L[i]? | .inr m => M[m]?
  | [], L, k, j, _, _, hk => by
    simp only [putIt, srcOf]
    by_cases h : j < L.length
    · rw [if_pos h]; simp [List.getElem?_append_left h]
    · rw [if_neg h, List.getElem?_append_right (by omega), List.getElem?_drop]
  | i :: idx, L, k, j, hr, hn, hk => by
    have hn' := List.nodup_cons.1 hn
    have hkl : k < M.length := by simp at hk; omega
    have ih := putIt_get M idx (L.set i ((M[k]?).getD nullI)) (k + 1) j (fun q hq => by rw [List.length_set]; exact hr q (List.mem_cons_of_mem _ hq)) hn'.2 (by simp at hk; omega)
    rw [putIt, ih, List.length_set, srcOf]
    by_cases hji : j = i
    · subst hji
      have hc : idx.contains j = false := by simpa using hn'.1
      rw [if_pos ⟨hc, rfl⟩]
      have hs : ∀ (idx' : List Nat) (k' : Nat), idx'.contains j = false → srcOf L.length k' idx' j = .inl j := by
        intro idx'
        induction idx' with
        | nil => intro k' _; simp [srcOf, hr j (by simp)]
        | cons a t ih => intro k' h; simp at h; rw [srcOf, if_neg (fun q => h.1 q.2), ih _ (by simpa using h.2)]
      rw [hs idx _ hc]
      simp [hr j (by simp), List.getElem?_eq_getElem hkl]
    · rw [if_neg (fun q => hji q.2)]
      cases hsr : srcOf L.length (k + 1) idx j with
      | inl q =>
        simp only
        have hq : q = j := by
          have hs : ∀ (idx' : List Nat) (k' q : Nat), srcOf L.length k' idx' j = .inl q → q = j := by
            intro idx'
            induction idx' with
            | nil => intro k' q h; simp only [srcOf] at h; split at h; injection h with h; exact h.symm; cases h
            | cons a t ih => intro k' q h; rw [srcOf] at h; split at h; cases h; exact ih _ _ h
          exact hs _ _ _ hsr
        subst hq
        rw [List.getElem?_set, if_neg (Ne.symm hji)]
      | inr q => rfl
theorem srcOf_inl {n : Nat} : ∀ {idx : List Nat} {k j q : Nat}, srcOf n k idx j = .inl q → q = j ∧ j < n ∧ j ∉ idx
  | [], k, j, q, h => by
    simp only [srcOf] at h
    split at h
    · injection h with h; exact ⟨h.symm, by assumption, by simp⟩
    · cases h
  | i :: idx, k, j, q, h => by
    rw [srcOf] at h
    split at h
    · cases h
    · rename_i hne
      obtain ⟨h1, h2, h3⟩ := srcOf_inl h
      refine ⟨h1, h2, ?_⟩
      simp only [List.mem_cons, not_or]
      refine ⟨fun e => hne ⟨by simpa using h3, e⟩, h3⟩
theorem srcOf_inj {n : Nat} : ∀ {idx : List Nat} {k j j' m : Nat}, idx.Nodup → srcOf n k idx j = .inr m → srcOf n k idx j' = .inr m → j = j'
  | [], k, j, j', m, _, h, h' => by
    simp only [srcOf] at h h'
    split at h
    · cases h
    · split at h'
      · cases h'
      · injection h with h; injection h' with h'; omega
  | i :: idx, k, j, j', m, hn, h, h' => by
    have hlow : ∀ {idx : List Nat} {k j m : Nat}, srcOf n k idx j = .inr m → k ≤ m := by
      intro idx
      induction idx with
      | nil => intro k j m h; simp only [srcOf] at h; split at h; cases h; injection h with h; omega
      | cons a t ih => intro k j m h; rw [srcOf] at h; split at h; injection h with h; omega; have := ih h; omega
    have hn' := List.nodup_cons.1 hn
    rw [srcOf] at h h'
    split at h <;> split at h'
    · rename_i q q'; exact q.2.trans q'.2.symm
    · injection h with h; have := hlow h'; omega
    · injection h' with h'; have := hlow h; omega
    · exact srcOf_inj hn'.2 h h'
theorem pick_get (L : List It) (idx : List Nat) (k : Nat) (hr : ∀ i ∈ idx, i < L.length) (I : It) (h : (pick L idx)[k]? = some I) : ∃ i, idx[k]? = some i ∧ i < L.length ∧ L[i]? = some I := by
  unfold pick at h
  rw [List.getElem?_map] at h
  cases hk : idx[k]? with
  | none => rw [hk] at h; cases h
  | some i =>
    rw [hk] at h
    have hi := hr i (List.mem_of_getElem? hk)
    simp only [Option.map_some, List.getElem?_eq_getElem hi, Option.getD_some] at h
    exact ⟨i, rfl, hi, by rw [List.getElem?_eq_getElem hi]; exact h⟩
/-- THE FRAME RULE: a call that needs some of the items. -/
theorem Own.sub (st : Own fr al w0 L w) (idx : List Nat) (hn : idx.Nodup) (hr : ∀ i ∈ idx, i < L.length) :
    ∃ fr' al' : Nat → Prop, Own fr' al' w (pick L idx) w ∧ ∀ M w', idx.length ≤ M.length → Own fr' al' w M w' → Own fr al w0 (putIt L M 0 idx) w' := by
  obtain ⟨hm, e, s, F⟩ := st
  have hpl : (pick L idx).length = idx.length := by simp [pick]
  have hix : ∀ {k}, k < idx.length → idx.getD k 0 < L.length := fun {k} h => by
    rw [List.getD_eq_getElem?_getD, List.getElem?_eq_getElem h]; exact hr _ (List.getElem_mem h)
  have hxn : ∀ {k k'}, k < idx.length → k' < idx.length → k ≠ k' → idx.getD k 0 ≠ idx.getD k' 0 := fun {k k'} h h' hne he => by
    rw [List.getD_eq_getElem?_getD, List.getElem?_eq_getElem h, List.getD_eq_getElem?_getD, List.getElem?_eq_getElem h'] at he
    exact hne ((List.getElem_inj (h₀ := h) (h₁ := h') hn).1 (by simpa using he))
  refine ⟨fun b => ∃ i ∈ idx, e i b, fun b => ∃ i ∈ idx, e i b ∨ s i b, ⟨MutO.refl _ _, fun k => e (idx.getD k 0), fun k => s (idx.getD k 0), ?_, ?_, ?_, ?_, ?_, ?_⟩, ?_⟩
  · intro k I hk
    obtain ⟨i, h1, h2, h3⟩ := pick_get L idx k hr I hk
    rw [List.getD_eq_getElem?_getD, h1]
    exact F.holds i I h3
  · intro k b hk hb; rw [hpl] at hk; exact F.lo _ b (hix hk) hb
  · intro k b hk hb _; rw [hpl] at hk
    exact ⟨_, by rw [List.getD_eq_getElem?_getD, List.getElem?_eq_getElem hk]; exact List.getElem_mem hk, hb⟩
  · intro k b hk hb _; rw [hpl] at hk
    exact ⟨_, by rw [List.getD_eq_getElem?_getD, List.getElem?_eq_getElem hk]; exact List.getElem_mem hk, hb⟩
  · intro k k' b hk hk' hne hb; rw [hpl] at hk hk'; exact F.ee _ _ b (hix hk) (hix hk') (hxn hk hk' hne) hb
  · intro k k' b hk hk' hb; rw [hpl] at hk hk'; exact F.es _ _ b (hix hk) (hix hk') hb
  · rintro M w' hML ⟨hm', eM, sM, FM⟩
    have hle := hm.size
    have hget := fun j => putIt_get M idx L 0 j hr hn (by omega)
    have hsrc : ∀ {j}, j < (putIt L M 0 idx).length → (∃ m, srcOf L.length 0 idx j = .inr m ∧ m < M.length) ∨ (srcOf L.length 0 idx j = .inl j ∧ j < L.length ∧ j ∉ idx) := fun {j} hj => by
      have h1 := hget j
      rw [List.getElem?_eq_getElem hj] at h1
      cases hs : srcOf L.length 0 idx j with
      | inr m => rw [hs] at h1; exact .inl ⟨m, rfl, (List.getElem?_eq_some_iff.1 h1.symm).1⟩
      | inl q => obtain ⟨rfl, h2, h3⟩ := srcOf_inl hs; exact .inr ⟨rfl, h2, h3⟩
    -- an item that stays is far from what the call had
    have hfar : ∀ {j b}, j < L.length → j ∉ idx → (e j b ∨ s j b) → ¬ ∃ i ∈ idx, e i b := fun {j b} hj hji hb ⟨i, hi, he⟩ => by
      have hne : i ≠ j := fun q => hji (q ▸ hi)
      rcases hb with hb | hb
      · exact F.ee i j b (hr i hi) hj hne he hb
      · exact F.es i j b (hr i hi) hj he hb
    have hfar' : ∀ {j b}, j < L.length → j ∉ idx → e j b → ¬ ∃ i ∈ idx, e i b ∨ s i b := fun {j b} hj hji hb ⟨i, hi, he⟩ => by
      have hne : i ≠ j := fun q => hji (q ▸ hi)
      rcases he with he | he
      · exact F.ee i j b (hr i hi) hj hne he hb
      · exact F.es j i b hj (hr i hi) hb he
    refine ⟨hm.trans hm' fun b hb ⟨i, hi, he⟩ => F.fr i b (hr i hi) he hb, fun j => match srcOf L.length 0 idx j with | .inl i => e i | .inr m => eM m, fun j => match srcOf L.length 0 idx j with | .inl i => s i | .inr m => sM m, ?_, ?_, ?_, ?_, ?_, ?_⟩
    · intro j J hj
      have hjl := get_lt hj
      rw [hget j] at hj
      rcases hsrc hjl with ⟨m, h1, h2⟩ | ⟨h1, h2, h3⟩
      · simp only [h1] at hj ⊢
        exact FM.holds m J hj
      · simp only [h1] at hj ⊢
        exact J.st (F.holds j J hj) fun b hb => hm'.block b (F.lo j b h2 hb) (hfar h2 h3 hb)
    · intro j b hj hb
      rcases hsrc hj with ⟨m, h1, h2⟩ | ⟨h1, h2, h3⟩
      · simp only [h1] at hb
        exact FM.lo m b h2 hb
      · simp only [h1] at hb
        exact Nat.lt_of_lt_of_le (F.lo j b h2 hb) hm'.size
    · intro j b hj hb hb0
      rcases hsrc hj with ⟨m, h1, h2⟩ | ⟨h1, h2, h3⟩
      · simp only [h1] at hb
        obtain ⟨i, hi, he⟩ := FM.fr m b h2 hb (by omega)
        exact F.fr i b (hr i hi) he hb0
      · simp only [h1] at hb
        exact F.fr j b h2 hb hb0
    · intro j b hj hb hb0
      rcases hsrc hj with ⟨m, h1, h2⟩ | ⟨h1, h2, h3⟩
      · simp only [h1] at hb
        obtain ⟨i, hi, he⟩ := FM.al m b h2 hb (by omega)
        exact F.al i b (hr i hi) he hb0
      · simp only [h1] at hb
        exact F.al j b h2 hb hb0
    · intro j k b hj hk hjk hb hb'
      rcases hsrc hj with ⟨m, h1, h2⟩ | ⟨h1, h2, h3⟩ <;> rcases hsrc hk with ⟨m', h1', h2'⟩ | ⟨h1', h2', h3'⟩
      · simp only [h1, h1'] at hb hb'
        exact FM.ee m m' b h2 h2' (fun q => hjk (srcOf_inj hn h1 (q ▸ h1'))) hb hb'
      · simp only [h1, h1'] at hb hb'
        exact hfar h2' h3' (.inl hb') (FM.fr m b h2 hb (F.lo k b h2' (.inl hb')))
      · simp only [h1, h1'] at hb hb'
        exact hfar h2 h3 (.inl hb) (FM.fr m' b h2' hb' (F.lo j b h2 (.inl hb)))
      · simp only [h1, h1'] at hb hb'
        exact F.ee j k b h2 h2' hjk hb hb'
    · intro j k b hj hk hb hb'
      rcases hsrc hj with ⟨m, h1, h2⟩ | ⟨h1, h2, h3⟩ <;> rcases hsrc hk with ⟨m', h1', h2'⟩ | ⟨h1', h2', h3'⟩
      · simp only [h1, h1'] at hb hb'
        exact FM.es m m' b h2 h2' hb hb'
      · simp only [h1, h1'] at hb hb'
        exact hfar h2' h3' (.inr hb') (FM.fr m b h2 hb (F.lo k b h2' (.inr hb')))
      · simp only [h1, h1'] at hb hb'
        exact hfar' h2 h3 hb (FM.al m' b h2' (.inr hb') (F.lo j b h2 (.inl hb)))
      · simp only [h1, h1'] at hb hb'
        exact F.es j k b h2 h2' hb hb'
end
end Go.Proofs.YtnemipgmkenemaaDoor

namespace Go.Proofs.YtnemipgmkenemaaDoor.Rg
set_option linter.unusedSimpArgs false
set_option linter.unusedVariables false
open Go

def relUpon (P : Program) (R : Value → World → Prop) : Result Next → Prop
  | .ok (.value u) w' => R u w'
  | .ok .skip w' => R undef w'
  | .ok (.enter f args) w' => Calls P f args w' (fun e w'' => ∃ v, e = .returned v ∧ R v w'')
  | _ => False

/-- Operation 'o', carried out in 'w', leaves a value and a world that meet 'R'. -/
def relAt (P : Program) (o : Oper) (a : Act) (w : World) (R : Value → World → Prop) : Prop := relUpon P R ((execOp a.eval o).run P w)

section
variable {P : Program} {R : Value → World → Prop} {w : World}
@[go_sem] theorem relUpon_value (u : Value) : relUpon P R (.ok (.value u) w) = R u w := rfl
@[go_sem] theorem relUpon_skip : relUpon P R (.ok .skip w) = R undef w := rfl
@[go_sem] theorem relUpon_enter (f : FuncId) (args : Array Value) : relUpon P R (.ok (.enter f args) w) = Calls P f args w (fun e w'' => ∃ v, e = .returned v ∧ R v w'') := rfl
end
/-- Operation 'o' yields 'c' and leaves the world. -/
def stillAt (P : Program) (o : Oper) (a : Act) (w : World) (c : Value) : Prop := (execOp a.eval o).run P w = .ok (.value c) w

abbrev Facts := Nat → World → Prop
def upd (F : Facts) (k : Nat) (S : World → Prop) : Facts := fun i w => F i w ∧ (i = k → S w)
def none : Facts := fun _ _ => True
def bef (ops : Array Oper) (T : Array Nat) (k m : Nat) : Bool := decide (k < ops.size) && decide (m < ops.size) && (T.getD k 0).testBit m
def Pre (ops : Array Oper) (T : Array Nat) (F : Facts) (k : Nat) (w : World) : Prop := ∀ i, bef ops T k i = true → F i w
def All (F : Facts) (w : World) : Prop := ∀ i, F i w

section
variable (P : Program) (ops : Array Oper) (T : Array Nat) (Rel : World → World → Prop) (w0 : World) (sp : Nat → Option (Value → World → Prop)) (Q : Act → World → Prop)

end

def befOk (ops : Array Oper) (T : Array Nat) : Bool :=
  (List.range ops.size).all fun k => (List.range ops.size).all fun m => !(T.getD k 0).testBit m ||
    match ops[k]? with
    | .some o => o.after.any (fun e => Region.binds .any e && (e.on == m || (decide (e.on < ops.size) && (T.getD e.on 0).testBit m)))
    | .none => false

def Closed (ops : Array Oper) (T : Array Nat) (listed : Array Bool) : Prop := ∀ k m, listed.getD k false = true → bef ops T k m = true → listed.getD m false = true
def StableF (Rel : World → World → Prop) (F : Facts) : Prop := ∀ i w w', Rel w w' → F i w → F i w'

section
variable {P : Program} {ops : Array Oper} {T : Array Nat} {Rel : World → World → Prop} {w0 : World} {sp : Nat → Option (Value → World → Prop)} {Q : Act → World → Prop}

theorem bef_spec (hB : befOk ops T = true) {k m : Nat} {o : Oper} (hk : ops[k]? = .some o) (h : bef ops T k m = true) :
    ∃ e ∈ o.after, Region.binds .any e = true ∧ (e.on = m ∨ bef ops T e.on m = true) := by
  unfold bef at h
  simp only [Bool.and_eq_true, decide_eq_true_eq] at h
  obtain ⟨⟨h1, h2⟩, h3⟩ := h
  unfold befOk at hB
  rw [List.all_eq_true] at hB
  have h4 := hB k (List.mem_range.2 h1)
  rw [List.all_eq_true] at h4
  have h5 := h4 m (List.mem_range.2 h2)
  simp only [h3, Bool.not_true, Bool.false_or, hk] at h5
  obtain ⟨e, he, hb⟩ := Array.any_eq_true'.1 h5
  simp only [Bool.and_eq_true, Bool.or_eq_true, beq_iff_eq, decide_eq_true_eq] at hb
  refine ⟨e, he, hb.1, hb.2.imp id fun h => ?_⟩
  unfold bef
  rw [h.2, decide_eq_true h.1, decide_eq_true h2]; rfl

theorem bef_listed (hB : befOk ops T = true) {listed : Array Bool} (hc : Closed ops T listed) {k m : Nat} (hk : k ∈ Region.ready .any ops listed) (h : bef ops T k m = true) :
    listed.getD m false = true := by
  obtain ⟨_, o, ho, hall⟩ := mem_ready.1 hk
  obtain ⟨e, he, hb, h2⟩ := bef_spec hB ho h
  rcases h2 with rfl | h2
  · exact hall e he hb
  · exact hc _ _ (hall e he hb) h2

theorem not_bef (hB : befOk ops T = true) {listed : Array Bool} (hc : Closed ops T listed) {k m : Nat} (hk : k ∈ Region.ready .any ops listed) (hm : m ∈ Region.ready .any ops listed) :
    ¬ bef ops T k m = true := fun h => by
  have h1 := bef_listed hB hc hk h
  have h0 := (mem_ready.1 hm).1
  rcases Nat.lt_or_ge m listed.size with h' | h'
  · simp [h'] at h0 h1; rw [h0] at h1; cases h1
  · simp [Array.getElem?_eq_none h'] at h1

theorem closed_set (hB : befOk ops T = true) {listed : Array Bool} (hc : Closed ops T listed) {k : Nat} (hk : k ∈ Region.ready .any ops listed) :
    Closed ops T (listed.setIfInBounds k true) := fun i m hi hb => by
  by_cases hik : i = k
  · subst hik; exact getD_set_true (bef_listed hB hc hk hb)
  · rw [getD_set_ne false (Ne.symm hik)] at hi
    exact getD_set_true (hc i m hi hb)

theorem pre_upd {F : Facts} {k m : Nat} {S : World → Prop} {w : World} (h : ¬ bef ops T m k = true) : Pre ops T (upd F k S) m w ↔ Pre ops T F m w :=
  ⟨fun hp i hi => (hp i hi).1, fun hp i hi => ⟨hp i hi, fun e => absurd (e ▸ hi) h⟩⟩
theorem upd_comm (F : Facts) (i j : Nat) (S S' : World → Prop) : upd (upd F i S) j S' = upd (upd F j S') i S := by
  funext k w
  unfold upd
  exact propext ⟨fun ⟨⟨a, b⟩, c⟩ => ⟨⟨a, c⟩, b⟩, fun ⟨⟨a, b⟩, c⟩ => ⟨⟨a, c⟩, b⟩⟩
theorem stable_upd {F : Facts} {k : Nat} {S : World → Prop} (hF : StableF Rel F) (hS : ∀ w w', Rel w w' → S w → S w') : StableF Rel (upd F k S) :=
  fun i w w' hr ⟨h1, h2⟩ => ⟨hF i w w' hr h1, fun e => hS w w' hr (h2 e)⟩
theorem relUpon_exists {R : Value → World → Prop} {r : Result Next} (hr : relUpon P R r) : ∃ v w, R v w := by
  cases r with
  | halt x w => exact hr.elim
  | ok n w =>
    cases n with
    | value u => exact ⟨_, _, hr⟩
    | skip => exact ⟨_, _, hr⟩
    | enter f args => obtain ⟨e, w', fr, ⟨v, _, hv⟩, _⟩ := hr []; exact ⟨_, _, hv⟩
    | _ => exact hr.elim
theorem wp_of_rel {o : Oper} {a : Act} {w : World} {R : Value → World → Prop} {K : Act → World → Prop} {Q' : Exit → Act → World → Prop} (hr : relAt P o a w R) (h : ∀ v w', R v w' → K (a.put o.dst v) w') :
    o.wp P a w K Q' := by
  unfold relAt at hr
  unfold Oper.wp
  generalize (execOp a.eval o).run P w = r at *
  cases r with
  | halt x w => exact hr.elim
  | ok n w =>
    cases n with
    | value u => exact h _ _ hr
    | skip => exact h _ _ hr
    | enter f args =>
      simp only [Oper.upon]
      exact hr.mono fun e w' ⟨v, he, hv⟩ => by subst he; exact h _ _ hv
    | _ => exact hr.elim

section steps
variable {o : Oper} {rest : List Oper} {k : Nat} {F : Facts} {a : Act}
theorem relAt_call {R : Value → World → Prop} {w : World} {f : FuncId} {args : Array Value} (hr : (execOp a.eval o).run P w = .ok (.enter f args) w) (h : Calls P f args w (fun e w'' => ∃ v, e = .returned v ∧ R v w'')) : relAt P o a w R := by
  unfold relAt; rw [hr]; exact h
end steps
end
/-- A property of a value and of memory that later steps keep. -/
structure Sp (Rel : World → World → Prop) where
  S : Value → World → Prop
  st : ∀ v w w', Rel w w' → S v w → S v w'
def Sp.val {Rel : World → World → Prop} (c : Value) : Sp Rel := ⟨fun v _ => v = c, fun _ _ _ _ h => h⟩
def spOf {Rel : World → World → Prop} : List (Nat × Sp Rel) → Nat → Option (Value → World → Prop)
  | [], _ => .none
  | (i, s) :: L, k => if k = i then .some s.S else spOf L k
theorem spOf_stable {Rel : World → World → Prop} : ∀ (L : List (Nat × Sp Rel)) (k : Nat) (S : Value → World → Prop), spOf L k = .some S → ∀ v w w', Rel w w' → S v w → S v w'
  | [], _, _, h => by cases h
  | (i, s) :: L, k, S, h => by
    unfold spOf at h
    split at h
    · injection h with h; subst h; exact s.st
    · exact spOf_stable L k S h
end Go.Proofs.YtnemipgmkenemaaDoor.Rg

namespace Go.Proofs.YtnemipgmkenemaaDoor
set_option linter.unusedSimpArgs false
set_option linter.unusedVariables false
open Go Go.RowKit

theorem get0 {x0 : It} {l : List It} : (x0 :: l)[0]? = some x0 := rfl
theorem get1 {x0 x1 : It} {l : List It} : (x0 :: x1 :: l)[1]? = some x1 := rfl
theorem get2 {x0 x1 x2 : It} {l : List It} : (x0 :: x1 :: x2 :: l)[2]? = some x2 := rfl
theorem get3 {x0 x1 x2 x3 : It} {l : List It} : (x0 :: x1 :: x2 :: x3 :: l)[3]? = some x3 := rfl
theorem get4 {x0 x1 x2 x3 x4 : It} {l : List It} : (x0 :: x1 :: x2 :: x3 :: x4 :: l)[4]? = some x4 := rfl
theorem get5 {x0 x1 x2 x3 x4 x5 : It} {l : List It} : (x0 :: x1 :: x2 :: x3 :: x4 :: x5 :: l)[5]? = some x5 := rfl
theorem get6 {x0 x1 x2 x3 x4 x5 x6 : It} {l : List It} : (x0 :: x1 :: x2 :: x3 :: x4 :: x5 :: x6 :: l)[6]? = some x6 := rfl
theorem get7 {x0 x1 x2 x3 x4 x5 x6 x7 : It} {l : List It} : (x0 :: x1 :: x2 :: x3 :: x4 :: x5 :: x6 :: x7 :: l)[7]? = some x7 := rfl
theorem get8 {x0 x1 x2 x3 x4 x5 x6 x7 x8 : It} {l : List It} : (x0 :: x1 :: x2 :: x3 :: x4 :: x5 :: x6 :: x7 :: x8 :: l)[8]? = some x8 := rfl
def blkFacts (w : World) (b : Nat) : Nat → List Value → Prop
  | _, [] => True
  | i, v :: vs => w.cell? ⟨b, i, none⟩ = some v ∧ blkFacts w b (i + 1) vs
theorem blkFacts_of {w : World} {b : Nat} : ∀ (vs : List Value) (i : Nat), (∀ j, j < vs.length → w.cell? ⟨b, i + j, none⟩ = vs[j]?) → blkFacts w b i vs
  | [], _, _ => trivial
  | v :: vs, i, h => ⟨by have := h 0 (by simp); simpa using this, blkFacts_of vs (i + 1) fun j hj => by
      have := h (j + 1) (by simp; omega)
      rw [show i + 1 + j = i + (j + 1) by omega]; simpa using this⟩
/-- A block of one's own, whole: the cells vs. -/
def blkI (b : Nat) (vs : List Value) : It where
  P e _ w := e b ∧ Blk w b vs
  st := fun ⟨h1, ty, h2⟩ hag => ⟨h1, ty, by rw [hag b (.inl h1)]; exact h2⟩
  facts w := blkFacts w b 0 vs
  ok := fun ⟨_, h⟩ => blkFacts_of _ 0 fun j _ => by rw [Nat.zero_add]; exact h.cell j
theorem row_agree {w w' : World} {E : TypeId} {size n : Nat} {v : Value} {xs : List Value} (h : w.ownsRow 0 E size v n xs) (hag : ∀ k, v.ownBlock = some k → w'.heap[k]? = w.heap[k]?) : w'.ownsRow 0 E size v n xs := by
  refine ⟨h.1, h.2.imp id ?_⟩
  rintro ⟨g, cap, cur, hv, hb, hg, r⟩
  exact ⟨g, cap, cur, hv, hb, by rw [hag g (by rw [hv]; rfl)]; exact hg, r⟩
/-- A slice of one's own that may grow: n elements of type E, the cells xs. -/
def rowI (E : TypeId) (size : Nat) (v : Value) (n : Nat) (xs : List Value) : It where
  P e _ w := w.ownsRow 0 E size v n xs ∧ ∀ k, v.ownBlock = some k → e k
  st := fun ⟨h1, h2⟩ hag => ⟨row_agree h1 fun k hk => hag k (.inl (h2 k hk)), h2⟩
  facts _ := True
  ok := fun _ => trivial
/-- A byte slice that is shared. -/
def byI (a : Option Addr) (n : Nat) (xs : List UInt8) : It where
  P _ s w := By w a n xs ∧ (0 < n → ∀ ad, a = some ad → s ad.block)
  st := by
    rintro e s w w' ⟨h1, h2⟩ hag
    refine ⟨⟨h1.1, fun h0 => ?_⟩, h2⟩
    obtain ⟨b, off, rfl, hc⟩ := h1.2 h0
    refine ⟨b, off, rfl, fun i x hi => ?_⟩
    have := hc i x hi
    unfold byteR at *
    rw [World.cell?_of_block (w := w) (hag b (.inr (h2 h0 _ rfl)))]
    exact this
  facts _ := True
  ok := fun _ => trivial
/-- What is shared, in whatever form. -/
structure Dat where
  Q : (Nat → Prop) → World → Prop
  st : ∀ {s w w'}, Q s w → (∀ b, s b → w'.heap[b]? = w.heap[b]?) → Q s w'
def datI (d : Dat) : It where
  P _ s w := d.Q s w
  st := fun h hag => d.st h fun b hb => hag b (.inr hb)
  facts _ := True
  ok := fun _ => trivial

/-- The memory of W0 is as it was, and is shared. -/
def oldI (W0 : World) : It where
  P _ s w := (∀ b, b < W0.heap.size → s b) ∧ W0.heap.size ≤ w.heap.size ∧ ∀ b, b < W0.heap.size → w.heap[b]? = W0.heap[b]?
  st := by
    rintro e s w w' ⟨h1, h2, h3⟩ hag
    refine ⟨h1, ?_, fun b hb => (hag b (.inr (h1 b hb))).trans (h3 b hb)⟩
    rcases Nat.eq_zero_or_pos W0.heap.size with q | q
    · omega
    · have e1 := hag (W0.heap.size - 1) (.inr (h1 _ (by omega)))
      have e2 : ∃ o, W0.heap[W0.heap.size - 1]? = some o := ⟨_, Array.getElem?_eq_getElem (by omega)⟩
      obtain ⟨o, e2⟩ := e2
      rw [h3 _ (by omega), e2] at e1
      have := (Array.getElem?_eq_some_iff.1 e1).1
      omega
  facts _ := True
  ok := fun _ => trivial
section
variable {fr al : Nat → Prop} {w0 w w' : World} {L : List It}
theorem Own.old (st : Own fr al w0 L w) {i : Nat} {W0 : World} (hi : L[i]? = some (oldI W0)) : W0.heap.size ≤ w.heap.size ∧ ∀ b, b < W0.heap.size → w.heap[b]? = W0.heap[b]? := let ⟨_, _, h, _⟩ := st.get hi; ⟨h.2.1, h.2.2⟩
theorem Own.oldCell (st : Own fr al w0 L w) {i : Nat} {W0 : World} (hi : L[i]? = some (oldI W0)) {p : Addr} {v : Value} (h : W0.cell? p = some v) : w.cell? p = some v := by
  rw [World.cell?_of_block (w := W0) ((st.old hi).2 _ (World.block_lt_of_cell? W0 p h))]
  exact h
theorem Own.blk (st : Own fr al w0 L w) {i b : Nat} {vs : List Value} (hi : L[i]? = some (blkI b vs)) : Blk w b vs := let ⟨_, _, h, _⟩ := st.get hi; h.2
theorem Own.row (st : Own fr al w0 L w) {i n size : Nat} {E : TypeId} {v : Value} {xs : List Value} (hi : L[i]? = some (rowI E size v n xs)) : w.ownsRow 0 E size v n xs := let ⟨_, _, h, _⟩ := st.get hi; h.1
theorem Own.by (st : Own fr al w0 L w) {i n : Nat} {a : Option Addr} {xs : List UInt8} (hi : L[i]? = some (byI a n xs)) : By w a n xs := let ⟨_, _, h, _⟩ := st.get hi; h.1
theorem Own.alloc (st : Own fr al w0 L w) (cs : List Value) (T : TypeId) {b : Nat} (hb : b = w.heap.size) : Own fr al w0 (L ++ [blkI b cs]) (w.alloc (.cells cs.toArray T)) := by
  subst hb
  refine st.new (I := blkI w.heap.size cs) (e' := fun k => k = w.heap.size) (s' := fun _ => False) (Ext.new w _) ⟨rfl, Blk.new w cs T⟩ ?_ (fun _ q => q.elim) (fun _ _ q => q.elim)
  rintro b rfl
  exact ⟨by show _ < (w.heap.push _).size; simp, Nat.le_refl _⟩
theorem Own.drew (st : Own fr al w0 L w) : Own fr al w0 L w.drew := st.ext (Ext.refl w).drew
theorem Own.rowAt (st : Own fr al w0 L w) {i n size : Nat} {E : TypeId} {v : Value} {xs : List Value} (hi : L[i]? = some (rowI E size v n xs)) (hn : 0 < n) :
    ∃ g cap, v = .slice (some ⟨g, 0, none⟩) n cap ∧ (n ≤ cap ∧ cap ≤ maxLen) ∧ ∀ j u, xs[j]? = some u → w.cell? ⟨g, j, none⟩ = some u := by
  have h := st.row hi
  rcases h.2 with ⟨rfl, h0⟩ | ⟨g, cap, cur, rfl, hb, hg, hc, hm, hs, ht⟩
  · omega
  · refine ⟨g, cap, rfl, ⟨hc, hm⟩, fun j u hj => ?_⟩
    have := h.cells (g := g) rfl j u hj
    rwa [addr_add, Nat.zero_add] at this
theorem Own.row_nil (st : Own fr al w0 L w) (E : TypeId) (size : Nat) : Own fr al w0 (L ++ [rowI E size (.slice none 0 0) 0 []]) w :=
  st.bare ⟨⟨by simp, .inl ⟨rfl, rfl⟩⟩, fun k hk => by simp [Value.ownBlock] at hk⟩
theorem Own.set (st : Own fr al w0 L w) {i b : Nat} {vs : List Value} (hi : L[i]? = some (blkI b vs)) (k : Nat) (v : Value) : Own fr al w0 (L.set i (blkI b (vs.set k v))) (w.setCell ⟨b, k, none⟩ v) :=
  st.upd hi fun e s ⟨h1, h2⟩ h3 h4 => ⟨e, s, ⟨h1, h2.set k v⟩, fun q hq => ⟨by simpa [World.setCell] using h3 q (.inl hq), .inl hq⟩, fun q hq => ⟨by simpa [World.setCell] using h3 q (.inr hq), .inr (.inl hq)⟩, h4, MutO.set (MutO.refl _ _) h1 _⟩
/-- Several cells. -/
def spl (vs : List Value) : Nat → List Value → List Value
  | _, [] => vs
  | k, c :: cs => spl (vs.set k c) (k + 1) cs
theorem Own.setCells (st : Own fr al w0 L w) {i b : Nat} {vs : List Value} (hi : L[i]? = some (blkI b vs)) (cs : List Value) (k : Nat) : Own fr al w0 (L.set i (blkI b (spl vs k cs))) (w.setCells b k cs) := by
  induction cs generalizing L w vs k with
  | nil =>
    have : L.set i (blkI b vs) = L := by
      apply List.ext_getElem?
      intro j
      rw [List.getElem?_set]
      split
      · rename_i h; subst h; rw [hi, if_pos (get_lt hi)]
      · rfl
    simpa [spl, World.setCells, this] using st
  | cons c cs ih =>
    have h1 := st.set hi k c
    have h2 := ih h1 (vs := vs.set k c) (k := k + 1) (by simp [List.getElem?_set, get_lt hi])
    rw [List.set_set] at h2
    exact h2
theorem run_storeAt_own {P : Program} {w : World} {b k : Nat} {vs : List Value} {v : Value} {T : TypeId} {cs : List Value} (h : Blk w b vs) (hcs : v.cells.toList = cs) (hT : (P.info? T).map (·.size) = some cs.length) (hk : k + cs.length ≤ vs.length) (h1 : cs.all (·.oneCell') = true) :
    (Instr.storeAt T (.pointer (some ⟨b, k, none⟩)) v).run P w = .ok () (w.setCells b k cs) := by
  subst hcs
  have := run_storeCells_cells (P := P) b k v.cells.toList 0 w (fun j hj => by rw [Nat.add_zero, h.cell, List.getElem?_eq_getElem (by omega)]; rfl) (fun j _ => h.free _) (fun u hu => (List.all_eq_true.1 h1) u hu)
  cases hq : P.info? T with
  | none => simp [hq] at hT
  | some i =>
    have hs : v.cells.size = i.size := by simp [hq] at hT; omega
    simp only [Nat.add_zero] at this
    simp [Instr.storeAt, Instr.sureAddr, storeVar, sizeOf, typeInfo, hq, hs, this]
end

section
variable {fr al : Nat → Prop} {w0 w : World} {L : List It} {P : Program} {o : Oper} {a : Act} {K : Act → World → Prop} {Q : Exit → Act → World → Prop}
/-- At a plain region's list. -/
theorem wpl_at {ops : Array Oper} {rest : List Oper} (hg : Region.wanted o (yielded ops a.tmps) = true) (h : ∀ K : Act → World → Prop, (∀ a w, wpList P ops Q rest a w → K a w) → o.wp P a w K Q) : wpList P ops Q (o :: rest) a w := by
  unfold wpList
  rw [if_pos hg]
  exact .inl (h _ fun _ _ q => q)
theorem wl_box {ops : Array Oper} {rest : List Oper} {d : Option Tmp} {T : TypeId} {x : Operand} {ty : TypeId} {pos : String} {af : Array Edge} {gd : Option (Nat × Bool)} (hg : Region.wanted ⟨d, .box T x, ty, pos, af, gd⟩ (yielded ops a.tmps) = true)
    (h : ∀ K : Act → World → Prop, (∀ a w, wpList P ops Q rest a w → K a w) → Oper.wp P ⟨d, .box T x, ty, pos, af, gd⟩ a w K Q) : wpList P ops Q (⟨d, .box T x, ty, pos, af, gd⟩ :: rest) a w := wpl_at hg h
theorem wl_alloc {ops : Array Oper} {rest : List Oper} {d : Option Tmp} {T : TypeId} {ty : TypeId} {pos : String} {af : Array Edge} {gd : Option (Nat × Bool)} (hg : Region.wanted ⟨d, .alloc T, ty, pos, af, gd⟩ (yielded ops a.tmps) = true)
    (h : ∀ K : Act → World → Prop, (∀ a w, wpList P ops Q rest a w → K a w) → Oper.wp P ⟨d, .alloc T, ty, pos, af, gd⟩ a w K Q) : wpList P ops Q (⟨d, .alloc T, ty, pos, af, gd⟩ :: rest) a w := wpl_at hg h
theorem wl_buildSlice {ops : Array Oper} {rest : List Oper} {d : Option Tmp} {T : TypeId} {m : Nat} {ps : Array (Nat × Operand)} {ty : TypeId} {pos : String} {af : Array Edge} {gd : Option (Nat × Bool)} (hg : Region.wanted ⟨d, .buildSlice T m ps, ty, pos, af, gd⟩ (yielded ops a.tmps) = true)
    (h : ∀ K : Act → World → Prop, (∀ a w, wpList P ops Q rest a w → K a w) → Oper.wp P ⟨d, .buildSlice T m ps, ty, pos, af, gd⟩ a w K Q) : wpList P ops Q (⟨d, .buildSlice T m ps, ty, pos, af, gd⟩ :: rest) a w := wpl_at hg h
theorem wl_store {ops : Array Oper} {rest : List Oper} {d : Option Tmp} {T : TypeId} {x y : Operand} {ty : TypeId} {pos : String} {af : Array Edge} {gd : Option (Nat × Bool)} (hg : Region.wanted ⟨d, .store T x y, ty, pos, af, gd⟩ (yielded ops a.tmps) = true)
    (h : ∀ K : Act → World → Prop, (∀ a w, wpList P ops Q rest a w → K a w) → Oper.wp P ⟨d, .store T x y, ty, pos, af, gd⟩ a w K Q) : wpList P ops Q (⟨d, .store T x y, ty, pos, af, gd⟩ :: rest) a w := wpl_at hg h
theorem wl_convert {ops : Array Oper} {rest : List Oper} {d : Option Tmp} {s t : TypeId} {x : Operand} {ty : TypeId} {pos : String} {af : Array Edge} {gd : Option (Nat × Bool)} (hg : Region.wanted ⟨d, .convert s t x, ty, pos, af, gd⟩ (yielded ops a.tmps) = true)
    (h : ∀ K : Act → World → Prop, (∀ a w, wpList P ops Q rest a w → K a w) → Oper.wp P ⟨d, .convert s t x, ty, pos, af, gd⟩ a w K Q) : wpList P ops Q (⟨d, .convert s t x, ty, pos, af, gd⟩ :: rest) a w := wpl_at hg h
theorem wl_append {ops : Array Oper} {rest : List Oper} {d : Option Tmp} {s x : Operand} {t : TypeId} {ty : TypeId} {pos : String} {af : Array Edge} {gd : Option (Nat × Bool)} (hg : Region.wanted ⟨d, .call { callee := .builtin .append, args := #[s, x], argTypes := #[t, t] }, ty, pos, af, gd⟩ (yielded ops a.tmps) = true)
    (h : ∀ K : Act → World → Prop, (∀ a w, wpList P ops Q rest a w → K a w) → Oper.wp P ⟨d, .call { callee := .builtin .append, args := #[s, x], argTypes := #[t, t] }, ty, pos, af, gd⟩ a w K Q) : wpList P ops Q (⟨d, .call { callee := .builtin .append, args := #[s, x], argTypes := #[t, t] }, ty, pos, af, gd⟩ :: rest) a w := wpl_at hg h
theorem owp_run {w' : World} {v : Value} (hr : (execOp a.eval o).run P w = .ok (.value v) w') (h : K (a.put o.dst v) w') : o.wp P a w K Q := by unfold Oper.wp; rw [hr]; exact h
theorem owp_store {T : TypeId} {x y : Operand} (ho : o.op = .store T x y) (st : Own fr al w0 L w)
    (h : ∃ ad v, a.eval x = .pointer (some ad) ∧ a.eval y = v ∧ ∃ (i b k : Nat) (vs cs : List Value), L[i]? = some (blkI b vs) ∧ ad = ⟨b, k, none⟩ ∧ v.cells.toList = cs ∧ (P.info? T).map (·.size) = some cs.length ∧ k + cs.length ≤ vs.length ∧ cs.all (·.oneCell') = true ∧
      ∀ w', Own fr al w0 (L.set i (blkI b (spl vs k cs))) w' → K (a.put o.dst undef) w') : o.wp P a w K Q := by
  obtain ⟨ad, v, hx, hy, i, b, k, vs, cs, hi, rfl, hcs, hT, hk, h1, h⟩ := h
  unfold Oper.wp execOp
  simp only [ho, hx, hy, Sem.run_bind, run_storeAt_own (P := P) (st.blk hi) hcs hT hk h1, Result.andThen, Sem.run_pure]
  exact h _ (st.setCells hi cs k)
theorem owp_box {T : TypeId} {x : Operand} (ho : o.op = .box T x) (st : Own fr al w0 L w)
    (h : ∃ v, a.eval x = v ∧ ∀ b w', w.heap.size ≤ b → Own fr al w0 (L ++ [blkI b v.cells.toList]) w' → K (a.put o.dst (.pointer (some ⟨b, 0, none⟩))) w') : o.wp P a w K Q := by
  obtain ⟨v, hx, h⟩ := h
  refine owp_run (v := .pointer (some ⟨w.heap.size, 0, none⟩)) (w' := w.alloc (.cells v.cells T)) ?_ (h _ _ (Nat.le_refl _) (by have := st.alloc v.cells.toList T rfl; simpa using this))
  unfold execOp
  simp only [ho, hx]
  simp [Instr.box, newVar, newRow, go_sem]
theorem owp_alloc {T : TypeId} (ho : o.op = .alloc T) (st : Own fr al w0 L w) (h : ∃ (cs : Array Value) (T' : TypeId), (execOp a.eval o).run P w = .ok (.value (.pointer (some ⟨w.heap.size, 0, none⟩))) (w.alloc (.cells cs T')) ∧
    ∀ b w', w.heap.size ≤ b → Own fr al w0 (L ++ [blkI b cs.toList]) w' → K (a.put o.dst (.pointer (some ⟨b, 0, none⟩))) w') : o.wp P a w K Q :=
  let ⟨cs, T', hr, h⟩ := h
  owp_run hr (h _ _ (Nat.le_refl _) (by have := st.alloc cs.toList T' rfl; simpa using this))
theorem owp_buildSlice {T : TypeId} {k : Nat} {ps : Array (Nat × Operand)} (ho : o.op = .buildSlice T k ps) (st : Own fr al w0 L w) (h : ∃ (m c : Nat) (cs : Array Value) (T' : TypeId), (execOp a.eval o).run P w = .ok (.value (.slice (some ⟨w.heap.size, 0, none⟩) m c)) (w.alloc (.cells cs T')) ∧
    ∀ b w', w.heap.size ≤ b → Own fr al w0 (L ++ [blkI b cs.toList]) w' → K (a.put o.dst (.slice (some ⟨b, 0, none⟩) m c)) w') : o.wp P a w K Q :=
  let ⟨_, _, cs, T', hr, h⟩ := h
  owp_run hr (h _ _ (Nat.le_refl _) (by have := st.alloc cs.toList T' rfl; simpa using this))
/-- append to a slice of one's own: the new elements are somewhere. -/
theorem owp_append {s x : Operand} {t : TypeId} (ho : o.op = .call { callee := .builtin .append, args := #[s, x], argTypes := #[t, t] }) (st : Own fr al w0 L w) (i : Nat) {E : TypeId} {inf : TypeInfo} {z v : Value} {size bytes n m c : Nat} {xs news : List Value} {A : Option Addr}
    (hi : L[i]? = some (rowI E size v n xs)) (ht : P.underlying t = some (.slice E)) (hinf : P.info? E = some inf) (hz : inf.zero = some z) (hsize : inf.size = size) (hby : inf.bytes = bytes) (hzs : z.cells.size = size) (hsz : 0 < size)
    (hs : a.eval s = v) (hx : a.eval x = .slice A m c) (hf : Flat w A m size news) (h1 : ∀ u ∈ news, u.oneCell' = true) (h63 : n + m ≤ maxLen) (hbytes : (n + m) * bytes ≤ 140737488355328)
    (h : ∀ v' w', Own fr al w0 (L.set i (rowI E size v' (n + m) (xs ++ news))) w' → K (a.put o.dst v') w') : o.wp P a w K Q := by
  have hown := st.row hi
  obtain ⟨v', w', hr, h2, h3⟩ := run_append_any (P := P) 0 t o.type E inf z size bytes ht hinf hz hsize hby hzs hsz v n xs hown A m c news hf h1 h63 hbytes (Nat.zero_le _)
  have h4 := append_block (P := P) 0 t o.type E inf z size bytes ht hinf hz hsize hby hsz v v' n xs hown A m c news hf h1 h63 hbytes hr
  refine owp_run (v := v') (w' := w') (by simp [execOp, ho, resolve, invoke, builtin, hs, hx, hr, Result.andThen]) (h v' w' ?_)
  refine st.upd hi fun e s ⟨_, q2⟩ q3 q4 => ⟨fun k => e k ∨ (w.heap.size ≤ k ∧ k < w'.heap.size), s, ⟨h2, fun k hk => ?_⟩, fun b hb => ?_, fun b hb => ⟨Nat.lt_of_lt_of_le (q3 b (.inr hb)) h3.size, .inr (.inl hb)⟩, fun b hb hb' => ?_, ?_⟩
  · rcases h4 with h | h
    · rw [h] at hk; exact .inl (q2 k hk)
    · rw [h] at hk; injection hk with hk; subst hk
      exact .inr ⟨Nat.le_refl _, (h2.lt _ h).2⟩
  · rcases hb with hb | hb
    · exact ⟨Nat.lt_of_lt_of_le (q3 b (.inl hb)) h3.size, .inl hb⟩
    · exact ⟨hb.2, .inr hb.1⟩
  · rcases hb with hb | hb
    · exact q4 b hb hb'
    · have := q3 b (.inr hb'); omega
  · exact MutO.grown (MutO.refl _ _) h3 fun k hk _ => q2 k hk
/-- The elements lie in a block of one's own. -/
theorem Blk.flat {w : World} {b size m : Nat} {vs : List Value} (h : Blk w b vs) (hm : vs.length = m * size) : Flat w (some ⟨b, 0, none⟩) m size vs :=
  ⟨hm, fun _ => ⟨_, rfl, fun j u hj => by rw [addr_add, Nat.zero_add, h.cell]; exact hj⟩⟩
end

section
variable {fr al : Nat → Prop} {w0 w : World} {L : List It}
/-- Some of the items stay; the others are forgotten. -/
theorem Own.keep (st : Own fr al w0 L w) (idx : List Nat) (hn : idx.Nodup) (hr : ∀ i ∈ idx, i < L.length) : Own fr al w0 (pick L idx) w := by
  obtain ⟨hm, e, s, F⟩ := st
  have hpl : (pick L idx).length = idx.length := by simp [pick]
  have hix : ∀ {k}, k < idx.length → idx.getD k 0 < L.length := fun {k} h => by
    rw [List.getD_eq_getElem?_getD, List.getElem?_eq_getElem h]; exact hr _ (List.getElem_mem h)
  have hxn : ∀ {k k'}, k < idx.length → k' < idx.length → k ≠ k' → idx.getD k 0 ≠ idx.getD k' 0 := fun {k k'} h h' hne he => by
    rw [List.getD_eq_getElem?_getD, List.getElem?_eq_getElem h, List.getD_eq_getElem?_getD, List.getElem?_eq_getElem h'] at he
    exact hne ((List.getElem_inj (h₀ := h) (h₁ := h') hn).1 (by simpa using he))
  refine ⟨hm, fun k => e (idx.getD k 0), fun k => s (idx.getD k 0), ?_, ?_, ?_, ?_, ?_, ?_⟩
  · intro k I hk
    obtain ⟨i, h1, h2, h3⟩ := pick_get L idx k hr I hk
    rw [List.getD_eq_getElem?_getD, h1]
    exact F.holds i I h3
  · intro k b hk hb; rw [hpl] at hk; exact F.lo _ b (hix hk) hb
  · intro k b hk hb hb0; rw [hpl] at hk; exact F.fr _ b (hix hk) hb hb0
  · intro k b hk hb hb0; rw [hpl] at hk; exact F.al _ b (hix hk) hb hb0
  · intro k k' b hk hk' hne hb; rw [hpl] at hk hk'; exact F.ee _ _ b (hix hk) (hix hk') (hxn hk hk' hne) hb
  · intro k k' b hk hk' hb; rw [hpl] at hk hk'; exact F.es _ _ b (hix hk) (hix hk') hb
/-- A shared byte slice of new blocks. -/
theorem Own.addBy (st : Own fr al w0 L w) {w' : World} (hx : Ext w w') {a : Option Addr} {n : Nat} {xs : List UInt8} (h : By w' a n xs) (hf : 0 < n → ∀ ad, a = some ad → w.heap.size ≤ ad.block) : Own fr al w0 (L ++ [byI a n xs]) w' := by
  refine st.new hx (e' := fun _ => False) (s' := fun b => 0 < n ∧ ∃ ad, a = some ad ∧ ad.block = b) ⟨h, fun h0 ad had => ⟨h0, ad, had, rfl⟩⟩ (fun _ q => q.elim) ?_ (fun _ q => q.elim)
  rintro b ⟨h0, ad, rfl, rfl⟩
  refine ⟨?_, hf h0 _ rfl⟩
  obtain ⟨b, off, hb, hc⟩ := h.2 h0
  cases hb
  exact World.block_lt_of_cell? w' _ (hc 0 _ (List.getElem?_eq_getElem (by have := h.1; omega)))
/-- A block of one's own is given away: it is shared from now on. -/
theorem Own.freeze (st : Own fr al w0 L w) {i b : Nat} {xs : List UInt8} (hi : L[i]? = some (blkI b (xs.map B))) : Own fr al w0 (L.set i (byI (some ⟨b, 0, none⟩) xs.length xs)) w :=
  st.conv hi fun e s ⟨h1, h2⟩ _ => ⟨fun _ => False, fun k => k = b, ⟨h2.by, fun _ ad had => by cases had; rfl⟩, fun _ q => q.elim, fun k hk => .inl (hk ▸ h1), fun _ q => q.elim⟩
end

section
variable {fr al : Nat → Prop} {w0 w : World} {L : List It} {P : Program} {o : Oper} {a : Act} {K : Act → World → Prop} {Q : Exit → Act → World → Prop}
/-- []byte(s). -/
theorem owp_sb {src dst e : TypeId} {x : Operand} (ho : o.op = .convert src dst x) (st : Own fr al w0 L w) {xs : List UInt8} (hx : a.eval x = .string ⟨xs.toArray⟩)
    (hs : P.underlying src = some .string) (hd : P.underlying dst = some (.slice e)) (he : P.underlying e = some (.int .u8)) (hl : xs.length ≤ maxLen)
    (h : ∀ A c w', (xs.length ≤ c ∧ c ≤ maxLen) → Own fr al w0 (L ++ [byI A xs.length xs]) w' → K (a.put o.dst (.slice A xs.length c)) w') : o.wp P a w K Q := by
  have hr := run_bytes_of_string (P := P) w src dst e ⟨xs.toArray⟩ hs hd he
  obtain ⟨v, w', hr', ⟨A, n, c, rfl, h1, h2, h3⟩, hx'⟩ := conv_sb (P := P) (w := w) (src := src) (dst := dst) (e := e) xs hs hd he hl
  obtain rfl : n = xs.length := h3.1
  refine owp_run (v := .slice A xs.length c) (w' := w') ?_ (h A c w' ⟨h1, h2⟩ (st.addBy hx' h3 fun _ ad had => ?_))
  · unfold execOp
    simp only [ho, hx]
    rw [show (.string ⟨xs.toArray⟩ : Value) = S xs from rfl]
    simp only [Sem.run_bind, hr', Result.andThen, Sem.run_pure]
  · rw [show (.string ⟨xs.toArray⟩ : Value) = S xs from rfl] at hr
    rw [hr'] at hr
    injection hr with hr _
    injection hr with hr _ _
    rw [had] at hr
    injection hr with hr
    subst hr
    exact Nat.le_refl _
/-- A constant's bytes get their mark. -/
def unB : Value → UInt8
  | .int _ n => UInt8.ofNat n.toNat
  | _ => 0
/-- The memory at the start. -/
theorem Own.startOld (w : World) : Own (fun _ => False) (fun _ => True) w [oldI w] w := by
  have := (Own.start (fun _ => False) (fun _ => True) w).snoc (I := oldI w) (Ext.refl w) (e' := fun _ => False) (s' := fun b => b < w.heap.size) ⟨fun _ h => h, Nat.le_refl _, fun _ _ => rfl⟩ (fun _ q => q.elim)
    (fun b hb => ⟨hb, .inr ⟨fun _ => trivial, fun _ _ _ i hi => by simp at hi⟩⟩) (fun _ q => q.elim)
  simpa using this
end
/-- What a list of items comes to, for simp. -/
theorem nsl : (∀ (α : Type) (a : α) (l m : List α), (a :: l) ++ m = a :: (l ++ m)) ∧ (∀ (α : Type) (l : List α), [] ++ l = l) ∧ (∀ (α : Type) (l : List α), l ++ [] = l) ∧
    (∀ (α : Type) (i : Nat) (a : α), ([] : List α).set i a = []) ∧ (∀ (α : Type) (x a : α) (l : List α), (x :: l).set 0 a = a :: l) ∧ (∀ (α : Type) (x a : α) (l : List α) (n : Nat), (x :: l).set (n + 1) a = x :: l.set n a) ∧
    (∀ (vs : List Value) (k : Nat), spl vs k [] = vs) ∧ (∀ (vs : List Value) (k : Nat) (c : Value) (cs : List Value), spl vs k (c :: cs) = spl (vs.set k c) (k + 1) cs) ∧
    (∀ (L M : List It) (k : Nat), putIt L M k [] = L ++ M.drop k) ∧ (∀ (L M : List It) (k i : Nat) (idx : List Nat), putIt L M k (i :: idx) = putIt (L.set i ((M[k]?).getD nullI)) M (k + 1) idx) ∧
    (∀ (L : List It) (idx : List Nat), pick L idx = idx.map fun i => (L[i]?).getD nullI) ∧ (∀ (α β : Type) (f : α → β) (a : α) (l : List α), (a :: l).map f = f a :: l.map f) ∧ (∀ (α β : Type) (f : α → β), ([] : List α).map f = []) ∧
    (∀ (α : Type) (a : α) (l : List α), (a :: l)[0]? = some a) ∧ (∀ (α : Type) (a : α) (l : List α) (i : Nat), (a :: l)[i + 1]? = l[i]?) ∧ (∀ (α : Type) (a b : α), (some a).getD b = a) ∧
    (∀ (α : Type) (a : α) (l : List α) (i : Nat), (a :: l).drop (i + 1) = l.drop i) ∧ (∀ (α : Type) (l : List α), l.drop 0 = l) ∧ (∀ (α : Type) (i : Nat), ([] : List α).drop i = []) :=
  ⟨fun _ _ _ _ => rfl, fun _ _ => rfl, fun _ l => List.append_nil l, fun _ _ _ => rfl, fun _ _ _ _ => rfl, fun _ _ _ _ _ => rfl, fun _ _ => rfl, fun _ _ _ _ => rfl, fun _ _ _ => rfl, fun _ _ _ _ _ => rfl, fun _ _ => rfl, fun _ _ _ _ _ => rfl, fun _ _ _ => rfl,
    fun _ _ _ => rfl, fun _ _ _ _ => by simp, fun _ _ _ => rfl, fun _ _ _ _ => rfl, fun _ _ => rfl, fun _ i => by cases i <;> rfl⟩
/-- What the facts of items come to, for simp. -/
theorem nfl : (∀ w, factsOf [] w = True) ∧ (∀ I L w, factsOf (I :: L) w = (I.facts w ∧ factsOf L w)) ∧ (∀ b vs w, (blkI b vs).facts w = blkFacts w b 0 vs) ∧ (∀ w b i, blkFacts w b i [] = True) ∧ (∀ w b i v vs, blkFacts w b i (v :: vs) = (w.cell? ⟨b, i, none⟩ = some v ∧ blkFacts w b (i + 1) vs)) ∧
    (∀ E k v n xs w, (rowI E k v n xs).facts w = True) ∧ (∀ a n xs w, (byI a n xs).facts w = True) ∧ (∀ d w, (datI d).facts w = True) ∧ (∀ w, nullI.facts w = True) ∧ (∀ W w, (oldI W).facts w = True) ∧ (∀ n : Nat, 0 + n = n) ∧ (∀ p, (p ∧ True) = p) ∧ (∀ p, (True ∧ p) = p) ∧ (∀ p, (p ∧ p) = p) :=
  ⟨fun _ => rfl, fun _ _ _ => rfl, fun _ _ _ => rfl, fun _ _ _ => rfl, fun _ _ _ _ _ => rfl, fun _ _ _ _ _ _ => rfl, fun _ _ _ _ => rfl, fun _ _ => rfl, fun _ => rfl, fun _ _ => rfl, Nat.zero_add, and_true, true_and, and_self⟩
end Go.Proofs.YtnemipgmkenemaaDoor

namespace Go.Proofs.YtnemipgmkenemaaDoor.Rg
set_option linter.unusedSimpArgs false
set_option linter.unusedVariables false
open Go

/-- none: kind (a); some none: kind (c); some (some S): kind (b). -/
abbrev Kd := Option (Option (Value → World → Prop))

section
variable (P : Program) (ops : Array Oper) (T : Array Nat) (Rel : World → World → Prop) (Cl : World → Prop) (kd : Nat → Kd) (Q : Exit → Act → World → Prop)

def op3 (k : Nat) (K : World → Facts → Act → Prop) (w0 : World) (F : Facts) (a : Act) : Prop :=
  match ops[k]? with
  | .none => K w0 F a
  | .some o =>
    if Region.wanted o (yielded ops a.tmps) = true then
      match kd k with
      | .none => ∃ c, (∀ w, Cl w → stillAt P o a w c) ∧ K w0 F (a.put o.dst c)
      | .some (.some S) => (∀ w, Rel w0 w → Cl w → Pre ops T F k w → relAt P o a w (fun v w' => Rel w w' ∧ Cl w' ∧ S v w')) ∧ ∀ v, K w0 (upd F k (S v)) (a.put o.dst v)
      | .some .none => ∀ w, Rel w0 w → Cl w → All F w → o.wp P a w (fun a' w' => Cl w' ∧ K w' none a') Q ∨ (o.asks P a w ∧ LetsOut Q)
    else K w0 F (a.put o.dst undef)

end

def isB (kd : Nat → Kd) (k : Nat) : Bool := match kd k with | .some (.some _) => true | _ => false
def isC (kd : Nat → Kd) (k : Nat) : Bool := match kd k with | .some .none => true | _ => false
/-- Between a barrier and an operation of kind (b) the order is fixed. -/
def barB (ops : Array Oper) (T : Array Nat) (B C : List Nat) : Bool := C.all fun j => B.all fun i => bef ops T j i || bef ops T i j
section
variable {P : Program} {ops : Array Oper} {T : Array Nat} {Rel : World → World → Prop} {Cl : World → Prop} {kd : Nat → Kd} {Q : Exit → Act → World → Prop}

section steps
variable {w0 : World} {o : Oper} {rest : List (Nat × Oper)} {k : Nat} {F : Facts} {a : Act}
end steps
end
/-- The kinds: the listed specifications; the listed barriers; all else is of kind (a). -/
def kdOf {Rel : World → World → Prop} (Bs : List (Nat × Sp Rel)) (Cs : List Nat) (k : Nat) : Kd := if Cs.contains k then .some .none else (spOf Bs k).map .some
theorem kdOf_C {Rel : World → World → Prop} (Bs : List (Nat × Sp Rel)) (Cs : List Nat) (k : Nat) : isC (kdOf Bs Cs) k = Cs.contains k := by
  unfold isC kdOf
  cases h : Cs.contains k
  · simp only [Bool.false_eq_true, if_false]
    cases spOf Bs k <;> rfl
  · rfl
theorem kdOf_B {Rel : World → World → Prop} (Bs : List (Nat × Sp Rel)) (Cs : List Nat) (k : Nat) (h : isB (kdOf Bs Cs) k = true) : k ∈ Bs.map (·.1) := by
  unfold isB kdOf at h
  cases h' : Cs.contains k
  · rw [h'] at h
    simp only [Bool.false_eq_true, if_false] at h
    clear h'
    induction Bs with
    | nil => simp [spOf] at h
    | cons p Bs ih =>
      obtain ⟨i, s⟩ := p
      unfold spOf at h
      by_cases hk : k = i
      · simp [hk]
      · rw [if_neg hk] at h
        simp only [List.map_cons, List.mem_cons]
        exact .inr (ih h)
  · rw [h'] at h; simp at h
theorem kdOf_sp {Rel : World → World → Prop} (Bs : List (Nat × Sp Rel)) (Cs : List Nat) (k : Nat) (S : Value → World → Prop) (h : kdOf Bs Cs k = .some (.some S)) : ∀ v w w', Rel w w' → S v w → S v w' := by
  unfold kdOf at h
  split at h
  · cases h
  · cases hs : spOf Bs k with
    | none => rw [hs] at h; cases h
    | some S' =>
      rw [hs] at h
      injection h with h
      injection h with h
      subst h
      exact spOf_stable Bs k S' hs
/-- The operations in a lawful order of their own. -/
def inOrd (l : List Oper) (ord : List Nat) : List (Nat × Oper) := ord.filterMap fun k => (l[k]?).map fun o => (k, o)
theorem inOrd_mem {l : List Oper} {ord : List Nat} : ∀ p ∈ inOrd l ord, l.toArray[p.1]? = .some p.2 := by
  intro p hp
  unfold inOrd at hp
  rw [List.mem_filterMap] at hp
  obtain ⟨k, _, hk⟩ := hp
  cases h : l[k]? with
  | none => rw [h] at hk; cases hk
  | some o => rw [h] at hk; injection hk with hk; subst hk; simpa using h
end Go.Proofs.YtnemipgmkenemaaDoor.Rg

namespace Go.Proofs.YtnemipgmkenemaaDoor
set_option linter.unusedSimpArgs false
set_option linter.unusedVariables false
open Go Go.RowKit

/-- The pen at block p has written xs; its bytes lie in block g. -/
def PenAt (w : World) (p : Nat) (g : Option Nat) (xs : List UInt8) : Prop := ∃ sv, Blk w p [sv] ∧ w.ownsRow 0 5 1 sv xs.length (xs.map B) ∧ sv.ownBlock = g ∧ g ≠ some p
/-- The pen's own blocks alone have changed; its bytes lie where they lay, or in a new block. -/
def PenStep (p : Nat) (w : World) (g : Option Nat) (w' : World) (g' : Option Nat) : Prop := MutO (fun k => k = p ∨ g = some k) w w' ∧ (g' = g ∨ ∃ k, g' = some k ∧ w.heap.size ≤ k)
theorem PenStep.refl (p : Nat) (w : World) (g : Option Nat) : PenStep p w g w g := ⟨MutO.refl _ _, .inl rfl⟩
theorem PenStep.trans {p : Nat} {w w1 w2 : World} {g g1 g2 : Option Nat} (h : PenStep p w g w1 g1) (k : PenStep p w1 g1 w2 g2) : PenStep p w g w2 g2 := by
  refine ⟨h.1.trans k.1 fun i hi hf => hf.imp id fun e => ?_, ?_⟩
  · rcases h.2 with h2 | ⟨j, h2, h3⟩
    · rw [← h2]; exact e
    · rw [h2] at e; injection e with e; omega
  · rcases k.2 with rfl | ⟨j, h2, h3⟩
    · exact h.2
    · exact .inr ⟨j, h2, Nat.le_trans h.1.size h3⟩
theorem PenStep.ext {p : Nat} {w0 w w' : World} {g g' : Option Nat} (h : PenStep p w g w' g') (hx : Ext w0 w) (hp : w0.heap.size ≤ p) (hg : ∀ k, g = some k → w0.heap.size ≤ k) : Ext w0 w' ∧ ∀ k, g' = some k → w0.heap.size ≤ k := by
  refine ⟨h.1.ext hx fun k hk => ?_, fun k hk => ?_⟩
  · rcases hk with rfl | hk
    · exact hp
    · exact hg k hk
  · rcases h.2 with h2 | ⟨j, h2, h3⟩
    · exact hg k (h2 ▸ hk)
    · rw [h2] at hk; injection hk with hk; subst hk; exact Nat.le_trans hx.le h3
theorem PenAt.cell {w : World} {p : Nat} {g : Option Nat} {xs : List UInt8} (h : PenAt w p g xs) : ∃ sv, w.cell? ⟨p, 0, none⟩ = some sv ∧ w.frozen? ⟨p, 0, none⟩ = false ∧ w.ownsRow 0 5 1 sv xs.length (xs.map B) ∧ sv.ownBlock = g ∧ g ≠ some p ∧ p < w.heap.size := by
  obtain ⟨sv, h1, h2, h3, h4⟩ := h
  exact ⟨sv, h1.cell 0, h1.free 0, h2, h3, h4, h1.lt⟩
/-- The bytes of a number. -/
def numF : Nat → Nat → List UInt8
  | 0, _ => []
  | f + 1, n => if n < 128 then [UInt8.ofNat n] else UInt8.ofNat (128 + n % 128) :: numF f (n / 128)
def numB (n : Nat) : List UInt8 := numF 10 n
end Go.Proofs.YtnemipgmkenemaaDoor

namespace Go.Proofs.YtnemipgmkenemaaDoor
set_option linter.unusedSimpArgs false
set_option linter.unusedVariables false
open Go Go.RowKit
end Go.Proofs.YtnemipgmkenemaaDoor

namespace Go.Proofs.YtnemipgmkenemaaDoor
set_option linter.unusedSimpArgs false
set_option linter.unusedVariables false
open Go Go.RowKit
/-- The reader at block r, not over, has xs left. -/
def RdAt (z : Nat → Prop) (w : World) (r : Nat) (xs : List UInt8) : Prop := ∃ a n c, Blk w r [.slice a n c, .bool false] ∧ By w a n xs ∧ (n ≤ c ∧ c ≤ maxLen) ∧ ∀ ad, a = some ad → ad.block ≠ r ∧ z ad.block
def RdAny (w : World) (r : Nat) : Prop := ∃ a n c, Blk w r [.slice a n c, .bool false]
/-- It is over. -/
def RdOver (w : World) (r : Nat) : Prop := ∃ a n c, Blk w r [.slice a n c, .bool true]
theorem RdAt.mono {z z' : Nat → Prop} {w : World} {r : Nat} {xs : List UInt8} (h : RdAt z w r xs) (hz : ∀ k, z k → z' k) : RdAt z' w r xs :=
  let ⟨a, n, c, h1, h2, h3, h4⟩ := h; ⟨a, n, c, h1, h2, h3, fun ad had => ⟨(h4 ad had).1, hz _ (h4 ad had).2⟩⟩
theorem RdAt.any {z : Nat → Prop} {w : World} {r : Nat} {xs : List UInt8} (h : RdAt z w r xs) : RdAny w r := let ⟨a, n, c, h1, _⟩ := h; ⟨a, n, c, h1⟩
def rdFp (r : Nat) : Nat → Prop := fun k => k = r
end Go.Proofs.YtnemipgmkenemaaDoor

namespace Go.Proofs.YtnemipgmkenemaaDoor
set_option linter.unusedSimpArgs false
set_option linter.unusedVariables false
open Go Go.RowKit
end Go.Proofs.YtnemipgmkenemaaDoor

namespace Go.Proofs.YtnemipgmkenemaaDoor
set_option linter.unusedSimpArgs false
set_option linter.unusedVariables false
open Go Go.RowKit
end Go.Proofs.YtnemipgmkenemaaDoor

namespace Go.Proofs.YtnemipgmkenemaaDoor
set_option linter.unusedSimpArgs false
set_option linter.unusedVariables false
open Go Go.RowKit
/-- A pen that has written xs. -/
def penI (p : Nat) (xs : List UInt8) : It where
  P e _ w := e p ∧ ∃ g, PenAt w p g xs ∧ ∀ k, g = some k → e k
  st := by
    rintro e s w w' ⟨h1, g, ⟨sv, ⟨ty, h2⟩, h3, h4, h5⟩, h6⟩ hag
    exact ⟨h1, g, ⟨sv, ⟨ty, by rw [hag p (.inl h1)]; exact h2⟩, row_agree h3 fun k hk => hag k (.inl (h6 k (by rw [← h4]; exact hk))), h4, h5⟩, h6⟩
  facts _ := True
  ok := fun _ => trivial
theorem By.agree {w w' : World} {a : Option Addr} {n : Nat} {xs : List UInt8} (h : By w a n xs) (hag : 0 < n → ∀ ad, a = some ad → w'.heap[ad.block]? = w.heap[ad.block]?) : By w' a n xs := by
  refine ⟨h.1, fun h0 => ?_⟩
  obtain ⟨b, off, rfl, hc⟩ := h.2 h0
  refine ⟨b, off, rfl, fun i x hi => ?_⟩
  have := hc i x hi
  have h9 : w'.heap[b]? = w.heap[b]? := hag h0 ⟨b, off, none⟩ rfl
  unfold byteR at *
  rw [World.cell?_of_block (w := w) h9]
  exact this
/-- A reader that has xs left. -/
def rdI (r : Nat) (xs : List UInt8) : It where
  P e s w := e r ∧ RdAt s w r xs
  st := by
    rintro e s w w' ⟨h1, a, n, c, ⟨ty, h2⟩, h3, h4, h5⟩ hag
    exact ⟨h1, a, n, c, ⟨ty, by rw [hag r (.inl h1)]; exact h2⟩, h3.agree fun _ ad had => hag _ (.inr (h5 ad had).2), h4, h5⟩
  facts _ := True
  ok := fun _ => trivial
/-- A reader, whatever is left. -/
def rdAnyI (r : Nat) : It where
  P e _ w := e r ∧ RdAny w r
  st := by
    rintro e s w w' ⟨h1, a, n, c, ⟨ty, h2⟩⟩ hag
    exact ⟨h1, a, n, c, ⟨ty, by rw [hag r (.inl h1)]; exact h2⟩⟩
  facts _ := True
  ok := fun _ => trivial
def rdOverI (r : Nat) : It where
  P e _ w := e r ∧ RdOver w r
  st := by
    rintro e s w w' ⟨h1, a, n, c, ⟨ty, h2⟩⟩ hag
    exact ⟨h1, a, n, c, ⟨ty, by rw [hag r (.inl h1)]; exact h2⟩⟩
  facts _ := True
  ok := fun _ => trivial
section
variable {fr al : Nat → Prop} {w0 w w' : World} {L : List It}
theorem nft : (∀ p xs w, (penI p xs).facts w = True) ∧ (∀ r xs w, (rdI r xs).facts w = True) ∧ (∀ r w, (rdAnyI r).facts w = True) ∧ (∀ r w, (rdOverI r).facts w = True) := ⟨fun _ _ _ => rfl, fun _ _ _ => rfl, fun _ _ => rfl, fun _ _ => rfl⟩
theorem PenAt.inj {w : World} {p : Nat} {g g' : Option Nat} {xs ys : List UInt8} (h : PenAt w p g xs) (h' : PenAt w p g' ys) : g = g' := by
  obtain ⟨sv, h1, _, h2, _⟩ := h
  obtain ⟨sv', h1', _, h2', _⟩ := h'
  have e1 := h1.cell 0
  have e2 := h1'.cell 0
  rw [e1] at e2
  have : sv = sv' := by simpa using e2
  subst this
  rw [← h2, ← h2']
/-- Two items, one of which is one's own, lie apart. -/
theorem Own.get2 (st : Own fr al w0 L w) {i j : Nat} {I J : It} (hi : L[i]? = some I) (hj : L[j]? = some J) (hij : i ≠ j) : ∃ e s e' s', I.P e s w ∧ J.P e' s' w ∧ (∀ b, e b → ¬ e' b ∧ ¬ s' b) ∧ ∀ b, e' b → ¬ s b := by
  obtain ⟨hm, e, s, F⟩ := st
  exact ⟨_, _, _, _, F.holds i I hi, F.holds j J hj, fun b hb => ⟨F.ee i j b (get_lt hi) (get_lt hj) hij hb, F.es i j b (get_lt hi) (get_lt hj) hb⟩, fun b hb => F.es j i b (get_lt hj) (get_lt hi) hb⟩
end

end Go.Proofs.YtnemipgmkenemaaDoor

namespace Go.Proofs.YtnemipgmkenemaaDoor
set_option linter.unusedSimpArgs false
set_option linter.unusedVariables false
open Go Go.RowKit
end Go.Proofs.YtnemipgmkenemaaDoor

namespace Go.Proofs.YtnemipgmkenemaaDoor
set_option linter.unusedSimpArgs false
set_option linter.unusedVariables false
open Go Go.RowKit
end Go.Proofs.YtnemipgmkenemaaDoor

namespace Go.Proofs.YtnemipgmkenemaaDoor
set_option linter.unusedSimpArgs false
set_option linter.unusedVariables false
open Go Go.RowKit
section
variable {fr al : Nat → Prop} {w0 w w' : World} {L : List It}
/-- The frame rule for all items but the last one. -/
theorem Own.pre {J : It} (st : Own fr al w0 (L ++ [J]) w) : ∃ fr' al' : Nat → Prop, Own fr' al' w L w ∧ ∀ M w', Own fr' al' w M w' → Own fr al w0 (M ++ [J]) w' := by
  obtain ⟨hm, e, s, F⟩ := st
  have hl : ∀ {j}, j < L.length → j < (L ++ [J]).length := fun h => by simp; omega
  have hn : L.length < (L ++ [J]).length := by simp
  refine ⟨fun b => ∃ i, i < L.length ∧ e i b, fun b => ∃ i, i < L.length ∧ (e i b ∨ s i b), ⟨MutO.refl _ _, e, s, fun j I hj => F.holds j I (by rw [List.getElem?_append_left (get_lt hj)]; exact hj), fun j b hj => F.lo j b (hl hj), fun j b hj hb _ => ⟨j, hj, hb⟩, fun j b hj hb _ => ⟨j, hj, hb⟩,
    fun j k b hj hk => F.ee j k b (hl hj) (hl hk), fun j k b hj hk => F.es j k b (hl hj) (hl hk)⟩, ?_⟩
  rintro M w' ⟨hm', eM, sM, G⟩
  have hle := hm.size
  have z : ∀ {j}, j < (M ++ [J]).length → j < M.length ∨ j = M.length := fun {j} h => by simp at h; omega
  have hfar : ∀ {b}, (e L.length b ∨ s L.length b) → ¬ ∃ i, i < L.length ∧ e i b := fun {b} hb ⟨i, hi, he⟩ => by
    rcases hb with hb | hb
    · exact F.ee i L.length b (hl hi) hn (by omega) he hb
    · exact F.es i L.length b (hl hi) hn he hb
  have hfar' : ∀ {b}, e L.length b → ¬ ∃ i, i < L.length ∧ (e i b ∨ s i b) := fun {b} hb ⟨i, hi, he⟩ => by
    rcases he with he | he
    · exact F.ee i L.length b (hl hi) hn (by omega) he hb
    · exact F.es L.length i b hn (hl hi) hb he
  refine ⟨hm.trans hm' fun b hb ⟨i, hi, he⟩ => F.fr i b (hl hi) he hb, fun j => if j < M.length then eM j else e L.length, fun j => if j < M.length then sM j else s L.length, fun j I hj => ?_, fun j b hj hb => ?_, fun j b hj hb hb0 => ?_, fun j b hj hb hb0 => ?_, fun j k b hj hk hjk hb hb' => ?_, fun j k b hj hk hb hb' => ?_⟩
  · rcases z (get_lt hj) with h | h
    · rw [List.getElem?_append_left h] at hj
      simp only [h, if_true]
      exact G.holds j I hj
    · subst h
      simp at hj
      subst hj
      simp only [Nat.lt_irrefl, if_false]
      exact J.st (F.holds L.length J (by simp)) fun b hb => hm'.block b (F.lo _ b hn hb) (hfar hb)
  · rcases z hj with h | h
    · simp only [h, if_true] at hb
      exact G.lo j b h hb
    · subst h
      simp only [Nat.lt_irrefl, if_false] at hb
      exact Nat.lt_of_lt_of_le (F.lo _ b hn hb) hm'.size
  · rcases z hj with h | h
    · simp only [h, if_true] at hb
      obtain ⟨i, hi, he⟩ := G.fr j b h hb (by omega)
      exact F.fr i b (hl hi) he hb0
    · subst h
      simp only [Nat.lt_irrefl, if_false] at hb
      exact F.fr _ b hn hb hb0
  · rcases z hj with h | h
    · simp only [h, if_true] at hb
      obtain ⟨i, hi, he⟩ := G.al j b h hb (by omega)
      exact F.al i b (hl hi) he hb0
    · subst h
      simp only [Nat.lt_irrefl, if_false] at hb
      exact F.al _ b hn hb hb0
  · rcases z hj with h | h <;> rcases z hk with h' | h'
    · simp only [h, h', if_true] at hb hb'
      exact G.ee j k b h h' hjk hb hb'
    · subst h'
      simp only [h, if_true, Nat.lt_irrefl, if_false] at hb hb'
      exact hfar (.inl hb') (G.fr j b h hb (F.lo _ b hn (.inl hb')))
    · subst h
      simp only [h', if_true, Nat.lt_irrefl, if_false] at hb hb'
      exact hfar (.inl hb) (G.fr k b h' hb' (F.lo _ b hn (.inl hb)))
    · omega
  · rcases z hj with h | h <;> rcases z hk with h' | h'
    · simp only [h, h', if_true] at hb hb'
      exact G.es j k b h h' hb hb'
    · subst h'
      simp only [h, if_true, Nat.lt_irrefl, if_false] at hb hb'
      exact hfar (.inr hb') (G.fr j b h hb (F.lo _ b hn (.inr hb')))
    · subst h
      simp only [h', if_true, Nat.lt_irrefl, if_false] at hb hb'
      exact hfar' hb (G.al k b h' (.inr hb') (F.lo _ b hn (.inl hb)))
    · subst h
      simp only [h', Nat.lt_irrefl, if_false] at hb hb'
      exact F.es _ _ b hn hn hb hb'
end
/-- Two items in one. -/
def sepI (I J : It) : It where
  P e s w := ∃ e1 e2 s1 s2 : Nat → Prop, I.P e1 s1 w ∧ J.P e2 s2 w ∧ (∀ b, e1 b → e b) ∧ (∀ b, e2 b → e b) ∧ (∀ b, s1 b → s b) ∧ (∀ b, s2 b → s b) ∧ ∀ b, e1 b → ¬ e2 b
  st := by
    rintro e s w w' ⟨e1, e2, s1, s2, h1, h2, h3, h4, h5, h6, h7⟩ hag
    exact ⟨e1, e2, s1, s2, I.st h1 fun b hb => hag b (hb.imp (h3 b) (h5 b)), J.st h2 fun b hb => hag b (hb.imp (h4 b) (h6 b)), h3, h4, h5, h6, h7⟩
  facts w := I.facts w ∧ J.facts w
  ok := fun ⟨_, _, _, _, h1, h2, _⟩ => ⟨I.ok h1, J.ok h2⟩
section
variable {fr al : Nat → Prop} {w0 w w' : World} {L : List It}
theorem Own.split (st : Own fr al w0 L w) {i : Nat} {I J : It} (hi : L[i]? = some (sepI I J)) : Own fr al w0 (L.set i I ++ [J]) w := by
  obtain ⟨hm, e, s, G⟩ := st
  obtain ⟨e1, e2, s1, s2, h1, h2, h3, h4, h5, h6, h7⟩ := G.holds i _ hi
  have hil := get_lt hi
  have z : ∀ {j}, j < (L.set i I ++ [J]).length → j < L.length ∨ j = L.length := fun {j} h => by simp at h; omega
  have hle : ∀ j b, (if j = L.length then e2 b else if j = i then e1 b else e j b) → e (if j = L.length then i else j) b := fun j b hb => by
    by_cases h : j = L.length
    · simp only [h, if_true] at hb ⊢; exact h4 b hb
    · simp only [h, if_false] at hb ⊢
      by_cases h' : j = i
      · simp only [h', if_true] at hb ⊢; exact h3 b hb
      · simp only [h', if_false] at hb; exact hb
  have hls : ∀ j b, (if j = L.length then s2 b else if j = i then s1 b else s j b) → s (if j = L.length then i else j) b := fun j b hb => by
    by_cases h : j = L.length
    · simp only [h, if_true] at hb ⊢; exact h6 b hb
    · simp only [h, if_false] at hb ⊢
      by_cases h' : j = i
      · simp only [h', if_true] at hb ⊢; exact h5 b hb
      · simp only [h', if_false] at hb; exact hb
  have hlt : ∀ {j}, j < (L.set i I ++ [J]).length → (if j = L.length then i else j) < L.length := fun {j} hj => by
    rcases z hj with h | h
    · rw [if_neg (by omega)]; exact h
    · rw [if_pos h]; exact hil
  refine ⟨hm, fun j b => if j = L.length then e2 b else if j = i then e1 b else e j b, fun j b => if j = L.length then s2 b else if j = i then s1 b else s j b, fun j K hj => ?_, fun j b hj hb => G.lo _ b (hlt hj) (hb.imp (hle j b) (hls j b)), fun j b hj hb => G.fr _ b (hlt hj) (hle j b hb),
    fun j b hj hb => G.al _ b (hlt hj) (hb.imp (hle j b) (hls j b)), fun j k b hj hk hjk hb hb' => ?_, fun j k b hj hk hb hb' => G.es _ _ b (hlt hj) (hlt hk) (hle j b hb) (hls k b hb')⟩
  · rcases z (get_lt hj) with h | h
    · rw [List.getElem?_append_left (by simpa using h), List.getElem?_set] at hj
      have hn : j ≠ L.length := by omega
      by_cases hji : j = i
      · subst hji
        simp [hil] at hj
        subst hj
        simpa [hn] using h1
      · rw [if_neg (Ne.symm hji)] at hj
        simpa [hn, hji] using G.holds j K hj
    · subst h
      simp at hj
      subst hj
      simpa using h2
  · rcases z hj with h | h <;> rcases z hk with h' | h'
    · have hn : j ≠ L.length := by omega
      have hn' : k ≠ L.length := by omega
      have q1 := hle j b hb
      have q2 := hle k b hb'
      simp only [hn, hn', if_false] at q1 q2
      exact G.ee j k b h h' hjk q1 q2
    · subst h'
      have hn : j ≠ L.length := by omega
      by_cases hji : j = i
      · subst hji
        simp only [hn, if_false, if_true] at hb hb'
        exact h7 b hb hb'
      · have q1 := hle j b hb
        have q2 := hle L.length b hb'
        simp only [hn, if_false, if_true] at q1 q2
        exact G.ee j i b h hil hji q1 q2
    · subst h
      have hn : k ≠ L.length := by omega
      by_cases hji : k = i
      · subst hji
        simp only [hn, if_false, if_true] at hb hb'
        exact h7 b hb' hb
      · have q1 := hle L.length b hb
        have q2 := hle k b hb'
        simp only [hn, if_false, if_true] at q1 q2
        exact G.ee i k b hil h' (Ne.symm hji) q1 q2
    · omega
end

end Go.Proofs.YtnemipgmkenemaaDoor

namespace Go.Proofs.YtnemipgmkenemaaDoor.Rg4
set_option linter.unusedSimpArgs false
set_option linter.unusedVariables false
open Go Go.Proofs.YtnemipgmkenemaaDoor.Rg

/-- none: kind (a); some none: kind (c); some (some S): kind (b). -/
abbrev Kd := Option (Option (Value → World → Prop))

section
variable (P : Program) (ops : Array Oper) (T : Array Nat) (Rel : World → World → Prop) (ld : Nat → Bool) (Cl : World → Prop) (kd : Nat → Kd) (Q : Exit → Act → World → Prop)

def Inh4 (w0 : World) (F : Facts) : Prop := ∃ w, Rel w0 w ∧ Cl w ∧ All F w

def op4 (k : Nat) (K : World → Facts → Act → Prop) (w0 : World) (F : Facts) (a : Act) : Prop :=
  match ops[k]? with
  | .none => K w0 F a
  | .some o =>
    if Region.wanted o (yielded ops a.tmps) = true then
      match kd k with
      | .none => ∃ c, (∀ w, (ld k = true → Rel w0 w) → Cl w → stillAt P o a w c) ∧ K w0 F (a.put o.dst c)
      | .some (.some S) => (∀ w, Rel w0 w → Cl w → Pre ops T F k w → relAt P o a w (fun v w' => Rel w w' ∧ Cl w' ∧ S v w')) ∧ ∀ v, K w0 (upd F k (S v)) (a.put o.dst v)
      | .some .none => ∀ w, Rel w0 w → Cl w → All F w → o.wp P a w (fun a' w' => Cl w' ∧ K w' none a') Q ∨ (o.asks P a w ∧ LetsOut Q)
    else K w0 F (a.put o.dst undef)

def wpAny4 : Nat → Array Bool → World → Facts → Act → Prop
  | 0, listed, w0, F, a => Inh4 Rel Cl w0 F → Region.ready .any ops listed = [] ∧ ∀ w, Rel w0 w → Cl w → All F w → Q .normal a w
  | f + 1, listed, w0, F, a => Inh4 Rel Cl w0 F → (Region.ready .any ops listed = [] → ∀ w, Rel w0 w → Cl w → All F w → Q .normal a w) ∧
      ∀ i ∈ Region.ready .any ops listed, op4 P ops T Rel ld Cl kd Q i (wpAny4 f (listed.setIfInBounds i true)) w0 F a

/-- THE WALK IN THE ORDER OF THE TEXT. -/
def wp4 : List (Nat × Oper) → World → Facts → Act → Prop
  | [], w0, F, a => ∀ w, Rel w0 w → Cl w → All F w → Q .normal a w
  | (k, o) :: rest, w0, F, a =>
    if Region.wanted o (yielded ops a.tmps) = true then
      match kd k with
      | .none => ∃ c, (∀ w, (ld k = true → Rel w0 w) → Cl w → stillAt P o a w c) ∧ wp4 rest w0 F (a.put o.dst c)
      | .some (.some S) => (∀ w, Rel w0 w → Cl w → Pre ops T F k w → relAt P o a w (fun v w' => Rel w w' ∧ Cl w' ∧ S v w')) ∧
          ∀ v, (∃ w, Rel w0 w ∧ Cl w ∧ S v w) → wp4 rest w0 (upd F k (S v)) (a.put o.dst v)
      | .some .none => ∀ w, Rel w0 w → Cl w → All F w → o.wp P a w (fun a' w' => Cl w' ∧ wp4 rest w' none a') Q ∨ (o.asks P a w ∧ LetsOut Q)
    else wp4 rest w0 F (a.put o.dst undef)
end

def isB (kd : Nat → Kd) (k : Nat) : Bool := match kd k with | .some (.some _) => true | _ => false
def isC (kd : Nat → Kd) (k : Nat) : Bool := match kd k with | .some .none => true | _ => false
/-- Between a barrier and an operation of kind (b) the order is fixed. -/
def barB (ops : Array Oper) (T : Array Nat) (B C : List Nat) : Bool := C.all fun j => B.all fun i => bef ops T j i || bef ops T i j
def lex4 (ops : Array Oper) (C : List Nat) : List Nat → Array Bool → Bool
  | [], listed => (Region.ready .any ops listed).isEmpty
  | k :: ks, listed => (if C.contains k then decide (Region.ready .any ops listed = [k]) else (Region.ready .any ops listed).contains k && Region.free .any ops listed k) && lex4 ops C ks (listed.setIfInBounds k true)

section
variable {P : Program} {ops : Array Oper} {T : Array Nat} {Rel : World → World → Prop} {ld : Nat → Bool} {Cl : World → Prop} {kd : Nat → Kd} {Q : Exit → Act → World → Prop}

theorem inh4_upd_mono {w0 : World} {F : Facts} {j k : Nat} {S S' : World → Prop} (h : Inh4 Rel Cl w0 (upd (upd F j S') k S)) : Inh4 Rel Cl w0 (upd F k S) :=
  let ⟨w, h1, h0, h2⟩ := h; ⟨w, h1, h0, fun i => ⟨(h2 i).1.1, (h2 i).2⟩⟩
theorem inh4_upd {w0 : World} {F : Facts} {k : Nat} {S : World → Prop} (h : Inh4 Rel Cl w0 (upd F k S)) : Inh4 Rel Cl w0 F := let ⟨w, h1, h0, h2⟩ := h; ⟨w, h1, h0, fun i => (h2 i).1⟩
theorem wpAny4_of_inh {f : Nat} {listed : Array Bool} {w0 : World} {F : Facts} {a : Act} (h : Inh4 Rel Cl w0 F → wpAny4 P ops T Rel ld Cl kd Q f listed w0 F a) : wpAny4 P ops T Rel ld Cl kd Q f listed w0 F a := by
  cases f with
  | zero => intro hi; exact h hi hi
  | succ f => intro hi; exact h hi hi

/-- The walk over any order is one. -/
theorem wpAny_of_4 (hrefl : ∀ w, Rel w w) (htr : ∀ a b c, Rel a b → Rel b c → Rel a c) (hsp : ∀ k S, kd k = .some (.some S) → ∀ v w w', Rel w w' → S v w → S v w') :
    ∀ (f : Nat) (listed : Array Bool) (w0 : World) (F : Facts) (a : Act) (w : World), StableF Rel F → Rel w0 w → Cl w → All F w →
    wpAny4 P ops T Rel ld Cl kd Q f listed w0 F a → wpAny P .any ops Q f listed a w
  | 0, _, _, _, _, w, _, hw, hcl, hF, h => let h' := h ⟨w, hw, hcl, hF⟩; ⟨h'.1, h'.2 w hw hcl hF⟩
  | f + 1, listed, w0, F, a, w, hst, hw, hcl, hF, h => by
    have h' := h ⟨w, hw, hcl, hF⟩
    refine ⟨fun h0 => h'.1 h0 w hw hcl hF, fun i hi => ?_⟩
    have h1 := h'.2 i hi
    unfold op4 at h1
    unfold wpOp
    cases ho : ops[i]? with
    | none => simp only [ho] at h1; exact wpAny_of_4 hrefl htr hsp f _ w0 F a w hst hw hcl hF h1
    | some o =>
      simp only [ho] at h1
      by_cases hwant : Region.wanted o (yielded ops a.tmps) = true
      · simp only [hwant, if_true] at h1 ⊢
        cases hs : kd i with
        | none =>
          simp only [hs] at h1
          obtain ⟨c, h2, h3⟩ := h1
          left
          unfold Oper.wp
          rw [show (execOp a.eval o).run P w = .ok (.value c) w from h2 w (fun _ => hw) hcl]
          exact wpAny_of_4 hrefl htr hsp f _ w0 F _ w hst hw hcl hF h3
        | some k2 =>
          cases k2 with
          | none =>
            simp only [hs] at h1
            refine (h1 w hw hcl hF).imp (Oper.wp_mono fun a' w' ⟨hcl', h3⟩ => ?_) id
            exact wpAny_of_4 hrefl htr hsp f _ w' none a' w' (fun _ _ _ _ _ => trivial) (hrefl _) hcl' (fun _ => trivial) h3
          | some S =>
            simp only [hs] at h1
            obtain ⟨h2, h3⟩ := h1
            left
            refine wp_of_rel (h2 w hw hcl (fun i _ => hF i)) fun v w' ⟨hr, hcl', hS⟩ => ?_
            exact wpAny_of_4 hrefl htr hsp f _ w0 _ _ w' (stable_upd hst (hsp i S hs v)) (htr _ _ _ hw hr) hcl' (fun k => ⟨hst k w w' hr (hF k), fun _ => hS⟩) (h3 v)
      · simp only [hwant] at h1 ⊢
        exact wpAny_of_4 hrefl htr hsp f _ w0 F _ w hst hw hcl hF h1

/-- A barrier, put ahead of an operation of kind (a) that is apart from it. -/
theorem wpOp_put4 {j : Nat} {oi oj : Oper} {v : Value} (hj : ops[j]? = .some oj) (hap : oi.apart ops oj = true) (hsj : ∀ cs b, oj.op ≠ .select cs b)
    (hQ : ∀ c a w, Q (.panic c) (a.put oi.dst v) w → Q (.panic c) a w) {K : Act → World → Prop} {a : Act} {w : World}
    (h : oj.wp P (a.put oi.dst v) w K Q ∨ (oj.asks P (a.put oi.dst v) w ∧ LetsOut Q)) :
    oj.wp P a w (fun a' w' => (∃ u D, a' = ({ a with defers := D } : Act).put oj.dst u) ∧ K (a'.put oi.dst v) w') Q ∨ (oj.asks P a w ∧ LetsOut Q) := by
  obtain ⟨h1, h2, h3⟩ := Oper.apart_spec hap
  rcases h with h | ⟨hasks, hlets⟩
  case inr => exact .inr ⟨by unfold Oper.asks at *; rw [execOp_put oj hsj a oi.dst v h1] at hasks; exact hasks, hlets⟩
  refine .inl ?_
  unfold Oper.wp at *
  rw [execOp_put oj hsj a oi.dst v h1] at h
  generalize (execOp a.eval oj).run P w = r at *
  cases r with
  | ok n w' =>
    cases n <;> simp only [Oper.upon] at h ⊢
    case value u => exact ⟨⟨u, a.defers, rfl⟩, by rw [← Act.put_comm a v u h2]; exact h⟩
    case skip => exact ⟨⟨undef, a.defers, rfl⟩, by rw [← Act.put_comm a v undef h2]; exact h⟩
    case defer d =>
      refine ⟨⟨undef, d :: a.defers, rfl⟩, ?_⟩
      rw [← Act.put_comm _ v undef h2, ← Act.put_defers]
      exact h
    case enter f args =>
      refine Calls.mono h fun e w'' he => ?_
      cases e with
      | returned u => exact ⟨⟨u, a.defers, rfl⟩, by rw [← Act.put_comm a v u h2]; exact he⟩
      | panicked c => exact hQ _ _ _ he
      | outgrown => exact he
    case row row args => exact Rows.mono h fun u w'' he => ⟨⟨u, a.defers, rfl⟩, by rw [← Act.put_comm a v u h2]; exact he⟩
  | halt x w' =>
    cases x <;> simp only [Oper.upon] at h ⊢
    case panic u => exact hQ _ _ _ h

/-- **An operation of kind (a) or (b) that may come up now may be taken first.** -/
theorem wpAny4_first (htr : ∀ a b c, Rel a b → Rel b c → Rel a c) (hsp : ∀ k S, kd k = .some (.some S) → ∀ v w w', Rel w w' → S v w → S v w') (hB : befOk ops T = true)
    (hbar : ∀ i j, (isB kd i = true ∨ ld i = true) → isC kd j = true → bef ops T j i = true ∨ bef ops T i j = true) (hQ : ∀ c (a : Act) x v w, Q (.panic c) (a.put x v) w → Q (.panic c) a w)
    {i : Nat} {oi : Oper} (hi : ops[i]? = .some oi) (hic : isC kd i = false) (hsel : ∀ (j : Nat) (o : Oper) cs b, ops[j]? = .some o → o.op ≠ .select cs b) :
    ∀ (f : Nat) (listed : Array Bool) (w0 : World) (F : Facts) (a : Act), StableF Rel F → Closed ops T listed →
      (∀ j oj, ops[j]? = .some oj → j ≠ i → listed.getD j true = false → (∀ e ∈ oj.after, Region.binds .any e = true → e.on ≠ i) → oi.apart ops oj = true) →
      i ∈ Region.ready .any ops listed → op4 P ops T Rel ld Cl kd Q i (wpAny4 P ops T Rel ld Cl kd Q f (listed.setIfInBounds i true)) w0 F a →
      wpAny4 P ops T Rel ld Cl kd Q (f + 1) listed w0 F a := by
  intro f
  induction f with
  | zero =>
    intro listed w0 F a hst hc _ hr H hinh
    refine ⟨fun h => (by rw [h] at hr; cases hr), fun j hj => ?_⟩
    by_cases hji : j = i
    · subst hji; exact H
    · exfalso
      have hrj := ready_mono hj hji
      obtain ⟨w, hw, hcl, hF⟩ := hinh
      unfold op4 at H
      simp only [hi] at H
      by_cases hwant : Region.wanted oi (yielded ops a.tmps) = true
      · simp only [hwant, if_true] at H
        cases hs : kd i with
        | none =>
          simp only [hs] at H
          obtain ⟨c, h2, h3⟩ := H
          have := (h3 ⟨w, hw, hcl, hF⟩).1
          rw [this] at hrj; cases hrj
        | some k2 =>
          cases k2 with
          | none => unfold isC at hic; rw [hs] at hic; cases hic
          | some S =>
            simp only [hs] at H
            obtain ⟨h2, h3⟩ := H
            obtain ⟨v, w', hr', hcl', hS⟩ := relUpon_exists (h2 w hw hcl (fun i _ => hF i))
            have := (h3 v ⟨w', htr _ _ _ hw hr', hcl', fun k => ⟨hst k w w' hr' (hF k), fun _ => hS⟩⟩).1
            rw [this] at hrj; cases hrj
      · simp only [hwant] at H
        have := (H ⟨w, hw, hcl, hF⟩).1
        rw [this] at hrj; cases hrj
  | succ f ih =>
    intro listed w0 F a hst hc hfree hr H hinh
    refine ⟨fun h => (by rw [h] at hr; cases hr), fun j hj => ?_⟩
    by_cases hji : j = i
    · subst hji; exact H
    obtain ⟨hjun, oj, hoj, hall⟩ := mem_ready.1 hj
    have hnot : ∀ e ∈ oj.after, Region.binds .any e = true → e.on ≠ i := fun e he hb heq => by
      have h1 := hall e he hb
      have h0 := (mem_ready.1 hr).1
      rw [heq] at h1
      rcases Nat.lt_or_ge i listed.size with h' | h'
      · simp [h'] at h0 h1; rw [h0] at h1; cases h1
      · simp [Array.getElem?_eq_none h'] at h1
    have hap := hfree j oj hoj hji hjun hnot
    obtain ⟨a1, a2, a3⟩ := Oper.apart_spec hap
    have hseli := fun cs b => hsel i oi cs b hi
    have hselj := fun cs b => hsel j oj cs b hoj
    have hfree' : ∀ k ok, ops[k]? = .some ok → k ≠ i → (listed.setIfInBounds j true).getD k true = false →
        (∀ e ∈ ok.after, Region.binds .any e = true → e.on ≠ i) → oi.apart ops ok = true := fun k ok hk hki hun hno => by
      refine hfree k ok hk hki ?_ hno
      by_cases hjk : j = k
      · subst hjk; exact hjun
      · rw [getD_set_ne true hjk] at hun; exact hun
    have nij : ¬ bef ops T i j = true := not_bef hB hc hr hj
    have nji : ¬ bef ops T j i = true := not_bef hB hc hj hr
    have hc' := closed_set hB hc hj
    have hr' := ready_mono hr (Ne.symm hji)
    have hjr := ready_mono hj hji
    have exi : ∀ u D, execOp (({ a with defers := D } : Act).put oj.dst u).eval oi = execOp a.eval oi := fun u D => (execOp_put oi hseli { a with defers := D } oj.dst u a3).trans rfl
    have wai : ∀ u D, Region.wanted oi (yielded ops (({ a with defers := D } : Act).put oj.dst u).tmps) = Region.wanted oi (yielded ops a.tmps) := fun u D => (wanted_put oi { a with defers := D } oj.dst u a3).trans rfl
    have exi' : ∀ u, execOp (a.put oj.dst u).eval oi = execOp a.eval oi := fun u => exi u a.defers
    have wai' : ∀ u, Region.wanted oi (yielded ops (a.put oj.dst u).tmps) = Region.wanted oi (yielded ops a.tmps) := fun u => wai u a.defers
    have exj : ∀ v, execOp (a.put oi.dst v).eval oj = execOp a.eval oj := fun v => execOp_put oj hselj a oi.dst v a1
    have waj : ∀ v, Region.wanted oj (yielded ops (a.put oi.dst v).tmps) = Region.wanted oj (yielded ops a.tmps) := fun v => wanted_put oj a oi.dst v a1
    have comm : ∀ u v, (a.put oj.dst u).put oi.dst v = (a.put oi.dst v).put oj.dst u := fun u v => (Act.put_comm a v u a2).symm
    have lcomm : (listed.setIfInBounds j true).setIfInBounds i true = (listed.setIfInBounds i true).setIfInBounds j true := Array.setIfInBounds_comm _ _ hji
    -- j is a barrier: i is of kind (a), or passed over
    by_cases hjc : isC kd j = true ∧ Region.wanted oj (yielded ops a.tmps) = true
    · obtain ⟨hjc, hwj⟩ := hjc
      have hjk : kd j = .some .none := by
        unfold isC at hjc; revert hjc; cases kd j with
        | none => intro h; cases h
        | some x => cases x with
          | none => intro _; rfl
          | some S => intro h; cases h
      -- the value of i, at any defers
      obtain ⟨c, hcrun, hcont⟩ : ∃ c, (∀ (u : Value) (D : List Deferred) (w0' : World) (F' : Facts) (K : World → Facts → Act → Prop),
            K w0' F' ((({ a with defers := D } : Act).put oj.dst u).put oi.dst c) → op4 P ops T Rel ld Cl kd Q i K w0' F' (({ a with defers := D } : Act).put oj.dst u)) ∧
          wpAny4 P ops T Rel ld Cl kd Q (f + 1) (listed.setIfInBounds i true) w0 F (a.put oi.dst c) := by
        unfold op4 at H
        simp only [hi] at H
        by_cases hwant : Region.wanted oi (yielded ops a.tmps) = true
        · simp only [hwant, if_true] at H
          cases hs : kd i with
          | none =>
            simp only [hs] at H
            obtain ⟨c, h2, h3⟩ := H
            refine ⟨c, fun u D w0' F' K hK => ?_, h3⟩
            unfold op4
            simp only [hi, wai, hwant, if_true, hs]
            refine ⟨c, fun w hld hcl => ?_, hK⟩
            have := h2 w (fun hl => (by
              rcases hbar i j (.inr hl) hjc with h | h
              · exact absurd h nji
              · exact absurd h nij)) hcl
            unfold stillAt at *
            rw [exi]; exact this
          | some k2 =>
            cases k2 with
            | none => unfold isC at hic; rw [hs] at hic; cases hic
            | some S =>
              exfalso
              rcases hbar i j (.inl (by unfold isB; rw [hs])) hjc with h | h
              · exact nji h
              · exact nij h
        · simp only [hwant] at H
          refine ⟨undef, fun u D w0' F' K hK => ?_, H⟩
          unfold op4
          simp only [hi, wai, hwant]
          exact hK
      have s0 := (hcont hinh).2 j hjr
      unfold op4 at s0 ⊢
      simp only [hoj, waj, hwj, if_true, hjk] at s0 ⊢
      intro w hw hcl hF
      refine (wpOp_put4 hoj hap hselj (fun c a w h => hQ c a _ _ w h) (s0 w hw hcl hF)).imp (Oper.wp_mono fun a' w' ⟨⟨u, D, ha'⟩, hcl', hK⟩ => ⟨hcl', ?_⟩) id
      subst ha'
      refine ih _ w' none _ (fun _ _ _ _ _ => trivial) hc' hfree' hr' (hcrun u D w' none _ ?_)
      rw [lcomm]
      exact hK
    -- the instances of i
    obtain ⟨Inst, hex, hinst, hback⟩ : ∃ Inst : Value → (Facts → Facts) → Prop,
        (∃ v U, Inst v U ∧ Inh4 Rel Cl w0 (U F)) ∧
        (∀ v U, Inst v U → (∀ w, Pre ops T (U F) j w ↔ Pre ops T F j w) ∧ (∀ G S, U (upd G j S) = upd (U G) j S) ∧ (∀ G S, Inh4 Rel Cl w0 (U (upd G j S)) → Inh4 Rel Cl w0 (U G)) ∧ wpAny4 P ops T Rel ld Cl kd Q (f + 1) (listed.setIfInBounds i true) w0 (U F) (a.put oi.dst v)) ∧
        (∀ (G : Facts) (u : Value) (K : World → Facts → Act → Prop), (∀ w, Pre ops T G i w → Pre ops T F i w) → (∀ v U, Inst v U → K w0 (U G) ((a.put oj.dst u).put oi.dst v)) →
          op4 P ops T Rel ld Cl kd Q i K w0 G (a.put oj.dst u)) := by
      obtain ⟨w, hw, hcl, hF⟩ := hinh
      unfold op4 at H
      simp only [hi] at H
      by_cases hwant : Region.wanted oi (yielded ops a.tmps) = true
      · simp only [hwant, if_true] at H
        cases hs : kd i with
        | none =>
          simp only [hs] at H
          obtain ⟨c, h2, h3⟩ := H
          refine ⟨fun v U => v = c ∧ U = id, ⟨c, id, ⟨rfl, rfl⟩, w, hw, hcl, hF⟩, ?_, ?_⟩
          · rintro v U ⟨rfl, rfl⟩
            exact ⟨fun _ => Iff.rfl, fun _ _ => rfl, fun _ _ h => inh4_upd h, h3⟩
          · intro G u K hG hK
            unfold op4
            simp only [hi, wai', hwant, if_true, hs]
            refine ⟨c, fun w hld hcl => ?_, hK c id ⟨rfl, rfl⟩⟩
            have := h2 w hld hcl
            unfold stillAt at *
            rw [exi']; exact this
        | some k2 =>
          cases k2 with
          | none => unfold isC at hic; rw [hs] at hic; cases hic
          | some S =>
            simp only [hs] at H
            obtain ⟨h2, h3⟩ := H
            obtain ⟨v0, w', hr0, hcl0, hS0⟩ := relUpon_exists (h2 w hw hcl (fun i _ => hF i))
            refine ⟨fun v U => U = fun G => upd G i (S v), ⟨v0, _, rfl, w', htr _ _ _ hw hr0, hcl0, fun k => ⟨hst k w w' hr0 (hF k), fun _ => hS0⟩⟩, ?_, ?_⟩
            · rintro v U rfl
              exact ⟨fun w => pre_upd nji, fun G S' => upd_comm _ _ _ _ _, fun G S' h => inh4_upd_mono h, h3 v⟩
            · intro G u K hG hK
              unfold op4
              simp only [hi, wai', hwant, if_true, hs]
              refine ⟨fun w hw hcl hp => ?_, fun v => hK v _ rfl⟩
              have := h2 w hw hcl (hG w hp)
              unfold relAt at *
              rw [exi']; exact this
      · simp only [hwant] at H
        refine ⟨fun v U => v = undef ∧ U = id, ⟨undef, id, ⟨rfl, rfl⟩, w, hw, hcl, hF⟩, ?_, ?_⟩
        · rintro v U ⟨rfl, rfl⟩
          exact ⟨fun _ => Iff.rfl, fun _ _ => rfl, fun _ _ h => inh4_upd h, H⟩
        · intro G u K hG hK
          unfold op4
          simp only [hi, wai', hwant]
          exact hK undef id ⟨rfl, rfl⟩
    obtain ⟨v0, U0, hI0, hinh0⟩ := hex
    have stepj : ∀ v U, Inst v U → Inh4 Rel Cl w0 (U F) → op4 P ops T Rel ld Cl kd Q j (wpAny4 P ops T Rel ld Cl kd Q f ((listed.setIfInBounds i true).setIfInBounds j true)) w0 (U F) (a.put oi.dst v) :=
      fun v U hI hn => ((hinst v U hI).2.2.2 hn).2 j hjr
    have s0 := stepj v0 U0 hI0 hinh0
    unfold op4 at s0 ⊢
    simp only [hoj, waj] at s0 ⊢
    by_cases hwant : Region.wanted oj (yielded ops a.tmps) = true
    · simp only [hwant, if_true] at s0 ⊢
      cases hs : kd j with
      | none =>
        simp only [hs] at s0 ⊢
        obtain ⟨c, hc1, hc2⟩ := s0
        have hstill : ∀ w, (ld j = true → Rel w0 w) → Cl w → stillAt P oj a w c := fun w hld hcl => by
          have := hc1 w hld hcl
          unfold stillAt at *
          rw [← exj v0]; exact this
        refine ⟨c, hstill, ih _ w0 F _ hst hc' hfree' hr' (hback F c _ (fun _ h => h) fun v U hI => wpAny4_of_inh fun hn => ?_)⟩
        have sv := stepj v U hI hn
        unfold op4 at sv
        simp only [hoj, waj, hwant, if_true, hs] at sv
        obtain ⟨c', hc1', hc2'⟩ := sv
        obtain ⟨w, hw, hcl, hF⟩ := hn
        have e1 := hc1' w (fun _ => hw) hcl
        have e2 := hstill w (fun _ => hw) hcl
        unfold stillAt at e1 e2
        rw [exj, e2] at e1
        injection e1 with e1 _
        injection e1 with e1
        subst e1
        rw [lcomm, comm]
        exact hc2'
      | some k2 =>
        cases k2 with
        | none => exact absurd ⟨by unfold isC; rw [hs], hwant⟩ hjc
        | some S =>
          simp only [hs] at s0 ⊢
          obtain ⟨hc1, hc2⟩ := s0
          refine ⟨fun w hw hcl hp => ?_, fun u => ih _ w0 _ _ (stable_upd hst (hsp j S hs u)) hc' hfree' hr' (hback _ u _ (fun w h => (pre_upd nij).1 h) fun v U hI => wpAny4_of_inh fun hn => ?_)⟩
          · have := hc1 w hw hcl (((hinst v0 U0 hI0).1 w).2 hp)
            unfold relAt at *
            rw [← exj v0]; exact this
          · have hn' : Inh4 Rel Cl w0 (U F) := (hinst v U hI).2.2.1 F _ hn
            have sv := stepj v U hI hn'
            unfold op4 at sv
            simp only [hoj, waj, hwant, if_true, hs] at sv
            rw [lcomm, comm, (hinst v U hI).2.1]
            exact sv.2 u
    · simp only [hwant] at s0 ⊢
      refine ih _ w0 F _ hst hc' hfree' hr' (hback F undef _ (fun _ h => h) fun v U hI => wpAny4_of_inh fun hn => ?_)
      have sv := stepj v U hI hn
      unfold op4 at sv
      simp only [hoj, waj, hwant] at sv
      rw [lcomm, comm]
      exact sv

theorem wpAny4_lex (htr : ∀ a b c, Rel a b → Rel b c → Rel a c) (hsp : ∀ k S, kd k = .some (.some S) → ∀ v w w', Rel w w' → S v w → S v w') (hB : befOk ops T = true)
    (hbar : ∀ i j, (isB kd i = true ∨ ld i = true) → isC kd j = true → bef ops T j i = true ∨ bef ops T i j = true) (hQ : ∀ c (a : Act) x v w, Q (.panic c) (a.put x v) w → Q (.panic c) a w)
    (C : List Nat) (hC : ∀ k, isC kd k = C.contains k) (hs : Region.noSelect ops = true) : ∀ (l : List (Nat × Oper)) (listed : Array Bool) (w0 : World) (F : Facts) (a : Act), (∀ p ∈ l, ops[p.1]? = .some p.2) →
    lex4 ops C (l.map (·.1)) listed = true → Closed ops T listed → StableF Rel F → wp4 P ops T Rel ld Cl kd Q l w0 F a → wpAny4 P ops T Rel ld Cl kd Q l.length listed w0 F a
  | [], _, _, _, _, _, hL, _, _, h => fun _ => ⟨by simpa [lex4] using hL, h⟩
  | (k, o) :: l, listed, w0, F, a, hl, hL, hc, hst, h => by
    have h0 : ops[k]? = .some o := hl (k, o) (by simp)
    simp only [List.map_cons, lex4, Bool.and_eq_true] at hL
    obtain ⟨hL1, hL'⟩ := hL
    have hl' : ∀ p ∈ l, ops[p.1]? = .some p.2 := fun p hp => hl p (by simp [hp])
    by_cases hkc : C.contains k = true
    · rw [if_pos hkc, decide_eq_true_eq] at hL1
      have hr' : k ∈ Region.ready .any ops listed := by rw [hL1]; simp
      have IH := fun w0 F a hst h => wpAny4_lex htr hsp hB hbar hQ C hC hs l (listed.setIfInBounds k true) w0 F a hl' hL' (closed_set hB hc hr') hst h
      intro hinh
      refine ⟨fun h => (by rw [hL1] at h; cases h), fun i hi => ?_⟩
      rw [hL1] at hi
      obtain rfl : i = k := by simpa using hi
      have hkk : kd i = .some .none := by
        have := hC i
        rw [hkc] at this
        unfold isC at this; revert this; cases kd i with
        | none => intro h; cases h
        | some x => cases x with
          | none => intro _; rfl
          | some S => intro h; cases h
      unfold op4
      unfold wp4 at h
      simp only [h0]
      by_cases hwant : Region.wanted o (yielded ops a.tmps) = true
      · simp only [hwant, if_true, hkk] at h ⊢
        intro w hw hcl hF
        exact (h w hw hcl hF).imp (Oper.wp_mono fun a' w' ⟨h1, h2⟩ => ⟨h1, IH w' none a' (fun _ _ _ _ _ => trivial) h2⟩) id
      · simp only [hwant] at h ⊢
        exact IH _ _ _ hst h
    · rw [if_neg hkc, Bool.and_eq_true] at hL1
      obtain ⟨hr, hf⟩ := hL1
      have hr' : k ∈ Region.ready .any ops listed := by simpa using hr
      have IH := fun w0 F a hst h => wpAny4_lex htr hsp hB hbar hQ C hC hs l (listed.setIfInBounds k true) w0 F a hl' hL' (closed_set hB hc hr') hst h
      have hkc' : isC kd k = false := by rw [hC]; simpa using hkc
      refine wpAny4_first htr hsp hB hbar hQ h0 hkc' (Region.noSelect_spec hs) l.length listed w0 F a hst hc (Region.free_spec h0 hf) hr' ?_
      unfold op4
      unfold wp4 at h
      simp only [h0]
      by_cases hwant : Region.wanted o (yielded ops a.tmps) = true
      · simp only [hwant, if_true] at h ⊢
        cases hs : kd k with
        | none =>
          simp only [hs] at h ⊢
          obtain ⟨c, h1, h2⟩ := h
          exact ⟨c, h1, IH _ _ _ hst h2⟩
        | some k2 =>
          cases k2 with
          | none => unfold isC at hkc'; rw [hs] at hkc'; cases hkc'
          | some S =>
            simp only [hs] at h ⊢
            obtain ⟨h1, h2⟩ := h
            exact ⟨h1, fun v => wpAny4_of_inh fun ⟨w, hw, hcl, hF⟩ => IH _ _ _ (stable_upd hst (hsp k S hs v)) (h2 v ⟨w, hw, hcl, (hF k).2 rfl⟩)⟩
      · simp only [hwant] at h ⊢
        exact IH _ _ _ hst h

section steps
variable {w0 : World} {o : Oper} {rest : List (Nat × Oper)} {k : Nat} {F : Facts} {a : Act}
theorem w4_nil (h : ∀ w, Rel w0 w → Cl w → All F w → Q .normal a w) : wp4 P ops T Rel ld Cl kd Q [] w0 F a := h
theorem w4_skip (hw : Region.wanted o (yielded ops a.tmps) = false) (h : wp4 P ops T Rel ld Cl kd Q rest w0 F (a.put o.dst undef)) : wp4 P ops T Rel ld Cl kd Q ((k, o) :: rest) w0 F a := by
  unfold wp4; rw [if_neg (by rw [hw]; decide)]; exact h
theorem w4_pure (hw : Region.wanted o (yielded ops a.tmps) = true) (hs : kd k = .none) (h : ∃ c, (∀ w, (ld k = true → Rel w0 w) → Cl w → (execOp a.eval o).run P w = .ok (.value c) w) ∧ wp4 P ops T Rel ld Cl kd Q rest w0 F (a.put o.dst c)) :
    wp4 P ops T Rel ld Cl kd Q ((k, o) :: rest) w0 F a := by
  unfold wp4; rw [if_pos hw, hs]; exact h
theorem w4_any (hw : Region.wanted o (yielded ops a.tmps) = true) (hs : kd k = .none) (h : ∃ c, (∀ w, (execOp a.eval o).run P w = .ok (.value c) w) ∧ wp4 P ops T Rel ld Cl kd Q rest w0 F (a.put o.dst c)) :
    wp4 P ops T Rel ld Cl kd Q ((k, o) :: rest) w0 F a := w4_pure hw hs (let ⟨c, h1, h2⟩ := h; ⟨c, fun w _ _ => h1 w, h2⟩)
theorem w4_read (hw : Region.wanted o (yielded ops a.tmps) = true) (hs : kd k = .none) (hl : ld k = true) (h : ∃ c, (∀ w, Rel w0 w → Cl w → (execOp a.eval o).run P w = .ok (.value c) w) ∧ wp4 P ops T Rel ld Cl kd Q rest w0 F (a.put o.dst c)) :
    wp4 P ops T Rel ld Cl kd Q ((k, o) :: rest) w0 F a := w4_pure hw hs (let ⟨c, h1, h2⟩ := h; ⟨c, fun w q => h1 w (q hl), h2⟩)
theorem w4_cl (hw : Region.wanted o (yielded ops a.tmps) = true) (hs : kd k = .none) (h : ∃ c, (∀ w, Cl w → (execOp a.eval o).run P w = .ok (.value c) w) ∧ wp4 P ops T Rel ld Cl kd Q rest w0 F (a.put o.dst c)) :
    wp4 P ops T Rel ld Cl kd Q ((k, o) :: rest) w0 F a := w4_pure hw hs (let ⟨c, h1, h2⟩ := h; ⟨c, fun w _ => h1 w, h2⟩)
theorem w4_some {S : Value → World → Prop} (hw : Region.wanted o (yielded ops a.tmps) = true) (hs : kd k = .some (.some S)) (hc : ∀ w, Rel w0 w → Cl w → Pre ops T F k w → relAt P o a w (fun v w' => Rel w w' ∧ Cl w' ∧ S v w'))
    (h : ∀ v, (∃ w, Rel w0 w ∧ Cl w ∧ S v w) → wp4 P ops T Rel ld Cl kd Q rest w0 (upd F k (S v)) (a.put o.dst v)) : wp4 P ops T Rel ld Cl kd Q ((k, o) :: rest) w0 F a := by
  unfold wp4; rw [if_pos hw, hs]; exact ⟨hc, h⟩
theorem w4_bar (hw : Region.wanted o (yielded ops a.tmps) = true) (hs : kd k = .some .none)
    (h : ∀ w, Rel w0 w → Cl w → All F w → ∀ K : Act → World → Prop, (∀ a' w', Cl w' ∧ wp4 P ops T Rel ld Cl kd Q rest w' none a' → K a' w') → o.wp P a w K Q) : wp4 P ops T Rel ld Cl kd Q ((k, o) :: rest) w0 F a := by
  unfold wp4; rw [if_pos hw, hs]
  exact fun w hr hcl hF => .inl (h w hr hcl hF _ fun _ _ q => q)
end steps
end
/-- What is asked of a panic does not look at the slots. -/
def PB (Q : Exit → Act → World → Prop) : Prop := ∀ c (a : Act) x v w, Q (.panic c) (a.put x v) w → Q (.panic c) a w
theorem pb_then {K : Act → World → Prop} {Q : Exit → Act → World → Prop} (h : PB Q) : PB (Exit.then K Q) := fun c a x v w q => h c a x v w q
theorem pb_inBlock {i : Nat} {Q : Exit → Act → World → Prop} (h : PB Q) : PB (Exit.inBlock i Q) := fun c a x v w q => h c a x v w q
theorem pb_noGoto {Q : Exit → Act → World → Prop} (h : PB Q) : PB (Exit.noGoto Q) := fun c a x v w q => h c a x v w q
theorem pb_body {P : Program} {fn : Func} {R : Ending → World → Prop} : PB (bodyPost P fn R) := fun c a x v w q => ⟨by cases x <;> exact q.1, q.2⟩
theorem leaves0 {P : Program} {fn : Func} {R : Ending → World → Prop} {tmps tmps' : Array Value} (hr : fn.results = #[]) : ∀ {ds : List Deferred} {u : FrameMode} {w : World}, Leaves P fn tmps R ds u w → Leaves P fn tmps' R ds u w
  | [], .run, _, h => h
  | [], .returning, _, ⟨v, h1, h2⟩ => by
    rw [results_none hr] at h1
    exact ⟨v, by rw [results_none hr]; exact h1, h2⟩
  | [], .panicking _, _, h => h
  | _ :: _, _, _, ⟨hu, fv, cap, f, args, ht, hi, hc⟩ => ⟨hu, fv, cap, f, args, ht, hi, fun c cs hm => by
    obtain ⟨e, u', w', fr, h1, h2⟩ := hc c cs hm
    refine ⟨e, u', w', fr, ?_, h2⟩
    cases e with
    | returned v => exact leaves0 hr h1
    | panicked ch => exact leaves0 hr h1
    | outgrown => exact h1⟩
theorem pb_bodyD {P : Program} {fn : Func} {R : Ending → World → Prop} (hr : fn.results = #[]) : PB (bodyPostD P fn R) := fun c a x v w q => by
  cases x with
  | none => exact q
  | some x => exact leaves0 hr q
/-- A guard's Bool is there, as it is wanted, or not. -/
theorem want_of {ops : Array Oper} {o : Oper} {a : Act} (g d : Nat) (gb : Bool) (h : o.guard = some (g, gb)) (hd : (ops[g]?).bind (·.dst) = some d) (ht : a.tmps[d]? = some (.bool gb)) : Region.wanted o (yielded ops a.tmps) = true := by
  simp [Region.wanted, yielded, h, hd, ht]
theorem unwant_of {ops : Array Oper} {o : Oper} {a : Act} (g d : Nat) (gb : Bool) (h : o.guard = some (g, gb)) (hd : (ops[g]?).bind (·.dst) = some d) (ht : a.tmps[d]? = some (.bool (!gb))) : Region.wanted o (yielded ops a.tmps) = false := by
  simp [Region.wanted, yielded, h, hd, ht]
theorem unwant_nil {ops : Array Oper} {o : Oper} {a : Act} (g d : Nat) (gb : Bool) (h : o.guard = some (g, gb)) (hd : (ops[g]?).bind (·.dst) = some d) (ht : a.tmps[d]? = some undef) : Region.wanted o (yielded ops a.tmps) = false := by
  simp [Region.wanted, yielded, h, hd, ht, undef]
theorem want_none {ops : Array Oper} {o : Oper} {a : Act} (h : o.guard = .none) : Region.wanted o (yielded ops a.tmps) = true := by
  simp [Region.wanted, h]
/-- The kinds: the listed specifications; the listed barriers; all else is of kind (a). -/
def kdOf {Rel : World → World → Prop} (Bs : List (Nat × Sp Rel)) (Cs : List Nat) (k : Nat) : Kd := if Cs.contains k then .some .none else (spOf Bs k).map .some
theorem kdOf_C {Rel : World → World → Prop} (Bs : List (Nat × Sp Rel)) (Cs : List Nat) (k : Nat) : isC (kdOf Bs Cs) k = Cs.contains k := by
  unfold isC kdOf
  cases h : Cs.contains k
  · simp only [Bool.false_eq_true, if_false]
    cases spOf Bs k <;> rfl
  · rfl
theorem kdOf_B {Rel : World → World → Prop} (Bs : List (Nat × Sp Rel)) (Cs : List Nat) (k : Nat) (h : isB (kdOf Bs Cs) k = true) : k ∈ Bs.map (·.1) := by
  unfold isB kdOf at h
  cases h' : Cs.contains k
  · rw [h'] at h
    simp only [Bool.false_eq_true, if_false] at h
    clear h'
    induction Bs with
    | nil => simp [spOf] at h
    | cons p Bs ih =>
      obtain ⟨i, s⟩ := p
      unfold spOf at h
      by_cases hk : k = i
      · simp [hk]
      · rw [if_neg hk] at h
        simp only [List.map_cons, List.mem_cons]
        exact .inr (ih h)
  · rw [h'] at h; simp at h
theorem kdOf_sp {Rel : World → World → Prop} (Bs : List (Nat × Sp Rel)) (Cs : List Nat) (k : Nat) (S : Value → World → Prop) (h : kdOf Bs Cs k = .some (.some S)) : ∀ v w w', Rel w w' → S v w → S v w' := by
  unfold kdOf at h
  split at h
  · cases h
  · cases hs : spOf Bs k with
    | none => rw [hs] at h; cases h
    | some S' =>
      rw [hs] at h
      injection h with h
      injection h with h
      subst h
      exact spOf_stable Bs k S' hs
/-- The operations in a lawful order of their own. -/
def inOrd (l : List Oper) (ord : List Nat) : List (Nat × Oper) := ord.filterMap fun k => (l[k]?).map fun o => (k, o)
theorem inOrd_mem {l : List Oper} {ord : List Nat} : ∀ p ∈ inOrd l ord, l.toArray[p.1]? = .some p.2 := by
  intro p hp
  unfold inOrd at hp
  rw [List.mem_filterMap] at hp
  obtain ⟨k, _, hk⟩ := hp
  cases h : l[k]? with
  | none => rw [h] at hk; cases hk
  | some o => rw [h] at hk; injection hk with hk; subst hk; simpa using h
theorem wp_region4 {P : Program} {Rel : World → World → Prop} (T : Array Nat) (Bs : List (Nat × Sp Rel)) (Cs Ls : List Nat) (Cl : World → Prop) (ord : List Nat) {id : Nat} {Q : Exit → Act → World → Prop} {a : Act} {w : World} {l : List Oper} (hm : P.follows .mixedOrders = true)
    (hL : (Region.noSelect l.toArray && (lex4 l.toArray Cs ((inOrd l ord).map (·.1)) (Array.replicate l.length false) && (inOrd l ord).length == l.length)) = true) (hB : befOk l.toArray T = true) (hb : barB l.toArray T (Bs.map (·.1) ++ Ls) Cs = true)
    (hrefl : ∀ w, Rel w w) (htr : ∀ a b c, Rel a b → Rel b c → Rel a c) (hQ : ∀ c (a : Act) x v w, Q (.panic c) (a.put x v) w → Q (.panic c) a w) (hcl : Cl { w with drawn := w.drawn + 1 })
    (h : wp4 P l.toArray T Rel (fun k => Ls.contains k) Cl (kdOf Bs Cs) Q (inOrd l ord) { w with drawn := w.drawn + 1 } none a) : (Code.region id l.toArray true).wp P Q a w := by
  rw [Bool.and_eq_true, Bool.and_eq_true] at hL
  have hlen : (inOrd l ord).length = l.length := by simpa using hL.2.2
  refine wp_region_any hm (wpAny_of_4 (T := T) (ld := fun k => Ls.contains k) hrefl htr (kdOf_sp Bs Cs) _ _ { w with drawn := w.drawn + 1 } none _ _ (fun _ _ _ _ _ => trivial) (hrefl _) hcl (fun _ => trivial) ?_)
  have := wpAny4_lex (P := P) (Q := Q) (ld := fun k => Ls.contains k) (Cl := Cl) htr (kdOf_sp Bs Cs) hB (fun i j hi hj => ?_) hQ Cs (kdOf_C Bs Cs) hL.1 (inOrd l ord) (Array.replicate l.length false) { w with drawn := w.drawn + 1 } none a inOrd_mem hL.2.1 (fun k m hk => by
    exfalso
    by_cases h : k < l.length <;> simp [h] at hk) (fun _ _ _ _ _ => trivial) h
  · rw [hlen] at this; simpa using this
  · rw [kdOf_C] at hj
    have h1 := List.all_eq_true.1 hb j (by simpa using hj)
    have h2 := List.all_eq_true.1 h1 i (by
      rw [List.mem_append]
      rcases hi with hi | hi
      · exact .inl (kdOf_B Bs Cs i hi)
      · exact .inr (by simpa using hi))
    simpa using h2
/-- Where nothing but the barriers touches the world. -/
theorem wp_region4_eq {P : Program} (T : Array Nat) (Cs Ls : List Nat) (Cl : World → Prop) (ord : List Nat) {id : Nat} {Q : Exit → Act → World → Prop} {a : Act} {w : World} {l : List Oper} (hm : P.follows .mixedOrders = true)
    (hL : (Region.noSelect l.toArray && (lex4 l.toArray Cs ((inOrd l ord).map (·.1)) (Array.replicate l.length false) && (inOrd l ord).length == l.length)) = true) (hB : befOk l.toArray T = true) (hb : barB l.toArray T Ls Cs = true)
    (hQ : ∀ c (a : Act) x v w, Q (.panic c) (a.put x v) w → Q (.panic c) a w) (hcl : Cl { w with drawn := w.drawn + 1 })
    (h : wp4 P l.toArray T (· = ·) (fun k => Ls.contains k) Cl (kdOf (Rel := (· = ·)) [] Cs) Q (inOrd l ord) { w with drawn := w.drawn + 1 } none a) : (Code.region id l.toArray true).wp P Q a w :=
  wp_region4 T [] Cs Ls Cl ord hm hL hB (by simpa using hb) (fun _ => rfl) (fun _ _ _ h k => h.trans k) hQ hcl h
/-- A slot that is put, for simp. -/
theorem nrm : (∀ (a : Act) (d : Nat) (v : Value), a.put (some d) v = { a with tmps := a.tmps.setIfInBounds d v }) ∧ (∀ (a : Act) (v : Value), a.put none v = a) ∧ (∀ (α : Type) (xs : List α) (i : Nat) (a : α), xs.toArray.setIfInBounds i a = (xs.set i a).toArray) ∧
    (∀ (α : Type) (i : Nat) (a : α), ([] : List α).set i a = []) ∧ (∀ (α : Type) (x a : α) (l : List α), (x :: l).set 0 a = a :: l) ∧ (∀ (α : Type) (x a : α) (l : List α) (n : Nat), (x :: l).set (n + 1) a = x :: l.set n a) :=
  ⟨fun _ _ _ => rfl, fun _ _ => rfl, fun _ xs i a => List.setIfInBounds_toArray xs i a, fun _ _ _ => rfl, fun _ _ _ _ => rfl, fun _ _ _ _ _ => rfl⟩
theorem wt {ops : Array Oper} {o : Oper} {a : Act} {g d : Nat} {gb : Bool} (h : o.guard = some (g, gb)) (hd : (ops[g]?).bind (·.dst) = some d) (ht : a.tmps[d]? = some (.bool gb)) : Region.wanted o (yielded ops a.tmps) = true := want_of g d gb h hd ht
theorem uw {ops : Array Oper} {o : Oper} {a : Act} {g d : Nat} {gb : Bool} (h : o.guard = some (g, gb)) (hd : (ops[g]?).bind (·.dst) = some d) (ht : a.tmps[d]? = some (.bool (!gb))) : Region.wanted o (yielded ops a.tmps) = false := unwant_of g d gb h hd ht
theorem un {ops : Array Oper} {o : Oper} {a : Act} {g d : Nat} {gb : Bool} (h : o.guard = some (g, gb)) (hd : (ops[g]?).bind (·.dst) = some d) (ht : a.tmps[d]? = some undef) : Region.wanted o (yielded ops a.tmps) = false := unwant_nil g d gb h hd ht
attribute [irreducible] wp4
end Go.Proofs.YtnemipgmkenemaaDoor.Rg4

namespace Go.Proofs.YtnemipgmkenemaaDoor
set_option linter.unusedSimpArgs false
set_option linter.unusedVariables false
open Go Go.RowKit
/-- A datum of k cells, none of which points. -/
class Flt (α : Type) where
  k : Nat
  cells : α → List Value
  len : ∀ x, (cells x).length = k
  pos : 0 < k
  one : ∀ x, ∀ u ∈ cells x, u.oneCell' = true
def fltR {α : Type} [Flt α] : World → Nat → Nat → α → Prop := fun w b o x => ∀ (j : Nat) (v : Value), (Flt.cells x)[j]? = some v → w.cell? ⟨b, o + j, none⟩ = some v
instance fltR_stb {α : Type} [Flt α] : Stb (fltR (α := α)) := ⟨fun _ _ _ _ _ hx h j v hj => hx.cell (h j v hj)⟩
/-- The slice (a, n) reads as xs. -/
abbrev Fl {α : Type} [Flt α] (w : World) (a : Option Addr) (n : Nat) (xs : List α) : Prop := Arr (Flt.k α) fltR w a n xs
def cellsL {α : Type} [Flt α] (xs : List α) : List Value := xs.flatMap Flt.cells
section
variable {α : Type} [Flt α]
theorem cellsL_cons (x : α) (xs : List α) : cellsL (x :: xs) = Flt.cells x ++ cellsL xs := rfl
theorem cellsL_append (xs ys : List α) : cellsL (xs ++ ys) = cellsL xs ++ cellsL ys := by simp [cellsL]
theorem cellsL_one' (x : α) : cellsL [x] = Flt.cells x := by simp [cellsL]
theorem cellsL_len (xs : List α) : (cellsL xs).length = xs.length * Flt.k α := by
  induction xs with
  | nil => simp [cellsL]
  | cons x xs ih => rw [cellsL_cons, List.length_append, ih, Flt.len, List.length_cons, Nat.add_mul, Nat.one_mul, Nat.add_comm]
theorem cellsL_get : ∀ {xs : List α} {i j : Nat} {x : α}, xs[i]? = some x → j < Flt.k α → (cellsL xs)[i * Flt.k α + j]? = (Flt.cells x)[j]?
  | [], i, j, x, h, _ => by simp at h
  | y :: xs, 0, j, x, h, hj => by
    simp at h; subst h
    rw [cellsL_cons, Nat.zero_mul, Nat.zero_add, List.getElem?_append_left (by rw [Flt.len]; exact hj)]
  | y :: xs, i + 1, j, x, h, hj => by
    have := cellsL_get (xs := xs) (i := i) (j := j) (x := x) (by simpa using h) hj
    rw [cellsL_cons, List.getElem?_append_right (by rw [Flt.len, Nat.add_mul]; omega), Flt.len, ← this]
    congr 1
    rw [Nat.add_mul]; omega
theorem cellsL_all (xs : List α) : ∀ u ∈ cellsL xs, u.oneCell' = true := by
  intro u hu
  obtain ⟨x, _, hx⟩ := List.mem_flatMap.1 hu
  exact Flt.one x u hx
theorem Fl.nil (w : World) (a : Option Addr) : Fl w a 0 ([] : List α) := ⟨rfl, fun h => by omega⟩
theorem Fl.flat {w : World} {a : Option Addr} {n : Nat} {xs : List α} (h : Fl w a n xs) : Flat w a n (Flt.k α) (cellsL xs) := by
  refine ⟨by rw [cellsL_len, h.1], fun h0 => ?_⟩
  have hk := Flt.pos (α := α)
  have hn : 0 < n := by
    rcases Nat.eq_zero_or_pos n with q | q
    · rw [cellsL_len, ← h.1, q] at h0; simp at h0
    · exact q
  obtain ⟨b, off, rfl, hc⟩ := h.2 hn
  refine ⟨_, rfl, fun j u hj => ?_⟩
  have hjl := (List.getElem?_eq_some_iff.1 hj).1
  rw [cellsL_len] at hjl
  have hi : j / Flt.k α < xs.length := (Nat.div_lt_iff_lt_mul hk).2 hjl
  have hr : j % Flt.k α < Flt.k α := Nat.mod_lt _ hk
  have e : j / Flt.k α * Flt.k α + j % Flt.k α = j := by rw [Nat.mul_comm]; exact Nat.div_add_mod _ _
  have h1 := cellsL_get (List.getElem?_eq_getElem hi) hr
  rw [e, hj] at h1
  have := hc _ _ (List.getElem?_eq_getElem hi) _ _ h1.symm
  rw [addr_add, ← this, Nat.add_assoc, e]
theorem Fl.of_cells {w : World} {b off : Nat} {xs : List α} (h : ∀ j u, (cellsL xs)[j]? = some u → w.cell? ⟨b, off + j, none⟩ = some u) : Fl w (some ⟨b, off, none⟩) xs.length xs :=
  ⟨rfl, fun _ => ⟨b, off, rfl, fun i x hi j v hj => by
    have hjl := (List.getElem?_eq_some_iff.1 hj).1
    rw [Flt.len] at hjl
    have := h _ v ((cellsL_get hi hjl).trans hj)
    rwa [Nat.add_assoc]⟩⟩
theorem fl_lit {w : World} {b : Nat} {vs : List Value} (h : Blk w b vs) (xs : List α) (he : vs = cellsL xs) : Fl w (some ⟨b, 0, none⟩) xs.length xs :=
  Fl.of_cells fun j u hj => by rw [Nat.zero_add, h.cell, he]; exact hj
end
/-- Blocks made since W hold the item; nothing old has changed. -/
def FreshI (W w' : World) (I : It) : Prop := Ext W w' ∧ ∃ e : Nat → Prop, I.P e (fun _ => False) w' ∧ ∀ b, e b → W.heap.size ≤ b ∧ b < w'.heap.size
section
variable {fr al : Nat → Prop} {w0 w w' : World} {L : List It}
theorem FreshI.ext {I : It} (h : FreshI w w' I) : Ext w w' := h.1
theorem FreshI.pre {W : World} {I : It} (h : FreshI w w' I) (hx : Ext W w) : FreshI W w' I := let ⟨h1, e, h2, h3⟩ := h; ⟨hx.trans h1, e, h2, fun b hb => ⟨Nat.le_trans hx.le (h3 b hb).1, (h3 b hb).2⟩⟩
theorem FreshI.post {w'' : World} {I : It} (h : FreshI w w' I) (hx : Ext w' w'') : FreshI w w'' I :=
  let ⟨h1, e, h2, h3⟩ := h
  ⟨h1.trans hx, e, I.st h2 fun b hb => by rcases hb with hb | hb; exact Below.block hx.bel b (h3 b hb).2; exact hb.elim, fun b hb => ⟨(h3 b hb).1, Nat.lt_of_lt_of_le (h3 b hb).2 hx.le⟩⟩
/-- A slice of one's own reads as its list. -/
theorem row_fl {α : Type} [Flt α] {W : World} {E : TypeId} {v : Value} {n : Nat} {xs : List α} (h : W.ownsRow 0 E (Flt.k α) v n (cellsL xs)) : ∃ a c, v = .slice a n c ∧ (n ≤ c ∧ c ≤ maxLen) ∧ Fl W a n xs := by
  have hk := Flt.pos (α := α)
  have hn : n = xs.length := by
    have := h.1
    rw [cellsL_len] at this
    exact (Nat.eq_of_mul_eq_mul_right hk this).symm
  subst hn
  rcases h.2 with ⟨rfl, h0⟩ | ⟨g, cap, cur, rfl, hb, hg, hc, hm, hs, ht⟩
  · have : xs = [] := List.eq_nil_of_length_eq_zero h0
    subst this
    exact ⟨none, 0, rfl, ⟨Nat.le_refl _, by simp [maxLen]⟩, Fl.nil _ _⟩
  · refine ⟨_, cap, rfl, ⟨hc, hm⟩, Fl.of_cells fun j u hj => ?_⟩
    have := h.cells (g := g) rfl j u hj
    rwa [addr_add] at this
theorem Own.rowFl {α : Type} [Flt α] (st : Own fr al w0 L w) {i n : Nat} {E : TypeId} {v : Value} {xs : List α} (hi : L[i]? = some (rowI E (Flt.k α) v n (cellsL xs))) : ∃ a c, v = .slice a n c ∧ (n ≤ c ∧ c ≤ maxLen) ∧ Fl w a n xs := row_fl (st.row hi)
theorem FreshI.fl {α : Type} [Flt α] {a : Option Addr} {n c : Nat} {E : TypeId} {xs : List α} (h : FreshI w w' (rowI E (Flt.k α) (.slice a n c) n (cellsL xs))) : (n ≤ c ∧ c ≤ maxLen) ∧ Fl w' a n xs := by
  obtain ⟨_, e, ⟨h1, _⟩, _⟩ := h
  obtain ⟨a', c', hv, h2, h3⟩ := row_fl h1
  injection hv with q1 q2 q3
  subst q1 q3
  exact ⟨h2, h3⟩
theorem Own.oldFl {α : Type} [Flt α] (st : Own fr al w0 L w) {i : Nat} {W0 : World} (hi : L[i]? = some (oldI W0)) {A : Option Addr} {n : Nat} {xs : List α} (h : Fl W0 A n xs) : Fl w A n xs :=
  ⟨h.1, fun h0 => let ⟨b, off, e, hc⟩ := h.2 h0; ⟨b, off, e, fun j x hj q v hq => st.oldCell hi (hc j x hj q v hq)⟩⟩
end
/-- A string. -/
instance fltStr : Flt (List UInt8) := ⟨1, fun s => [S s], fun _ => rfl, by decide, fun x u hu => by simp at hu; subst hu; rfl⟩
theorem fltStr_k : Flt.k (List UInt8) = 1 := rfl
theorem Fl.str {w : World} {a : Option Addr} {n : Nat} {xs : List (List UInt8)} (h : Fl w a n xs) (h0 : 0 < n) : ∃ b off, a = some ⟨b, off, none⟩ ∧ ∀ j x, xs[j]? = some x → w.cell? ⟨b, off + j, none⟩ = some (S x) := by
  obtain ⟨b, off, rfl, hc⟩ := h.2 h0
  refine ⟨b, off, rfl, fun j x hj => ?_⟩
  have := hc j x hj 0 (S x) rfl
  simpa [fltStr_k] using this
end Go.Proofs.YtnemipgmkenemaaDoor

namespace Go.Proofs.YtnemipgmkenemaaDoor
set_option linter.unusedSimpArgs false
set_option linter.unusedVariables false
open Go Go.RowKit
def flI {α : Type} [Flt α] (a : Option Addr) (n : Nat) (xs : List α) : It where
  P _ s w := Fl w a n xs ∧ (0 < n → ∀ ad, a = some ad → s ad.block)
  st := by
    rintro e s w w' ⟨h1, h2⟩ hag
    refine ⟨⟨h1.1, fun h0 => ?_⟩, h2⟩
    obtain ⟨b, off, rfl, hc⟩ := h1.2 h0
    refine ⟨b, off, rfl, fun i x hi j v hj => ?_⟩
    rw [World.cell?_of_block (w := w) (hag b (.inr (h2 h0 _ rfl)))]
    exact hc i x hi j v hj
  facts _ := True
  ok := fun _ => trivial
section
variable {fr al : Nat → Prop} {w0 w : World} {L : List It} {α : Type} [Flt α]
theorem Own.flAt (st : Own fr al w0 L w) {i n : Nat} {a : Option Addr} {xs : List α} (hi : L[i]? = some (flI a n xs)) : Fl w a n xs := let ⟨_, _, h, _⟩ := st.get hi; h.1
theorem Own.rowToFl (st : Own fr al w0 L w) {i n c : Nat} {E : TypeId} {a : Option Addr} {xs : List α} (hi : L[i]? = some (rowI E (Flt.k α) (.slice a n c) n (cellsL xs))) : Own fr al w0 (L.set i (flI a n xs)) w :=
  st.conv hi fun e s ⟨h1, h2⟩ h3 => ⟨fun _ => False, fun k => e k, ⟨by
    obtain ⟨a', c', hv, _, h4⟩ := row_fl h1
    injection hv with q1 _ q3
    subst q1 q3
    exact h4, fun h0 ad had => by
    refine h2 _ ?_
    rw [had]; rfl⟩, fun _ q => q.elim, fun k hk => .inl hk, fun _ q => q.elim⟩
end
theorem rowFl' {α : Type} [Flt α] {fr al : Nat → Prop} {w0 w : World} {L : List It} (st : Own fr al w0 L w) {i n c : Nat} {a : Option Addr} {E : TypeId} {xs : List α} (hi : L[i]? = some (rowI E (Flt.k α) (.slice a n c) n (cellsL xs))) : (n ≤ c ∧ c ≤ maxLen) ∧ Fl w a n xs := by
  obtain ⟨a', c', hv, h2, h3⟩ := st.rowFl hi
  injection hv with q1 q2 q3
  subst q1 q3
  exact ⟨h2, h3⟩
section
variable {α : Type} (f : List UInt8 → Except Int (α × List UInt8))
end
end Go.Proofs.YtnemipgmkenemaaDoor

namespace Go.Proofs.YtnemipgmkenemaaDoor
set_option linter.unusedSimpArgs false
set_option linter.unusedVariables false
open Go Go.RowKit
end Go.Proofs.YtnemipgmkenemaaDoor

namespace Go.Proofs.YtnemipgmkenemaaDoor
set_option linter.unusedSimpArgs false
set_option linter.unusedVariables false
open Go Go.RowKit
/-- The reference's tape at block t. -/
def RefAt (w : World) (t : Nat) (s : List UInt8) (e : Int) : Prop := Blk w t [S s, .int .i64 e]
/-- What a reading method of the reference comes to. -/
def RefOut {α : Type} (t : Nat) (w : World) (res : Except Int (α × List UInt8)) (zero : Value) (ok : α → Value) : Ending → World → Prop := fun en w' =>
  MutO (rdFp t) w w' ∧ match res with
  | .error e => en = .returned zero ∧ ∃ s, RefAt w' t s e
  | .ok (a, ys) => en = .returned (ok a) ∧ RefAt w' t ys 0
theorem RefOut.ok {α : Type} {t : Nat} {w : World} {res : Except Int (α × List UInt8)} {zero : Value} {ok : α → Value} {a : α} {ys : List UInt8} {en : Ending} {w' : World} (hE : res = .ok (a, ys)) (hm : MutO (rdFp t) w w') (h : en = .returned (ok a) ∧ RefAt w' t ys 0) : RefOut t w res zero ok en w' := by
  subst hE; exact ⟨hm, h⟩
theorem ba_tail (c : UInt8) (zs : List UInt8) : (⟨(c :: zs).toArray⟩ : ByteArray).extract 1 (zs.length + 1) = ⟨zs.toArray⟩ := by
  apply ByteArray.ext
  simp [ByteArray.data_extract]
theorem ba_size (ys : List UInt8) : ByteArray.size ⟨ys.toArray⟩ = ys.length := by simp [ByteArray.size]
theorem ba_take (ys : List UInt8) (n : Nat) : (⟨ys.toArray⟩ : ByteArray).extract 0 n = ⟨(ys.take n).toArray⟩ := by
  apply ByteArray.ext
  simp [ByteArray.data_extract]
theorem ba_drop (ys : List UInt8) (n : Nat) : (⟨ys.toArray⟩ : ByteArray).extract n ys.length = ⟨(ys.drop n).toArray⟩ := by
  apply ByteArray.ext
  simp [ByteArray.data_extract, List.take_of_length_le]
end Go.Proofs.YtnemipgmkenemaaDoor

namespace Go.Proofs.YtnemipgmkenemaaDoor
set_option linter.unusedSimpArgs false
set_option linter.unusedVariables false
open Go Go.RowKit
end Go.Proofs.YtnemipgmkenemaaDoor

namespace Go.Proofs.YtnemipgmkenemaaDoor
set_option linter.unusedSimpArgs false
set_option linter.unusedVariables false
open Go Go.RowKit
end Go.Proofs.YtnemipgmkenemaaDoor

namespace Go.Proofs.YtnemipgmkenemaaDoor
set_option linter.unusedSimpArgs false
set_option linter.unusedVariables false
open Go Go.RowKit
section
variable {fr al : Nat → Prop} {w0 w w' : World} {L : List It} {P : Program} {o : Oper} {a : Act} {K : Act → World → Prop} {Q : Exit → Act → World → Prop}
theorem Own.tail {I : It} (st : Own fr al w0 (I :: L) w) : Own fr al w0 L w := by
  obtain ⟨hm, e, s, F⟩ := st
  exact ⟨hm, fun i => e (i + 1), fun i => s (i + 1), fun i J hi => F.holds (i + 1) J (by simpa using hi), fun i b hi => F.lo (i + 1) b (by simpa using hi), fun i b hi => F.fr (i + 1) b (by simpa using hi), fun i b hi => F.al (i + 1) b (by simpa using hi),
    fun i j b hi hj hne => F.ee (i + 1) (j + 1) b (by simpa using hi) (by simpa using hj) (by omega), fun i j b hi hj => F.es (i + 1) (j + 1) b (by simpa using hi) (by simpa using hj)⟩
/-- A slice literal as a row that may grow. -/
theorem owp_buildRow {T : TypeId} {q : Nat} {ps : Array (Nat × Operand)} (ho : o.op = .buildSlice T q ps) (st : Own fr al w0 L w) (E : TypeId) (k : Nat) (h : ∃ (m : Nat) (cs : Array Value), (execOp a.eval o).run P w = .ok (.value (.slice (some ⟨w.heap.size, 0, none⟩) m m)) (w.alloc (.cells cs E)) ∧
    cs.size = m * k ∧ m ≤ maxLen ∧ ∀ b w', w.heap.size ≤ b → Own fr al w0 (L ++ [rowI E k (.slice (some ⟨b, 0, none⟩) m m) m cs.toList]) w' → K (a.put o.dst (.slice (some ⟨b, 0, none⟩) m m)) w') : o.wp P a w K Q := by
  obtain ⟨m, cs, hr, h1, h2, h⟩ := h
  refine owp_run hr (h _ _ (Nat.le_refl _) (st.new (Ext.new w _) (e' := fun b => b = w.heap.size) (s' := fun _ => False) ⟨⟨by simpa using h1, .inr ⟨w.heap.size, m, cs, rfl, Nat.zero_le _, ?_, Nat.le_refl _, h2, h1, ?_⟩⟩, fun b hb => by cases hb; rfl⟩ (fun b hb => ?_) (fun _ q => q.elim) (fun _ _ q => q)))
  · show (w.heap.push _)[_]? = _; simp
  · rw [List.take_of_length_le]; simp [h1]
  · subst hb; exact ⟨by show _ < (w.heap.push _).size; simp, Nat.le_refl _⟩
end
section
variable {α : Type} [Flt α]
end
end Go.Proofs.YtnemipgmkenemaaDoor

namespace Go.Proofs.YtnemipgmkenemaaDoor
set_option linter.unusedSimpArgs false
set_option linter.unusedVariables false
open Go
/-- An order on what P lets. -/
structure SOrd {α : Type} (lt : α → α → Bool) (P : α → Bool) : Prop where
  irr : ∀ x, lt x x = false
  tr : ∀ x y z, lt x y = true → lt y z = true → lt x z = true
  tri : ∀ x y, P x = true → P y = true → lt x y = true ∨ x = y ∨ lt y x = true
/-- Strictly rising, and just those of l that P lets. -/
def SSet {α : Type} (lt : α → α → Bool) (P : α → Bool) (l out : List α) : Prop := out.Pairwise (fun x y => lt x y = true) ∧ ∀ x, x ∈ out ↔ x ∈ l ∧ P x = true
section
variable {α : Type} {lt : α → α → Bool} {P : α → Bool}
/-- The least candidate, the first of the like. -/
def pickMin (lt : α → α → Bool) (cand : α → Bool) (l : List α) : Option α := l.foldl (fun b x => if cand x && b.all (fun y => lt x y) then some x else b) none
theorem pickMin_snoc (cand : α → Bool) (l : List α) (x : α) : pickMin lt cand (l ++ [x]) = if cand x && (pickMin lt cand l).all (fun y => lt x y) then some x else pickMin lt cand l := by
  unfold pickMin; rw [List.foldl_append]; rfl
theorem list_snoc {motive : List α → Prop} (nil : motive []) (snoc : ∀ l x, motive l → motive (l ++ [x])) : ∀ l, motive l := by
  intro l
  have : ∀ r : List α, motive r.reverse := by
    intro r
    induction r with
    | nil => exact nil
    | cons x r ih => rw [List.reverse_cons]; exact snoc _ _ ih
  have := this l.reverse
  rwa [List.reverse_reverse] at this
theorem pickMin_spec (tr : ∀ x y z, lt x y = true → lt y z = true → lt x z = true) (irr : ∀ x, lt x x = false) (cand : α → Bool) (l : List α) :
    (pickMin lt cand l = none → ∀ x ∈ l, cand x = false) ∧ (∀ y, pickMin lt cand l = some y → y ∈ l ∧ cand y = true ∧ ∀ x ∈ l, cand x = true → lt x y = false) := by
  induction l using list_snoc with
  | nil => exact ⟨fun _ x hx => by simp at hx, fun y hy => by simp [pickMin] at hy⟩
  | snoc l x ih =>
    rw [pickMin_snoc]
    by_cases hc : (cand x && (pickMin lt cand l).all (fun y => lt x y)) = true
    · rw [if_pos hc]
      simp only [Bool.and_eq_true] at hc
      refine ⟨fun h => (by cases h), fun y hy => ?_⟩
      cases hy
      refine ⟨by simp, hc.1, fun z hz hcz => ?_⟩
      rcases List.mem_append.1 hz with q | q
      · cases hp : pickMin lt cand l with
        | none => have := ih.1 hp z q; rw [this] at hcz; cases hcz
        | some y0 =>
          have h1 := (ih.2 y0 hp).2.2 z q hcz
          have h2 : lt x y0 = true := by have := hc.2; rw [hp] at this; simpa using this
          cases h3 : lt z x with
          | false => rfl
          | true => have := tr _ _ _ h3 h2; rw [this] at h1; cases h1
      · rw [List.mem_singleton.1 q]; exact irr x
    · rw [if_neg hc]
      refine ⟨fun h z hz => ?_, fun y hy => ?_⟩
      · rcases List.mem_append.1 hz with q | q
        · exact ih.1 h z q
        · rw [List.mem_singleton.1 q]
          cases hcx : cand x with
          | false => rfl
          | true => rw [h, hcx] at hc; simp at hc
      · obtain ⟨h1, h2, h3⟩ := ih.2 y hy
        refine ⟨List.mem_append.2 (.inl h1), h2, fun z hz hcz => ?_⟩
        rcases List.mem_append.1 hz with q | q
        · exact h3 z q hcz
        · rw [List.mem_singleton.1 q] at hcz ⊢
          rw [hcz, hy] at hc
          simpa using hc
/-- What may come behind out. -/
def cnd (lt : α → α → Bool) (P : α → Bool) (out : List α) (x : α) : Bool := P x && out.getLast?.all (fun z => lt z x)
/-- A set that grows by its least candidate. -/
def GInv (lt : α → α → Bool) (P : α → Bool) (l out : List α) : Prop := out.Pairwise (fun x y => lt x y = true) ∧ (∀ x ∈ out, x ∈ l ∧ P x = true) ∧ ∀ x ∈ l, P x = true → cnd lt P out x = false → x ∈ out
theorem GInv.nil (l : List α) : GInv lt P l [] := ⟨List.Pairwise.nil, fun x hx => by simp at hx, fun x _ hp hc => by simp [cnd, hp] at hc⟩
theorem GInv.step (o : SOrd lt P) {l out : List α} {y : α} (h : GInv lt P l out) (hy : pickMin lt (cnd lt P out) l = some y) : GInv lt P l (out ++ [y]) := by
  obtain ⟨h1, h2, h3⟩ := h
  obtain ⟨q1, q2, q3⟩ := (pickMin_spec o.tr o.irr (cnd lt P out) l).2 y hy
  have q2' := q2
  simp only [cnd, Bool.and_eq_true] at q2'
  refine ⟨?_, ?_, ?_⟩
  · rw [List.pairwise_append]
    refine ⟨h1, List.pairwise_singleton _ _, fun a ha b hb => ?_⟩
    rw [List.mem_singleton.1 hb]
    obtain ⟨z, hz⟩ : ∃ z, out.getLast? = some z := by
      cases hl : out.getLast? with
      | none => rw [List.getLast?_eq_none_iff] at hl; subst hl; simp at ha
      | some z => exact ⟨z, rfl⟩
    have hzy : lt z y = true := by have := q2'.2; rw [hz] at this; simpa using this
    obtain ⟨pre, rfl⟩ := List.getLast?_eq_some_iff.1 hz
    rcases List.mem_append.1 ha with q | q
    · exact o.tr _ _ _ ((List.pairwise_append.1 h1).2.2 a q z (by simp)) hzy
    · rw [List.mem_singleton.1 q]; exact hzy
  · intro x hx
    rcases List.mem_append.1 hx with q | q
    · exact h2 x q
    · rw [List.mem_singleton.1 q]; exact ⟨q1, q2'.1⟩
  · intro x hx hp hc
    have hyx : lt y x = false := by simpa [cnd, hp] using hc
    cases hcx : cnd lt P out x with
    | false => exact List.mem_append.2 (.inl (h3 x hx hp hcx))
    | true =>
      have hxy := q3 x hx hcx
      rcases o.tri x y hp q2'.1 with q | q | q
      · rw [q] at hxy; cases hxy
      · rw [q]; simp
      · rw [q] at hyx; cases hyx
theorem GInv.done (o : SOrd lt P) {l out : List α} (h : GInv lt P l out) (hn : pickMin lt (cnd lt P out) l = none) : SSet lt P l out := by
  obtain ⟨h1, h2, h3⟩ := h
  exact ⟨h1, fun x => ⟨h2 x, fun ⟨q1, q2⟩ => h3 x q1 q2 ((pickMin_spec o.tr o.irr _ _).1 hn x q1)⟩⟩
/-- How many may come yet. -/
def left (lt : α → α → Bool) (P : α → Bool) (l out : List α) : Nat := (l.filter (cnd lt P out)).length
theorem SSet.len {l out : List α} (irr : ∀ x, lt x x = false) (h : SSet lt P l out) : out.length ≤ l.length := by
  have hnd : out.Nodup := h.1.imp fun {a b} hab e => by subst e; rw [irr] at hab; cases hab
  exact (List.Nodup.length_le_of_subset hnd fun x hx => ((h.2 x).1 hx).1)
theorem GInv.len {l out : List α} (irr : ∀ x, lt x x = false) (h : GInv lt P l out) : out.length ≤ l.length := by
  have hnd : out.Nodup := h.1.imp fun {a b} hab e => by subst e; rw [irr] at hab; cases hab
  exact (List.Nodup.length_le_of_subset hnd fun x hx => (h.2.1 x hx).1)
end
end Go.Proofs.YtnemipgmkenemaaDoor

namespace Go.Proofs.YtnemipgmkenemaaDoor
set_option linter.unusedSimpArgs false
set_option linter.unusedVariables false
open Go
section
variable {α : Type} [Inhabited α] [DecidableEq α] {lt : α → α → Bool} {P : α → Bool}
end
end Go.Proofs.YtnemipgmkenemaaDoor

namespace Go.Proofs.YtnemipgmkenemaaDoor
set_option linter.unusedSimpArgs false
set_option linter.unusedVariables false
open Go Go.RowKit
/-- A letter; a sign of a name. -/
def ltr (c : UInt8) : Bool := decide (97 ≤ c.toNat) && decide (c.toNat ≤ 122)
def sgn (c : UInt8) : Bool := ltr c || (decide (48 ≤ c.toNat) && decide (c.toNat ≤ 57)) || decide (c.toNat = 45)
/-- A right name. -/
def nameR : List UInt8 → Bool
  | [] => false
  | c :: s => decide (s.length + 1 ≤ 16) && ltr c && (c :: s).all sgn
end Go.Proofs.YtnemipgmkenemaaDoor

namespace Go.Proofs.YtnemipgmkenemaaDoor
set_option linter.unusedSimpArgs false
set_option linter.unusedVariables false
open Go Go.RowKit
theorem ba_get (l : List UInt8) (j : Nat) (h : j < (⟨l.toArray⟩ : ByteArray).size) : (⟨l.toArray⟩ : ByteArray)[j] = l[j]'(by simpa [ByteArray.size] using h) := by
  simp [ByteArray.getElem_eq_getElem_data]
end Go.Proofs.YtnemipgmkenemaaDoor

namespace Go.Proofs.YtnemipgmkenemaaDoor
set_option linter.unusedSimpArgs false
set_option linter.unusedVariables false
open Go Go.RowKit
theorem strInfo : ∃ i, Tryd.prog.info? 9 = some i ∧ i.zero = some (S []) ∧ i.size = 1 ∧ i.bytes = 16 := info_parts (by kernel_rfl)
theorem nameR_nil : nameR [] = false := rfl
end Go.Proofs.YtnemipgmkenemaaDoor

namespace Go.Proofs.YtnemipgmkenemaaDoor
set_option linter.unusedSimpArgs false
set_option linter.unusedVariables false
open Go Go.RowKit Go.Sort Go.Lib
section
variable {fr al : Nat → Prop} {w0 w : World} {L : List It}
end
end Go.Proofs.YtnemipgmkenemaaDoor

namespace Go.Proofs.YtnemipgmkenemaaDoor
set_option linter.unusedSimpArgs false
set_option linter.unusedVariables false
open Go Go.RowKit
def lettersB : List UInt8 := [97, 98, 99, 100, 101, 102, 103, 104, 105, 106, 107, 108, 109, 110, 111, 112, 113, 114, 115, 116, 117, 118, 119, 120, 121, 122]
def signsB : List UInt8 := lettersB ++ [48, 49, 50, 51, 52, 53, 54, 55, 56, 57, 45]
theorem ix_letters : ∀ n : Nat, n < 256 → (decide (0 ≤ Lib.indexByte lettersB n.toUInt8)) = ltr n.toUInt8 := by decide +kernel
theorem ix_signs : ∀ n : Nat, n < 256 → (decide (Lib.indexByte signsB n.toUInt8 < 0)) = !sgn n.toUInt8 := by decide +kernel
theorem ix_letter (c : UInt8) : (decide (0 ≤ Lib.indexByte lettersB c)) = ltr c := by
  have := ix_letters c.toNat c.toNat_lt
  simpa using this
theorem ix_sign (c : UInt8) : (decide (Lib.indexByte signsB c < 0)) = !sgn c := by
  have := ix_signs c.toNat c.toNat_lt
  simpa using this
theorem signIx (c : UInt8) (w : World) : Calls Tryd.prog 36 #[.string ⟨signsB.toArray⟩, .int .u8 (c.toNat : Int)] w fun e w' => ∃ v : Int, e = .returned (.int .i64 v) ∧ decide (v < 0) = !sgn c ∧ w = w' :=
  (Tryd.strings_IndexByte ⟨signsB.toArray⟩ _ w).mono fun e w' ⟨h1, h2⟩ => ⟨_, h1, by simpa using ix_sign c, h2.symm⟩
theorem letterIx (c : UInt8) (w : World) : Calls Tryd.prog 36 #[.string ⟨lettersB.toArray⟩, .int .u8 (c.toNat : Int)] w fun e w' => ∃ v : Int, e = .returned (.int .i64 v) ∧ decide (0 ≤ v) = ltr c ∧ w = w' :=
  (Tryd.strings_IndexByte ⟨lettersB.toArray⟩ _ w).mono fun e w' ⟨h1, h2⟩ => ⟨_, h1, by simpa using ix_letter c, h2.symm⟩
set_option maxRecDepth 100000 in
set_option maxHeartbeats 1000000 in
theorem only_any (s : List UInt8) (W : World) (hs : s.length ≤ 100000) : Calls Tryd.prog 50 #[S s] W fun e w' => e = .returned (.bool (s.all sgn)) ∧ Ext W w' := by
  have st := Own.startOld W
  unfold S
  (try simp only [nsl, Value.cells, unB] at st)
  (try clear hc); have hc := st.facts; (try simp only [nfl, nft, Nat.reduceAdd] at hc)
  go_enter Tryd.func50, Tryd.ntmps50
  go_wp2_with ((((with_reducible refine wl_convert ?_ (fun K hK => ?_)); rfl; refine owp_sb (o := ⟨some 6, _, _, _, _, _⟩) rfl st rfl Tryd.underlying9 Tryd.underlying59 Tryd.underlying5 ?_ ?_; (simp only [maxLen]; omega); (clear st; intro A6 c6 w hc6 st))); (try simp only [nsl, Value.cells, unB] at st); (try clear hc); have hc := st.facts; (try simp only [nfl, nft, Nat.reduceAdd] at hc))
  go_loopw [8] (fun i wr => ∃ j : Nat, j ≤ s.length ∧ i = .int .i64 (j : Int) ∧ Hid ((s.take j).all sgn = true) ∧ Own (fun _ => False) (fun _ => True) W [oldI W, byI A6 s.length s] wr) (fun i _ => s.length - (intOf i).toNat)
  case atStart => exact ⟨0, by omega, rfl, Lib.hid (by simp), st⟩
  case round =>
    obtain ⟨j, hj, rfl, HT, st'⟩ := hrel
    clear st hc
    have st := st'
    clear st'
    by_cases hjn : j < s.length
    · obtain ⟨b, off, ha, hq, hjl, hcell⟩ := (st.by (i := 1) get1).at hjn
      clear hq
      subst ha
      have hts : s.take (j + 1) = s.take j ++ [s[j]] := (List.take_append_getElem hjl).symm
      have hall : s.all sgn = (s.take j ++ s[j] :: s.drop (j + 1)).all sgn := by rw [← List.drop_eq_getElem_cons hjl, List.take_append_drop]
      generalize s[j] = x at *
      have HX := Lib.hid (And.intro hts hall)
      have hix := ix_sign x
      clear hts hall
      go_wp2_with fail
      refine (signIx x _).mono ?_
      rintro en w' ⟨v, rfl, hv, rfl⟩
      clear hix
      by_cases hsx : sgn x = true
      · have hv0 : decide (v < 0) = false := by rw [hv, hsx]; rfl
        have hv1 : ¬ v < 0 := by simpa using hv0
        clear hv
        go_wp2_with fail
        exact ⟨⟨j + 1, by omega, by go_num, Lib.hid (by rw [HX.out.1, List.all_append, HT.out]; simp [hsx]), st⟩, by simp [intOf]; omega⟩
      · have hsx' : sgn x = false := by simpa using hsx
        have hv0 : decide (v < 0) = true := by rw [hv, hsx']; rfl
        have hv1 : v < 0 := by simpa using hv0
        clear hv
        have HF : Hid (s.all sgn = false) := Lib.hid (by rw [HX.out.2, List.all_append, List.all_cons, hsx']; simp)
        go_wp2_with fail
        go_ret
        exact ⟨by rw [HF.out]; rfl, st.ext0⟩
    · obtain rfl : j = s.length := by omega
      have e : s.all sgn = true := by have := HT.out; rwa [List.take_length] at this
      have HE := Lib.hid e
      clear e
      go_wp2_with fail
      go_ret
      exact ⟨by rw [HE.out]; rfl, st.ext0⟩
set_option maxRecDepth 100000 in
set_option maxHeartbeats 1000000 in
theorem right_any (s : List UInt8) (W : World) (hs : s.length ≤ 100000) : Calls Tryd.prog 39 #[S s] W fun e w' => e = .returned (.bool (nameR s)) ∧ Ext W w' := by
  unfold S
  cases s with
  | nil =>
    go_enter Tryd.func39, Tryd.ntmps39
    go_wp2_with fail
    go_ret
    exact ⟨rfl, Ext.refl _⟩
  | cons c s =>
    have hsz : (⟨(c :: s).toArray⟩ : ByteArray).size = s.length + 1 := by simp [ByteArray.size]
    have hg0 : (⟨(c :: s).toArray⟩ : ByteArray)[0]? = some c := rfl
    simp only [List.length_cons] at hs
    by_cases h16 : s.length + 1 ≤ 16
    · skip
      go_enter Tryd.func39, Tryd.ntmps39
      go_wp2_with fail
      refine (letterIx c W).mono ?_
      rintro en w' ⟨v, rfl, hv, rfl⟩
      by_cases hl : ltr c = true
      · have hv0 : decide (0 ≤ v) = true := by rw [hv, hl]
        have hv1 : 0 ≤ v := by simpa using hv0
        clear hv
        go_wp2_with fail
        refine (only_any (c :: s) W (by simp; omega)).mono ?_
        rintro en w ⟨rfl, hx⟩
        have HX := Lib.hid hx
        clear hx
        have HN : Hid (nameR (c :: s) = (c :: s).all sgn) := Lib.hid (by unfold nameR; simp [h16, hl])
        generalize (c :: s).all sgn = q at *
        go_wp2_with fail
        go_ret
        exact ⟨by rw [HN.out]; rfl, HX.out⟩
      · have hl' : ltr c = false := by simpa using hl
        have hv0 : decide (0 ≤ v) = false := by rw [hv, hl']
        have hv1 : ¬ 0 ≤ v := by simpa using hv0
        have HN : Hid (nameR (c :: s) = false) := Lib.hid (by unfold nameR; simp [hl'])
        clear hv
        go_wp2_with fail
        go_ret
        exact ⟨by rw [HN.out]; rfl, Ext.refl _⟩
    · skip
      go_enter Tryd.func39, Tryd.ntmps39
      have HN : Hid (nameR (c :: s) = false) := Lib.hid (by unfold nameR; simp [h16])
      go_wp2_with fail
      go_ret
      exact ⟨by rw [HN.out]; rfl, Ext.refl _⟩
end Go.Proofs.YtnemipgmkenemaaDoor

namespace Go.Proofs.YtnemipgmkenemaaDoor
set_option linter.unusedSimpArgs false
set_option linter.unusedVariables false
open Go Go.RowKit
/-- The set of the right names of a list. -/
@[irreducible] def nameSet (l : List (List UInt8)) : List (List UInt8) := Lib.compact ((l.filter nameR).mergeSort fun x y => decide (x ≤ y))
/-- A new slice of strings. -/
def NewStr (W w' : World) (a : Option Addr) (c : Nat) (xs : List (List UInt8)) : Prop := FreshI W w' (rowI 9 1 (.slice a xs.length c) xs.length (cellsL xs))
theorem NewStr.fl {W w' : World} {a : Option Addr} {c : Nat} {xs : List (List UInt8)} (h : NewStr W w' a c xs) : (xs.length ≤ c ∧ c ≤ maxLen) ∧ Fl w' a xs.length xs := FreshI.fl h
end Go.Proofs.YtnemipgmkenemaaDoor

namespace Go.Proofs.YtnemipgmkenemaaDoor
set_option linter.unusedSimpArgs false
set_option linter.unusedVariables false
open Go Go.RowKit
/-- A slice of slices. -/
def slsR {α : Type} [Flt α] : World → Nat → Nat → List α → Prop := fun w b o x => ∃ a n c, w.cell? ⟨b, o, none⟩ = some (.slice a n c) ∧ Fl w a n x
instance slsR_stb {α : Type} [Flt α] : Stb (slsR (α := α)) := ⟨fun _ _ _ _ _ hx ⟨a, n, c, h1, h2⟩ => ⟨a, n, c, hx.cell h1, h2.ext hx⟩⟩
end Go.Proofs.YtnemipgmkenemaaDoor

namespace Go.Proofs.YtnemipgmkenemaaDoor
set_option linter.unusedSimpArgs false
set_option linter.unusedVariables false
open Go Go.RowKit
end Go.Proofs.YtnemipgmkenemaaDoor

namespace Go.Proofs.YtnemipgmkenemaaDoor
set_option linter.unusedSimpArgs false
set_option linter.unusedVariables false
open Go Go.RowKit
end Go.Proofs.YtnemipgmkenemaaDoor

namespace Go.Proofs.YtnemipgmkenemaaDoor
set_option linter.unusedSimpArgs false
set_option linter.unusedVariables false
open Go Go.RowKit
theorem nameR_len {s : List UInt8} (h : nameR s = true) : 1 ≤ s.length ∧ s.length ≤ 16 := by
  cases s with
  | nil => simp [nameR] at h
  | cons c s => simp [nameR] at h; simp; omega
end Go.Proofs.YtnemipgmkenemaaDoor

namespace Go.Proofs.YtnemipgmkenemaaDoor
set_option linter.unusedSimpArgs false
set_option linter.unusedVariables false
open Go Go.RowKit
end Go.Proofs.YtnemipgmkenemaaDoor

namespace Go.Proofs.YtnemipgmkenemaaDoor
set_option linter.unusedSimpArgs false
set_option linter.unusedVariables false
open Go Go.RowKit
end Go.Proofs.YtnemipgmkenemaaDoor

namespace Go.Proofs.YtnemipgmkenemaaDoor
set_option linter.unusedSimpArgs false
set_option linter.unusedVariables false
open Go Go.RowKit
section
variable {P : Program} {fn : Func} {R : Ending → World → Prop} {a : Act} {w : World} {p u g : Nat} {ty : TypeId} {d : TypeDesc} {vs : List Value}
theorem bodyPost_cell (h : fn.results = #[.cell p ty]) (hp : a.tmps.getD p undef = .pointer (some ⟨g, 0, none⟩)) (hb : Blk w g vs) (hu : P.underlying ty = some d) (hd : (match d with | .struct _ | .array _ _ => true | _ => false) = true) (hi : (P.info? ty).map (·.size) = some vs.length)
    (hdef : a.defers = []) (hR : R (.returned (.agg vs.toArray)) w) : bodyPost P fn R .ret a w := by
  obtain ⟨t, hb⟩ := hb
  exact bodyPost_ret (results_cell_row h a.tmps w g t vs.toArray (0, 0) d hp hb hu hd (by simpa using hi)) hdef hR
theorem bodyPost_cell2 (h : fn.results = #[.cell p ty, .tmp u]) (hp : a.tmps.getD p undef = .pointer (some ⟨g, 0, none⟩)) (hb : Blk w g vs) (hu : P.underlying ty = some d) (hd : (match d with | .struct _ | .array _ _ => true | _ => false) = true) (hi : (P.info? ty).map (·.size) = some vs.length)
    (hdef : a.defers = []) (hR : R (.returned (.tuple #[.agg vs.toArray, a.tmps.getD u undef])) w) : bodyPost P fn R .ret a w := by
  obtain ⟨t, hb⟩ := hb
  refine bodyPost_ret (v := .tuple #[.agg vs.toArray, a.tmps.getD u undef]) ?_ hdef hR
  rw [results_cell_tmp h]
  rw [hp]
  simp [asAddr, run_loadVar_row w g t ty vs.toArray (0, 0) d hb hu hd (by simpa using hi), Result.andThen]
end
end Go.Proofs.YtnemipgmkenemaaDoor

namespace Go.Proofs.YtnemipgmkenemaaDoor
set_option linter.unusedSimpArgs false
set_option linter.unusedVariables false
open Go Go.RowKit
abbrev Role := List UInt8 × List UInt8
instance fltRole : Flt Role := ⟨2, fun r => [S r.1, S r.2], fun _ => rfl, by decide, fun x u hu => by simp at hu; rcases hu with rfl | rfl <;> rfl⟩
theorem fltRole_k : Flt.k Role = 2 := rfl
/-- A role as a value. -/
def rV (r : Role) : Value := .agg #[S r.1, S r.2]
def roleR (r : Role) : Bool := nameR r.1 && nameR r.2
def roleT (r : Role) : List UInt8 := r.1 ++ [46] ++ r.2
def roleB (r : Role) : List UInt8 := (numB r.1.length ++ r.1) ++ (numB r.2.length ++ r.2)
set_option maxRecDepth 100000 in
set_option maxHeartbeats 1000000 in
theorem roleRight_any (r : Role) (W : World) (h1 : r.1.length ≤ 100000) (h2 : r.2.length ≤ 100000) : Calls Tryd.prog 29 #[rV r] W fun e w' => e = .returned (.bool (roleR r)) ∧ Ext W w' := by
  obtain ⟨o, d⟩ := r
  simp only at h1 h2
  have st := Own.startOld W
  unfold rV roleR S
  (try simp only [nsl, Value.cells, unB] at st)
  (try clear hc); have hc := st.facts; (try simp only [nfl, nft, Nat.reduceAdd] at hc)
  go_enter Tryd.func29, Tryd.ntmps29
  go_wp2_with ((((with_reducible refine wl_box ?_ (fun K hK => ?_)); rfl; refine owp_box (o := ⟨some 1, _, _, _, _, _⟩) rfl st ?_; apply Exists.intro; refine ⟨?_, ?_⟩; (focus (go_simp; try rfl)); (clear st; intro b1 w hb st; clear hb))); (try simp only [nsl, Value.cells, unB] at st); (try clear hc); have hc := st.facts; (try simp only [nfl, nft, Nat.reduceAdd] at hc))
  refine (right_any o _ h1).mono ?_
  rintro en w ⟨rfl, hx⟩
  replace st := st.ext hx
  clear hx
  (try clear hc); have hc := st.facts; (try simp only [nfl, nft, Nat.reduceAdd] at hc)
  cases hr : nameR o with
  | true =>
    go_wp2_with ((((with_reducible refine wl_box ?_ (fun K hK => ?_)); rfl; refine owp_box (o := ⟨some 1, _, _, _, _, _⟩) rfl st ?_; apply Exists.intro; refine ⟨?_, ?_⟩; (focus (go_simp; try rfl)); (clear st; intro b1 w hb st; clear hb))); (try simp only [nsl, Value.cells, unB] at st); (try clear hc); have hc := st.facts; (try simp only [nfl, nft, Nat.reduceAdd] at hc))
    refine (right_any d _ h2).mono ?_
    rintro en w ⟨rfl, hx⟩
    replace st := st.ext hx
    clear hx
    (try clear hc); have hc := st.facts; (try simp only [nfl, nft, Nat.reduceAdd] at hc)
    go_wp2_with ((((with_reducible refine wl_box ?_ (fun K hK => ?_)); rfl; refine owp_box (o := ⟨some 1, _, _, _, _, _⟩) rfl st ?_; apply Exists.intro; refine ⟨?_, ?_⟩; (focus (go_simp; try rfl)); (clear st; intro b1 w hb st; clear hb))); (try simp only [nsl, Value.cells, unB] at st); (try clear hc); have hc := st.facts; (try simp only [nfl, nft, Nat.reduceAdd] at hc))
    go_ret
    exact ⟨by simp [hr], st.ext0⟩
  | false =>
    go_wp2_with ((((with_reducible refine wl_box ?_ (fun K hK => ?_)); rfl; refine owp_box (o := ⟨some 1, _, _, _, _, _⟩) rfl st ?_; apply Exists.intro; refine ⟨?_, ?_⟩; (focus (go_simp; try rfl)); (clear st; intro b1 w hb st; clear hb))); (try simp only [nsl, Value.cells, unB] at st); (try clear hc); have hc := st.facts; (try simp only [nfl, nft, Nat.reduceAdd] at hc))
    go_ret
    exact ⟨by simp [hr], st.ext0⟩
set_option maxRecDepth 100000 in
set_option maxHeartbeats 1000000 in
theorem roleText_any (r : Role) (W : World) (hl : r.1.length + r.2.length ≤ 4000000000) : Calls Tryd.prog 23 #[rV r] W fun e w' => e = .returned (S (roleT r)) ∧ Ext W w' := by
  have happ := ba_append
  have happ2 : ∀ a : List UInt8, (⟨a.toArray⟩ : ByteArray) ++ ⟨#[46]⟩ = ⟨(a ++ [46]).toArray⟩ := fun a => ba_append a [46]
  obtain ⟨o, d⟩ := r
  simp only at hl
  have st := Own.startOld W
  unfold rV roleT S
  (try simp only [nsl, Value.cells, unB] at st)
  (try clear hc); have hc := st.facts; (try simp only [nfl, nft, Nat.reduceAdd] at hc)
  go_enter Tryd.func23, Tryd.ntmps23
  go_wp2_with ((((with_reducible refine wl_box ?_ (fun K hK => ?_)); rfl; refine owp_box (o := ⟨some 1, _, _, _, _, _⟩) rfl st ?_; apply Exists.intro; refine ⟨?_, ?_⟩; (focus (go_simp; try rfl)); (clear st; intro b1 w hb st; clear hb))); (try simp only [nsl, Value.cells, unB] at st); (try clear hc); have hc := st.facts; (try simp only [nfl, nft, Nat.reduceAdd] at hc))
  go_ret
  exact ⟨by simp, st.ext0⟩
end Go.Proofs.YtnemipgmkenemaaDoor

namespace Go.Proofs.YtnemipgmkenemaaDoor
set_option linter.unusedSimpArgs false
set_option linter.unusedVariables false
open Go Go.RowKit
/-- The first dot parts a text. -/
def cutDot : List UInt8 → Option (List UInt8 × List UInt8)
  | [] => none
  | x :: s => if x = 46 then some ([], s) else (cutDot s).map fun p => (x :: p.1, p.2)
theorem cutDot_none : ∀ {s : List UInt8}, (∀ x ∈ s, x ≠ 46) → cutDot s = none
  | [], _ => rfl
  | x :: s, h => by
    rw [cutDot, if_neg (h x (by simp)), cutDot_none fun y hy => h y (List.mem_cons_of_mem _ hy)]; rfl
theorem cutDot_at : ∀ {s : List UInt8} {j : Nat}, s[j]? = some 46 → (∀ x ∈ s.take j, x ≠ 46) → cutDot s = some (s.take j, s.drop (j + 1))
  | [], j, h, _ => by simp at h
  | x :: s, 0, h, _ => by simp at h; subst h; simp [cutDot]
  | x :: s, j + 1, h, hp => by
    have ih := cutDot_at (s := s) (j := j) (by simpa using h) fun y hy => hp y (by simp [hy])
    rw [cutDot, if_neg (hp x (by simp)), ih]; simp
/-- Which role a text is. -/
def roleP (s : List UInt8) : Option Role := match cutDot s with
  | none => none
  | some r => if roleR r = true then some r else none
def roleP1 (s : List UInt8) : Role := (roleP s).getD ([], [])
theorem cut_ix (s : List UInt8) : (Lib.indexByte s 46 = -1 ∧ cutDot s = none) ∨ ∃ j : Nat, Lib.indexByte s 46 = (j : Int) ∧ j < s.length ∧ cutDot s = some (s.take j, s.drop (j + 1)) := by
  have hge := Lib.indexByte_ge s 46
  by_cases h : Lib.indexByte s 46 = -1
  · refine .inl ⟨h, cutDot_none fun x hx e => ?_⟩
    obtain ⟨k, hk, hkx⟩ := List.getElem_of_mem hx
    exact Lib.indexByte_none h k (by rw [List.getElem?_eq_getElem hk, hkx, e])
  · obtain ⟨j, hj⟩ : ∃ j : Nat, Lib.indexByte s 46 = (j : Int) := ⟨(Lib.indexByte s 46).toNat, by omega⟩
    obtain ⟨h1, h2⟩ := Lib.indexByte_some hj
    refine .inr ⟨j, hj, (List.getElem?_eq_some_iff.1 h1).1, cutDot_at h1 fun x hx e => ?_⟩
    obtain ⟨k, hk, hkx⟩ := List.getElem_of_mem hx
    simp at hk hkx
    exact h2 k (by omega) (by rw [List.getElem?_eq_getElem (by omega), hkx, e])
set_option maxRecDepth 100000 in
set_option maxHeartbeats 1000000 in
theorem libCut_any (s : List UInt8) (W : World) (hs : s.length ≤ 100000000) : Calls Tryd.prog 81 #[S s, .string ⟨#[46]⟩] W fun e w' => e = .returned (.tuple (match cutDot s with | none => #[S s, S [], .bool false] | some p => #[S p.1, S p.2, .bool true])) ∧ Ext W w' := by
  have st := Own.startOld W
  have hix := cut_ix s
  have hsz : (⟨s.toArray⟩ : ByteArray).size = s.length := by simp [ByteArray.size]
  unfold S
  (try simp only [nsl, Value.cells, unB] at st)
  (try clear hc); have hc := st.facts; (try simp only [nfl, nft, Nat.reduceAdd] at hc)
  rcases hix with ⟨hi, hc0⟩ | ⟨j, hi, hj, hc0⟩
  · rw [hc0]
    have HI := Lib.hid hi
    clear hi hc0
    go_enter Tryd.func81, Tryd.ntmps81
    go_wp2_with fail
    refine (Tryd.stringslite_Index_one ⟨s.toArray⟩ 46 _).mono ?_
    rintro en w' ⟨rfl, rfl⟩
    rw [show Lib.indexByte (⟨s.toArray⟩ : ByteArray).data.toList 46 = -1 from HI.out]
    go_wp2_with fail
    go_ret3
    exact ⟨rfl, st.ext0⟩
  · rw [hc0]
    have HI := Lib.hid hi
    clear hi hc0
    go_enter Tryd.func81, Tryd.ntmps81
    go_wp2_with fail
    refine (Tryd.stringslite_Index_one ⟨s.toArray⟩ 46 _).mono ?_
    rintro en w' ⟨rfl, rfl⟩
    rw [show Lib.indexByte (⟨s.toArray⟩ : ByteArray).data.toList 46 = (j : Int) from HI.out]
    go_wp2_with fail
    have hw1 : IntKind.i64.wrap ((j : Int) + 1) = ((j + 1 : Nat) : Int) := IntWalk.i64_in _ ⟨by omega, by omega⟩
    refine Rg4.wp_region4_eq #[0, 0, 3, 0, 0, 0, 32, 112, 248, 7, 1023, 2047] [] [] (fun _ => True) [0, 1, 2, 3, 4, 5, 6, 7, 8, 9, 10, 11] (by kernel_rfl) (by kernel_rfl) (by kernel_rfl) (by kernel_rfl) (show Rg4.PB _ by repeat (first | with_reducible exact Rg4.pb_body | with_reducible exact Rg4.pb_bodyD rfl | with_reducible refine Rg4.pb_then ?_ | with_reducible refine Rg4.pb_inBlock ?_ | with_reducible refine Rg4.pb_noGoto ?_ | with_reducible assumption)) (trivial) ?_
    replace st := st.drew
    change Rg4.wp4 _ _ _ _ _ _ _ _ _ (World.drew _) _ _
    generalize World.drew _ = w at st ⊢
    (try clear hc); have hc := st.facts; (try simp only [nfl, nft, Nat.reduceAdd] at hc)
    iterate 12 (refine Rg4.w4_any (Rg4.want_none rfl) rfl ?_; apply Exists.intro; refine ⟨fun w' => ?_, ?_⟩; (focus (first | (go_simp; done) | (go_simp; first | rfl | (rw [if_neg] <;> first | rfl | omega) | (rw [if_pos] <;> first | rfl | omega)))); (try simp only [Rg4.nrm]))
    refine Rg4.w4_nil (fun w' hw' hcl' _ => ?_); subst hw'; clear hcl'
    have e1 : (⟨s.toArray⟩ : ByteArray).extract 0 j = ⟨(s.take j).toArray⟩ := by apply ByteArray.ext; rw [ByteArray.data_extract]; simp [List.extract_eq_take_drop]
    have e2 : (⟨s.toArray⟩ : ByteArray).extract (j + 1) s.length = ⟨(s.drop (j + 1)).toArray⟩ := by apply ByteArray.ext; rw [ByteArray.data_extract]; simp only [List.extract_toArray, List.extract_eq_take_drop]; rw [List.take_of_length_le (by simp)]
    go_wp2_with fail
    rw [e1, e2]
    go_ret3
    exact ⟨rfl, st.ext0⟩
end Go.Proofs.YtnemipgmkenemaaDoor

namespace Go.Proofs.YtnemipgmkenemaaDoor
set_option linter.unusedSimpArgs false
set_option linter.unusedVariables false
open Go Go.RowKit
def cutR (s : List UInt8) : List UInt8 × List UInt8 × Bool := match cutDot s with | none => (s, [], false) | some p => (p.1, p.2, true)
theorem libCut_v (s : List UInt8) (W : World) (hs : s.length ≤ 100000000) : Calls Tryd.prog 81 #[S s, .string ⟨#[46]⟩] W fun e w' => e = .returned (.tuple #[S (cutR s).1, S (cutR s).2.1, .bool (cutR s).2.2]) ∧ Ext W w' :=
  (libCut_any s W hs).mono fun _ _ h => ⟨h.1.trans (by unfold cutR; cases cutDot s <;> rfl), h.2⟩
theorem cutDot_le {s : List UInt8} {p : List UInt8 × List UInt8} (h : cutDot s = some p) : p.1.length ≤ s.length ∧ p.2.length ≤ s.length := by
  rcases cut_ix s with ⟨_, h0⟩ | ⟨j, _, hj, h0⟩
  · rw [h0] at h; cases h
  · rw [h0] at h; cases h; simp; omega
theorem cutR_le (s : List UInt8) : (cutR s).1.length ≤ s.length ∧ (cutR s).2.1.length ≤ s.length := by
  unfold cutR
  cases h : cutDot s with
  | none => simp
  | some p => exact cutDot_le h
theorem cutR_P (s : List UInt8) : roleP s = if roleR ((cutR s).1, (cutR s).2.1) = true then some ((cutR s).1, (cutR s).2.1) else none := by
  unfold cutR roleP
  cases cutDot s with
  | none => simp [roleR, nameR_nil]
  | some p => rfl
set_option maxRecDepth 100000 in
set_option maxHeartbeats 1000000 in
theorem strCut_any (s : List UInt8) (W : World) (hs : s.length ≤ 100000000) : Calls Tryd.prog 73 #[S s, .string ⟨#[46]⟩] W fun e w' => e = .returned (.tuple #[S (cutR s).1, S (cutR s).2.1, .bool (cutR s).2.2]) ∧ Ext W w' := by
  have st := Own.startOld W
  have HC := Lib.hid (libCut_v s)
  unfold S at *
  (try simp only [nsl, Value.cells, unB] at st)
  (try clear hc); have hc := st.facts; (try simp only [nfl, nft, Nat.reduceAdd] at hc)
  go_enter Tryd.func73, Tryd.ntmps73
  go_wp2_with fail
  refine (HC.out _ hs).mono ?_
  rintro en w ⟨rfl, hx⟩
  replace st := st.ext hx
  clear hx
  (try clear hc); have hc := st.facts; (try simp only [nfl, nft, Nat.reduceAdd] at hc)
  go_wp2_with fail
  go_ret3
  exact ⟨rfl, st.ext0⟩
set_option maxRecDepth 100000 in
set_option maxHeartbeats 1000000 in
theorem roleParse_any (s : List UInt8) (W : World) (hs : s.length ≤ 100000) : Calls Tryd.prog 64 #[S s] W fun e w' => e = .returned (.tuple #[rV (roleP1 s), .bool (roleP s).isSome]) ∧ Ext W w' := by
  have HP := Lib.hid (cutR_P s)
  have hl := cutR_le s
  have HC := Lib.hid (strCut_any s)
  have HR := Lib.hid (roleRight_any ((cutR s).1, (cutR s).2.1))
  unfold roleP1
  generalize cutR s = c at *
  obtain ⟨o, d, ok⟩ := c
  simp only at hl
  have st := Own.startOld W
  unfold rV S at *
  (try simp only [nsl, Value.cells, unB] at st)
  (try clear hc); have hc := st.facts; (try simp only [nfl, nft, Nat.reduceAdd] at hc)
  go_enter Tryd.func64, Tryd.ntmps64
  go_wp2_with ((first
        | ((with_reducible refine wl_alloc ?_ (fun K hK => ?_)); rfl; refine owp_alloc (o := ⟨some 2, _, _, _, _, _⟩) rfl st ?_; apply Exists.intro; apply Exists.intro; refine ⟨?_, ?_⟩; (focus (first | (go_simp; done) | (go_simp; rfl))); (clear st; intro b2 w hb st; clear hb))
        | ((with_reducible refine wl_alloc ?_ (fun K hK => ?_)); rfl; refine owp_alloc (o := ⟨some 7, _, _, _, _, _⟩) rfl st ?_; apply Exists.intro; apply Exists.intro; refine ⟨?_, ?_⟩; (focus (first | (go_simp; done) | (go_simp; rfl))); (clear st; intro b7 w hb st; clear hb))
        | ((with_reducible refine wl_store ?_ (fun K hK => ?_)); rfl; refine owp_store rfl st ?_; apply Exists.intro; apply Exists.intro; refine ⟨?_, ?_, ?_⟩; (focus (go_simp; try rfl)); (focus (go_simp; try rfl)); (first | (with_reducible refine ⟨0, _, _, _, _, get0, rfl, rfl, ?_, ?_, ?_, ?_⟩) | (with_reducible refine ⟨1, _, _, _, _, get1, rfl, rfl, ?_, ?_, ?_, ?_⟩) | (with_reducible refine ⟨2, _, _, _, _, get2, rfl, rfl, ?_, ?_, ?_, ?_⟩) | (with_reducible refine ⟨3, _, _, _, _, get3, rfl, rfl, ?_, ?_, ?_, ?_⟩) | (with_reducible refine ⟨4, _, _, _, _, get4, rfl, rfl, ?_, ?_, ?_, ?_⟩) | (with_reducible refine ⟨5, _, _, _, _, get5, rfl, rfl, ?_, ?_, ?_, ?_⟩) | (with_reducible refine ⟨6, _, _, _, _, get6, rfl, rfl, ?_, ?_, ?_, ?_⟩) | (with_reducible refine ⟨7, _, _, _, _, get7, rfl, rfl, ?_, ?_, ?_, ?_⟩)); (kernel_rfl); (simp [Value.cells]); (rfl); (clear st; intro w st))); (try simp only [nsl, Value.cells, unB] at st); (try clear hc); have hc := st.facts; (try simp only [nfl, nft, Nat.reduceAdd] at hc))
  refine (HC.out _ (by omega)).mono ?_
  rintro en w ⟨rfl, hx⟩
  replace st := st.ext hx
  clear hx
  (try clear hc); have hc := st.facts; (try simp only [nfl, nft, Nat.reduceAdd] at hc)
  go_wp2_with ((first
        | ((with_reducible refine wl_alloc ?_ (fun K hK => ?_)); rfl; refine owp_alloc (o := ⟨some 2, _, _, _, _, _⟩) rfl st ?_; apply Exists.intro; apply Exists.intro; refine ⟨?_, ?_⟩; (focus (first | (go_simp; done) | (go_simp; rfl))); (clear st; intro b2 w hb st; clear hb))
        | ((with_reducible refine wl_alloc ?_ (fun K hK => ?_)); rfl; refine owp_alloc (o := ⟨some 7, _, _, _, _, _⟩) rfl st ?_; apply Exists.intro; apply Exists.intro; refine ⟨?_, ?_⟩; (focus (first | (go_simp; done) | (go_simp; rfl))); (clear st; intro b7 w hb st; clear hb))
        | ((with_reducible refine wl_store ?_ (fun K hK => ?_)); rfl; refine owp_store rfl st ?_; apply Exists.intro; apply Exists.intro; refine ⟨?_, ?_, ?_⟩; (focus (go_simp; try rfl)); (focus (go_simp; try rfl)); (first | (with_reducible refine ⟨0, _, _, _, _, get0, rfl, rfl, ?_, ?_, ?_, ?_⟩) | (with_reducible refine ⟨1, _, _, _, _, get1, rfl, rfl, ?_, ?_, ?_, ?_⟩) | (with_reducible refine ⟨2, _, _, _, _, get2, rfl, rfl, ?_, ?_, ?_, ?_⟩) | (with_reducible refine ⟨3, _, _, _, _, get3, rfl, rfl, ?_, ?_, ?_, ?_⟩) | (with_reducible refine ⟨4, _, _, _, _, get4, rfl, rfl, ?_, ?_, ?_, ?_⟩) | (with_reducible refine ⟨5, _, _, _, _, get5, rfl, rfl, ?_, ?_, ?_, ?_⟩) | (with_reducible refine ⟨6, _, _, _, _, get6, rfl, rfl, ?_, ?_, ?_, ?_⟩) | (with_reducible refine ⟨7, _, _, _, _, get7, rfl, rfl, ?_, ?_, ?_, ?_⟩)); (kernel_rfl); (simp [Value.cells]); (rfl); (clear st; intro w st))); (try simp only [nsl, Value.cells, unB] at st); (try clear hc); have hc := st.facts; (try simp only [nfl, nft, Nat.reduceAdd] at hc))
  refine (HR.out _ (by omega) (by omega)).mono ?_
  rintro en w ⟨rfl, hx⟩
  replace st := st.ext hx
  clear hx
  (try clear hc); have hc := st.facts; (try simp only [nfl, nft, Nat.reduceAdd] at hc)
  cases hr : roleR (o, d) with
  | true =>
    have HQ : Hid (roleP s = some (o, d)) := Lib.hid (by rw [HP.out]; simp [hr])
    clear hr
    go_wp2_with ((first
          | ((with_reducible refine wl_alloc ?_ (fun K hK => ?_)); rfl; refine owp_alloc (o := ⟨some 2, _, _, _, _, _⟩) rfl st ?_; apply Exists.intro; apply Exists.intro; refine ⟨?_, ?_⟩; (focus (first | (go_simp; done) | (go_simp; rfl))); (clear st; intro b2 w hb st; clear hb))
          | ((with_reducible refine wl_alloc ?_ (fun K hK => ?_)); rfl; refine owp_alloc (o := ⟨some 7, _, _, _, _, _⟩) rfl st ?_; apply Exists.intro; apply Exists.intro; refine ⟨?_, ?_⟩; (focus (first | (go_simp; done) | (go_simp; rfl))); (clear st; intro b7 w hb st; clear hb))
          | ((with_reducible refine wl_store ?_ (fun K hK => ?_)); rfl; refine owp_store rfl st ?_; apply Exists.intro; apply Exists.intro; refine ⟨?_, ?_, ?_⟩; (focus (go_simp; try rfl)); (focus (go_simp; try rfl)); (first | (with_reducible refine ⟨0, _, _, _, _, get0, rfl, rfl, ?_, ?_, ?_, ?_⟩) | (with_reducible refine ⟨1, _, _, _, _, get1, rfl, rfl, ?_, ?_, ?_, ?_⟩) | (with_reducible refine ⟨2, _, _, _, _, get2, rfl, rfl, ?_, ?_, ?_, ?_⟩) | (with_reducible refine ⟨3, _, _, _, _, get3, rfl, rfl, ?_, ?_, ?_, ?_⟩) | (with_reducible refine ⟨4, _, _, _, _, get4, rfl, rfl, ?_, ?_, ?_, ?_⟩) | (with_reducible refine ⟨5, _, _, _, _, get5, rfl, rfl, ?_, ?_, ?_, ?_⟩) | (with_reducible refine ⟨6, _, _, _, _, get6, rfl, rfl, ?_, ?_, ?_, ?_⟩) | (with_reducible refine ⟨7, _, _, _, _, get7, rfl, rfl, ?_, ?_, ?_, ?_⟩)); (kernel_rfl); (simp [Value.cells]); (rfl); (clear st; intro w st))); (try simp only [nsl, Value.cells, unB] at st); (try clear hc); have hc := st.facts; (try simp only [nfl, nft, Nat.reduceAdd] at hc))
    (try simp only [Exit.inBlock, Exit.then])
    refine bodyPost_cell2 rfl rfl (st.blk (i := 1) get1) Tryd.underlying23 rfl (by kernel_rfl) rfl ?_
    rw [HQ.out]
    exact ⟨rfl, st.ext0⟩
  | false =>
    have HQ : Hid (roleP s = none) := Lib.hid (by rw [HP.out]; simp [hr])
    clear hr
    go_wp2_with ((first
          | ((with_reducible refine wl_alloc ?_ (fun K hK => ?_)); rfl; refine owp_alloc (o := ⟨some 2, _, _, _, _, _⟩) rfl st ?_; apply Exists.intro; apply Exists.intro; refine ⟨?_, ?_⟩; (focus (first | (go_simp; done) | (go_simp; rfl))); (clear st; intro b2 w hb st; clear hb))
          | ((with_reducible refine wl_alloc ?_ (fun K hK => ?_)); rfl; refine owp_alloc (o := ⟨some 7, _, _, _, _, _⟩) rfl st ?_; apply Exists.intro; apply Exists.intro; refine ⟨?_, ?_⟩; (focus (first | (go_simp; done) | (go_simp; rfl))); (clear st; intro b7 w hb st; clear hb))
          | ((with_reducible refine wl_store ?_ (fun K hK => ?_)); rfl; refine owp_store rfl st ?_; apply Exists.intro; apply Exists.intro; refine ⟨?_, ?_, ?_⟩; (focus (go_simp; try rfl)); (focus (go_simp; try rfl)); (first | (with_reducible refine ⟨0, _, _, _, _, get0, rfl, rfl, ?_, ?_, ?_, ?_⟩) | (with_reducible refine ⟨1, _, _, _, _, get1, rfl, rfl, ?_, ?_, ?_, ?_⟩) | (with_reducible refine ⟨2, _, _, _, _, get2, rfl, rfl, ?_, ?_, ?_, ?_⟩) | (with_reducible refine ⟨3, _, _, _, _, get3, rfl, rfl, ?_, ?_, ?_, ?_⟩) | (with_reducible refine ⟨4, _, _, _, _, get4, rfl, rfl, ?_, ?_, ?_, ?_⟩) | (with_reducible refine ⟨5, _, _, _, _, get5, rfl, rfl, ?_, ?_, ?_, ?_⟩) | (with_reducible refine ⟨6, _, _, _, _, get6, rfl, rfl, ?_, ?_, ?_, ?_⟩) | (with_reducible refine ⟨7, _, _, _, _, get7, rfl, rfl, ?_, ?_, ?_, ?_⟩)); (kernel_rfl); (simp [Value.cells]); (rfl); (clear st; intro w st))); (try simp only [nsl, Value.cells, unB] at st); (try clear hc); have hc := st.facts; (try simp only [nfl, nft, Nat.reduceAdd] at hc))
    (try simp only [Exit.inBlock, Exit.then])
    refine bodyPost_cell2 rfl rfl (st.blk (i := 1) get1) Tryd.underlying23 rfl (by kernel_rfl) rfl ?_
    rw [HQ.out]
    exact ⟨rfl, st.ext0⟩
theorem roleP_at {s : List UInt8} {j : Nat} (h : s[j]? = some 46) (hp : ∀ x ∈ s.take j, x ≠ 46) : roleP s = if roleR (s.take j, s.drop (j + 1)) = true then some (s.take j, s.drop (j + 1)) else none := by
  unfold roleP; rw [cutDot_at h hp]
end Go.Proofs.YtnemipgmkenemaaDoor

namespace Go.Proofs.YtnemipgmkenemaaDoor
set_option linter.unusedSimpArgs false
set_option linter.unusedVariables false
open Go Go.RowKit
theorem nameR_dot {s : List UInt8} (h : nameR s = true) : ∀ x ∈ s, x ≠ 46 := by
  have key : ∀ c : UInt8, sgn c = true → c ≠ 46 := fun c hc e => by subst e; revert hc; decide
  cases s with
  | nil => intro x hx; simp at hx
  | cons c s =>
    have hl : (decide (s.length + 1 ≤ 16) && ltr c && (c :: s).all sgn) = true := h
    simp only [Bool.and_eq_true, List.all_eq_true] at hl
    intro x hx
    exact key x (hl.2 x hx)
theorem roleP_text (x : Role) (h : roleR x = true) : roleP (roleT x) = some x := by
  obtain ⟨o, d⟩ := x
  have hr : nameR o = true ∧ nameR d = true := by simpa [roleR] using h
  have h1 : (roleT (o, d))[o.length]? = some 46 := by simp [roleT]
  have h2 : (roleT (o, d)).take o.length = o := by simp [roleT]
  have h3 : (roleT (o, d)).drop (o.length + 1) = d := by simp [roleT]
  rw [roleP_at h1 (by rw [h2]; exact nameR_dot hr.1), h2, h3, if_pos h]
end Go.Proofs.YtnemipgmkenemaaDoor

namespace Go.Proofs.YtnemipgmkenemaaDoor
set_option linter.unusedSimpArgs false
set_option linter.unusedVariables false
open Go Go.RowKit
/-- A formula as it lies in memory: op, k, role, and where its kids lie. -/
inductive Fm | mk (op k : Int) (r : Role) (a : Option Addr) (n c : Nat) (kids : List Fm)
/-- A formula as what it says. -/
inductive Fo | mk (op k : Int) (r : Role) (kids : List Fo)
instance : Inhabited Fm := ⟨.mk 0 0 ([], []) none 0 0 []⟩
instance : Inhabited Fo := ⟨.mk 0 0 ([], []) []⟩
theorem Fm.ind {P : Fm → Prop} (h : ∀ op k r a n c kids, (∀ x ∈ kids, P x) → P (.mk op k r a n c kids)) (f : Fm) : P f :=
  Fm.rec (motive_1 := P) (motive_2 := fun l => ∀ x ∈ l, P x) (fun op k r a n c kids ih => h op k r a n c kids ih) (fun x hx => by simp at hx) (fun x l hx hl y hy => by
    rcases List.mem_cons.1 hy with e | e
    · exact e ▸ hx
    · exact hl y e) f
theorem Fo.ind {P : Fo → Prop} (h : ∀ op k r kids, (∀ x ∈ kids, P x) → P (.mk op k r kids)) (f : Fo) : P f :=
  Fo.rec (motive_1 := P) (motive_2 := fun l => ∀ x ∈ l, P x) (fun op k r kids ih => h op k r kids ih) (fun x hx => by simp at hx) (fun x l hx hl y hy => by
    rcases List.mem_cons.1 hy with e | e
    · exact e ▸ hx
    · exact hl y e) f
def fmC : Fm → List Value
  | .mk op k r a n c _ => [.int .i64 op, .int .i64 k, S r.1, S r.2, .slice a n c]
def fmV : Fm → Value
  | .mk op k r a n c _ => .agg #[.int .i64 op, .int .i64 k, S r.1, S r.2, .slice a n c]
instance fltFm : Flt Fm := ⟨5, fmC, fun x => by cases x; rfl, by decide, fun x u hu => by cases x; simp [fmC] at hu; rcases hu with rfl | rfl | rfl | rfl | rfl <;> rfl⟩
/-- The kids lie where they are said to lie, in blocks of s, all the way down. -/
inductive FmIn (s : Nat → Prop) (w : World) : Fm → Prop
  | mk {op k : Int} {r : Role} {a : Option Addr} {n c : Nat} {kids : List Fm} (hc : n ≤ c ∧ c ≤ maxLen) (hf : Fl w a n kids) (hs : 0 < n → ∀ ad, a = some ad → s ad.block) (hk : ∀ x ∈ kids, FmIn s w x) : FmIn s w (.mk op k r a n c kids)
def FmOk (w : World) (f : Fm) : Prop := FmIn (fun _ => True) w f
section
variable {s s' : Nat → Prop} {w w' : World}
theorem FmIn.cap {op k : Int} {r : Role} {a : Option Addr} {n c : Nat} {kids : List Fm} (h : FmIn s w (.mk op k r a n c kids)) : n ≤ c ∧ c ≤ maxLen := by cases h; assumption
theorem FmIn.fl {op k : Int} {r : Role} {a : Option Addr} {n c : Nat} {kids : List Fm} (h : FmIn s w (.mk op k r a n c kids)) : Fl w a n kids := by cases h; assumption
theorem FmIn.kids {op k : Int} {r : Role} {a : Option Addr} {n c : Nat} {kids : List Fm} (h : FmIn s w (.mk op k r a n c kids)) : ∀ x ∈ kids, FmIn s w x := by cases h; assumption
theorem FmIn.ad {op k : Int} {r : Role} {a : Option Addr} {n c : Nat} {kids : List Fm} (h : FmIn s w (.mk op k r a n c kids)) : 0 < n → ∀ ad, a = some ad → s ad.block := by cases h; assumption
theorem FmIn.to {f : Fm} (h : FmIn s w f) (hs : ∀ b, s b → s' b) : FmIn s' w f := by
  induction h with
  | mk hc hf hs0 _ ih => exact .mk hc hf (fun h0 ad e => hs _ (hs0 h0 ad e)) ih
theorem FmIn.ok {f : Fm} (h : FmIn s w f) : FmOk w f := h.to fun _ _ => trivial
theorem Fl.agree {α : Type} [Flt α] {a : Option Addr} {n : Nat} {xs : List α} (h : Fl w a n xs) (hag : 0 < n → ∀ ad, a = some ad → w'.heap[ad.block]? = w.heap[ad.block]?) : Fl w' a n xs := by
  refine ⟨h.1, fun h0 => ?_⟩
  obtain ⟨b, off, rfl, hc⟩ := h.2 h0
  refine ⟨b, off, rfl, fun i x hi j v hj => ?_⟩
  have hb : w'.heap[b]? = w.heap[b]? := hag h0 ⟨b, off, none⟩ rfl
  rw [World.cell?_of_block (w := w) hb]
  exact hc i x hi j v hj
theorem FmIn.agree {f : Fm} (h : FmIn s w f) (hag : ∀ b, s b → w'.heap[b]? = w.heap[b]?) : FmIn s w' f := by
  induction h with
  | mk hc hf hs0 _ ih => exact .mk hc (hf.agree fun h0 ad e => hag _ (hs0 h0 ad e)) hs0 ih
theorem FmIn.ext {f : Fm} (h : FmIn s w f) (hx : Ext w w') : FmIn s w' f := by
  induction h with
  | mk hc hf hs0 _ ih => exact .mk hc (Arr.ext hf hx) hs0 ih
theorem FmOk.ext {f : Fm} (h : FmOk w f) (hx : Ext w w') : FmOk w' f := FmIn.ext h hx
theorem Fl.lt {α : Type} [Flt α] {a : Option Addr} {n : Nat} {xs : List α} (h : Fl w a n xs) (h0 : 0 < n) (ad : Addr) (had : a = some ad) : ad.block < w.heap.size := by
  obtain ⟨b, off, hb, hc⟩ := h.2 h0
  rw [had] at hb
  cases hb
  have hx : 0 < xs.length := by have := h.1; omega
  have hk := Flt.pos (α := α)
  have h2 : 0 < (Flt.cells xs[0]).length := by rw [Flt.len]; exact hk
  exact World.block_lt_of_cell? w ⟨b, off + 0 * Flt.k α + 0, none⟩ (hc 0 _ (List.getElem?_eq_getElem hx) 0 _ (List.getElem?_eq_getElem h2))
theorem FmIn.lt {f : Fm} (h : FmIn s w f) : FmIn (fun b => b < w.heap.size) w f := by
  induction h with
  | mk hc hf hs0 _ ih => exact .mk hc hf (fun h0 ad e => hf.lt h0 ad e) ih
/-- The cells of a kid. -/
theorem Fl.fm {a : Option Addr} {n : Nat} {xs : List Fm} (h : Fl w a n xs) (h0 : 0 < n) : ∃ b off, a = some ⟨b, off, none⟩ ∧ ∀ (j : Nat) op k r a' n' c' kids', xs[j]? = some (.mk op k r a' n' c' kids') → w.cell? ⟨b, off + j * 5, none⟩ = some (.int .i64 op) ∧ w.cell? ⟨b, off + j * 5 + 1, none⟩ = some (.int .i64 k) ∧ w.cell? ⟨b, off + j * 5 + 2, none⟩ = some (S r.1) ∧ w.cell? ⟨b, off + j * 5 + 3, none⟩ = some (S r.2) ∧ w.cell? ⟨b, off + j * 5 + 4, none⟩ = some (.slice a' n' c') := by
  obtain ⟨b, off, rfl, hc⟩ := h.2 h0
  exact ⟨b, off, rfl, fun j op k r a' n' c' kids' hj => ⟨hc j _ hj 0 _ rfl, hc j _ hj 1 _ rfl, hc j _ hj 2 _ rfl, hc j _ hj 3 _ rfl, hc j _ hj 4 _ rfl⟩⟩
end
/-- A formula as a shared piece of memory; formulas one behind another. -/
def fmI (f : Fm) : It where
  P _ s w := FmIn s w f
  st := fun h hag => h.agree fun b hb => hag b (.inr hb)
  facts _ := True
  ok := fun _ => trivial
def fmsI (l : List Fm) : It where
  P _ s w := ∀ f ∈ l, FmIn s w f
  st := fun h hag f hf => (h f hf).agree fun b hb => hag b (.inr hb)
  facts _ := True
  ok := fun _ => trivial
section
variable {fr al : Nat → Prop} {w0 w : World} {L : List It}
theorem Own.fm (st : Own fr al w0 L w) {i : Nat} {f : Fm} (hi : L[i]? = some (fmI f)) : FmOk w f := let ⟨_, _, h, _⟩ := st.get hi; FmIn.ok h
theorem Own.fmOf (st : Own fr al w0 L w) {i : Nat} {l : List Fm} (hi : L[i]? = some (fmsI l)) {x : Fm} (hx : x ∈ l) : Own fr al w0 (L ++ [fmI x]) w :=
  st.share hi fun e s h => h x hx
end
mutual
def Fm.strip : Fm → Fo
  | .mk op k r _ _ _ kids => .mk op k r (stripL kids)
def stripL : List Fm → List Fo
  | [] => []
  | x :: l => x.strip :: stripL l
end
theorem stripL_eq : ∀ l : List Fm, stripL l = l.map Fm.strip
  | [] => rfl
  | x :: l => by rw [stripL, stripL_eq l]; rfl
theorem strip_mk (op k : Int) (r : Role) (a : Option Addr) (n c : Nat) (kids : List Fm) : (Fm.mk op k r a n c kids).strip = .mk op k r (kids.map Fm.strip) := by rw [Fm.strip, stripL_eq]
mutual
def Fo.nodes : Fo → Nat
  | .mk _ _ _ kids => 1 + nodesL kids
def nodesL : List Fo → Nat
  | [] => 0
  | x :: l => x.nodes + nodesL l
end
theorem nodesL_snoc : ∀ (l : List Fo) (x : Fo), nodesL (l ++ [x]) = nodesL l + x.nodes
  | [], x => by simp [nodesL]
  | y :: l, x => by rw [List.cons_append, nodesL, nodesL_snoc l x, nodesL]; omega
theorem nodes_pos (f : Fo) : 1 ≤ f.nodes := by cases f; rw [Fo.nodes]; omega
theorem nodesL_len : ∀ l : List Fo, l.length ≤ nodesL l
  | [] => by simp [nodesL]
  | x :: l => by have := nodesL_len l; have := nodes_pos x; rw [nodesL, List.length_cons]; omega
theorem nodesL_mem : ∀ (l : List Fo) (x : Fo), x ∈ l → x.nodes ≤ nodesL l
  | [], x, h => by simp at h
  | y :: l, x, h => by
    rw [nodesL]
    rcases List.mem_cons.1 h with e | e
    · subst e; omega
    · have := nodesL_mem l x e; omega
theorem nodesL_take : ∀ (l : List Fo) (j : Nat), nodesL (l.take j) ≤ nodesL l
  | [], j => by simp [nodesL]
  | x :: l, 0 => by simp [nodesL]
  | x :: l, j + 1 => by have := nodesL_take l j; rw [List.take_succ_cons, nodesL, nodesL]; omega
mutual
def Fo.deep : Fo → Nat
  | .mk _ _ _ kids => deepL kids + 1
def deepL : List Fo → Nat
  | [] => 0
  | x :: l => max x.deep (deepL l)
end
theorem deepL_snoc : ∀ (l : List Fo) (x : Fo), deepL (l ++ [x]) = max (deepL l) x.deep
  | [], x => by simp [deepL]
  | y :: l, x => by rw [List.cons_append, deepL, deepL_snoc l x, deepL]; omega
theorem deepL_mem : ∀ (l : List Fo) (x : Fo), x ∈ l → x.deep ≤ deepL l
  | [], x, h => by simp at h
  | y :: l, x, h => by
    rw [deepL]
    rcases List.mem_cons.1 h with e | e
    · subst e; omega
    · have := deepL_mem l x e; omega
theorem deep_nodes (f : Fo) : f.deep ≤ f.nodes := by
  refine Fo.ind (P := fun f => f.deep ≤ f.nodes) (fun op k r kids ih => ?_) f
  rw [Fo.deep, Fo.nodes]
  have : deepL kids ≤ nodesL kids := by
    clear op k r
    induction kids with
    | nil => simp [deepL]
    | cons x l ihl =>
      have h1 := ih x (by simp)
      have h2 := ihl fun y hy => ih y (by simp [hy])
      rw [deepL, nodesL]
      omega
  omega
/-- A node that may be, but for its kids. -/
def nodeR (op k : Int) (r : Role) (n : Nat) : Bool :=
  if op = 1 then roleR r && decide (n = 0) && decide (k = 0)
  else if op = 2 ∨ op = 3 then decide (r = ([], [])) && decide (k = 0)
  else decide (op = 4) && decide (r = ([], [])) && decide (0 ≤ k) && decide (k ≤ (n : Int)) && decide (1 ≤ n)
mutual
def Fo.well : Fo → Bool
  | .mk op k r kids => nodeR op k r kids.length && decide (kids.length ≤ 8) && wellL kids
def wellL : List Fo → Bool
  | [] => true
  | x :: l => x.well && wellL l
end
theorem wellL_all : ∀ l : List Fo, wellL l = l.all Fo.well
  | [] => rfl
  | x :: l => by rw [wellL, wellL_all l]; rfl
/-- Right formulas. -/
def foR (f : Fo) : Bool := decide (f.nodes ≤ 64) && decide (f.deep ≤ 6) && f.well
mutual
def Fo.atoms : Fo → List Role
  | .mk op _ r kids => if op = 1 then [r] else atomsL kids
def atomsL : List Fo → List Role
  | [] => []
  | x :: l => x.atoms ++ atomsL l
end
/-- True, of a right one. -/
def truth (op k : Int) (n m : Nat) : Bool := if op = 2 then decide (m = n) else if op = 3 then decide (0 < m) else decide (k ≤ (m : Int))
mutual
def Fo.holds (is : Role → Bool) : Fo → Bool
  | .mk op k r kids => if op = 1 then is r else truth op k kids.length (holdsL is kids)
def holdsL (is : Role → Bool) : List Fo → Nat
  | [] => 0
  | x :: l => (if x.holds is then 1 else 0) + holdsL is l
end
theorem holdsL_snoc (is : Role → Bool) : ∀ (l : List Fo) (x : Fo), holdsL is (l ++ [x]) = holdsL is l + (if x.holds is then 1 else 0)
  | [], x => by simp [holdsL]
  | y :: l, x => by rw [List.cons_append, holdsL, holdsL_snoc is l x, holdsL]; omega
theorem holdsL_le (is : Role → Bool) : ∀ l : List Fo, holdsL is l ≤ l.length
  | [] => by simp [holdsL]
  | x :: l => by have := holdsL_le is l; rw [holdsL, List.length_cons]; split <;> omega
mutual
def Fo.bytes : Fo → List UInt8
  | .mk op k r kids => numB op.toNat ++ (if op = 1 then roleB r else (if op = 4 then numB k.toNat else []) ++ numB kids.length ++ bytesL kids)
def bytesL : List Fo → List UInt8
  | [] => []
  | x :: l => x.bytes ++ bytesL l
end
mutual
def Fo.great : Fo → Nat
  | .mk _ _ r kids => 1 + (r.1.length + r.2.length) / 16 + greatL kids
def greatL : List Fo → Nat
  | [] => 0
  | x :: l => x.great + greatL l
end
theorem greatL_snoc : ∀ (l : List Fo) (x : Fo), greatL (l ++ [x]) = greatL l + x.great
  | [], x => by simp [greatL]
  | y :: l, x => by rw [List.cons_append, greatL, greatL_snoc l x, greatL]; omega
theorem greatL_mem : ∀ (l : List Fo) (x : Fo), x ∈ l → x.great ≤ greatL l
  | [], x, h => by simp at h
  | y :: l, x, h => by
    rw [greatL]
    rcases List.mem_cons.1 h with e | e
    · subst e; omega
    · have := greatL_mem l x e; omega
theorem great_nodes (f : Fo) : f.nodes ≤ f.great := by
  refine Fo.ind (P := fun f => f.nodes ≤ f.great) (fun op k r kids ih => ?_) f
  rw [Fo.great, Fo.nodes]
  have : nodesL kids ≤ greatL kids := by
    clear op k r
    induction kids with
    | nil => simp [nodesL]
    | cons x l ihl =>
      have h1 := ih x (by simp)
      have h2 := ihl fun y hy => ih y (by simp [hy])
      rw [nodesL, greatL]
      omega
  omega
/-- All texts of a formula are at most so long. -/
inductive FoL (b : Nat) : Fo → Prop
  | mk {op k : Int} {r : Role} {kids : List Fo} (h1 : r.1.length ≤ b) (h2 : r.2.length ≤ b) (hk : ∀ x ∈ kids, FoL b x) : FoL b (.mk op k r kids)
theorem great_L (f : Fo) (b : Nat) (h : f.great ≤ b) : FoL (16 * b) f := by
  refine Fo.ind (P := fun f => f.great ≤ b → FoL (16 * b) f) (fun op k r kids ih h => ?_) f h
  rw [Fo.great] at h
  exact .mk (by omega) (by omega) fun x hx => ih x hx (by have := greatL_mem kids x hx; omega)
theorem FoL.role {b : Nat} {op k : Int} {r : Role} {kids : List Fo} (h : FoL b (.mk op k r kids)) : r.1.length ≤ b ∧ r.2.length ≤ b := by cases h; exact ⟨by assumption, by assumption⟩
theorem FoL.kids {b : Nat} {op k : Int} {r : Role} {kids : List Fo} (h : FoL b (.mk op k r kids)) : ∀ x ∈ kids, FoL b x := by cases h; assumption
theorem FoL.atoms {b : Nat} {f : Fo} (h : FoL b f) : ∀ r ∈ f.atoms, r.1.length ≤ b ∧ r.2.length ≤ b := by
  refine Fo.ind (P := fun f => FoL b f → ∀ r ∈ f.atoms, r.1.length ≤ b ∧ r.2.length ≤ b) (fun op k r kids ih h => ?_) f h
  rw [Fo.atoms]
  split
  · intro q hq; rw [List.mem_singleton.1 hq]; exact h.role
  · have hk := h.kids
    clear h
    induction kids with
    | nil => simp [atomsL]
    | cons x l ihl =>
      intro q hq
      rw [atomsL] at hq
      rcases List.mem_append.1 hq with e | e
      · exact ih x (by simp) (hk x (by simp)) q e
      · exact ihl (fun y hy => ih y (by simp [hy])) (fun y hy => hk y (by simp [hy])) q e
end Go.Proofs.YtnemipgmkenemaaDoor

namespace Go.Proofs.YtnemipgmkenemaaDoor
set_option linter.unusedSimpArgs false
set_option linter.unusedVariables false
open Go Go.RowKit
abbrev Tok := List UInt8
def blB (c : UInt8) : Bool := c == 32 || c == 9 || c == 10
def sgB (c : UInt8) : Bool := (decide (97 ≤ c) && decide (c ≤ 122)) || (decide (48 ≤ c) && decide (c ≤ 57)) || c == 45 || c == 46
def mkB (c : UInt8) : Bool := c == 40 || c == 41 || c == 44
theorem blB_sg {c : UInt8} (h : blB c = true) : sgB c = false ∧ mkB c = false := by
  unfold blB at h
  simp only [Bool.or_eq_true, beq_iff_eq] at h
  rcases h with (rfl | rfl) | rfl <;> decide
theorem mkB_sg {c : UInt8} (h : mkB c = true) : sgB c = false ∧ blB c = false := by
  unfold mkB at h
  simp only [Bool.or_eq_true, beq_iff_eq] at h
  rcases h with (rfl | rfl) | rfl <;> decide
/-- A step of the reader: the next word or mark, and the rest; none: another byte. -/
def stepP (s : List UInt8) : Option (Tok × List UInt8) :=
  match s.dropWhile blB with
  | [] => some ([], [])
  | c :: r => if sgB c = true then some ((c :: r).takeWhile sgB, (c :: r).dropWhile sgB) else if mkB c = true then some ([c], r) else none
/-- What is left says these words; b: and then comes another byte. -/
inductive Lx : Bool → List UInt8 → List Tok → Prop
  | done {s : List UInt8} (h : stepP s = some ([], [])) : Lx false s []
  | bad {s : List UInt8} (h : stepP s = none) : Lx true s []
  | more {b : Bool} {s r : List UInt8} {w : Tok} {l : List Tok} (h : stepP s = some (w, r)) (hw : w ≠ []) (hl : Lx b r l) : Lx b s (w :: l)
theorem dropWhile_len {p : UInt8 → Bool} : ∀ s : List UInt8, (s.dropWhile p).length ≤ s.length
  | [] => by simp
  | c :: s => by
    rw [List.dropWhile_cons]
    split
    · have := dropWhile_len (p := p) s; simp; omega
    · simp
theorem stepP_len {s r : List UInt8} {w : Tok} (h : stepP s = some (w, r)) (hw : w ≠ []) : r.length < s.length := by
  unfold stepP at h
  have hl := dropWhile_len (p := blB) s
  split at h
  · injection h with h; injection h with h1 h2; exact absurd h1.symm hw
  · rename_i c q e
    rw [e, List.length_cons] at hl
    split at h
    · rename_i hc
      injection h with h; injection h with h1 h2
      rw [← h2, List.dropWhile_cons, if_pos hc]
      have := dropWhile_len (p := sgB) q
      omega
    · split at h
      · injection h with h; injection h with h1 h2
        rw [← h2]; omega
      · cases h
theorem takeWhile_cons_ne {p : UInt8 → Bool} {c : UInt8} {r : List UInt8} (h : p c = true) : (c :: r).takeWhile p ≠ [] := by
  rw [List.takeWhile_cons, if_pos h]
  simp
theorem stepP_nil {s r : List UInt8} (h : stepP s = some ([], r)) : r = [] := by
  unfold stepP at h
  split at h
  · injection h with h; injection h with h1 h2; exact h2.symm
  · split at h
    · rename_i hc
      injection h with h; injection h with h1 h2
      exact absurd h1 (takeWhile_cons_ne hc)
    · split at h
      · injection h with h; injection h with h1 h2; cases h1
      · cases h
theorem lx_ex : ∀ (n : Nat) (s : List UInt8), s.length ≤ n → ∃ b l, Lx b s l := by
  intro n
  induction n with
  | zero =>
    intro s hs
    obtain rfl : s = [] := List.eq_nil_of_length_eq_zero (by omega)
    exact ⟨false, [], .done rfl⟩
  | succ n ih =>
    intro s hs
    cases h : stepP s with
    | none => exact ⟨true, [], .bad h⟩
    | some p =>
      obtain ⟨w, r⟩ := p
      by_cases hw : w = []
      · subst hw
        have := stepP_nil h
        subst this
        exact ⟨false, [], .done h⟩
      · have hl := stepP_len h hw
        obtain ⟨b, l, hx⟩ := ih r (by omega)
        exact ⟨b, w :: l, .more h hw hx⟩
theorem lx_len {b : Bool} {s : List UInt8} {l : List Tok} (h : Lx b s l) : l.length ≤ s.length := by
  induction h with
  | done h => simp
  | bad h => simp
  | more h hw _ ih => have := stepP_len h hw; simp; omega
end Go.Proofs.YtnemipgmkenemaaDoor

namespace Go.Proofs.YtnemipgmkenemaaDoor
set_option linter.unusedSimpArgs false
set_option linter.unusedVariables false
open Go Go.RowKit
def tOpen : Tok := [40]
def tShut : Tok := [41]
def tComma : Tok := [44]
def tAll : Tok := [97, 108, 108]
def tSome : Tok := [115, 111, 109, 101]
def tAt : Tok := [97, 116]
def tAnd : Tok := [97, 110, 100]
def tOr : Tok := [111, 114]
/-- The word that is next (empty: none is left). -/
def nxT (t : List Tok) : Tok := t.head?.getD []
/-- One word on. -/
def stT (b : Bool) (t : List Tok) : Option (List Tok) := if b = true ∧ t.tail = [] then none else some t.tail
/-- A word that must be next. -/
def takeP (b : Bool) (w : Tok) (t : List Tok) : Option (List Tok) := if nxT t = w then stT b t else none
def digV (k : Tok) : Nat := k.foldl (fun n c => 10 * n + (c.toNat - 48)) 0
def digOk (k : Tok) : Bool := k.all (fun c => decide (48 ≤ c) && decide (c ≤ 57)) && decide (k ≠ []) && decide (k.length ≤ 2) && !(decide (k.length = 2) && decide (k.head? = some 48))
def digP (k : Tok) : Option Nat := if digOk k = true then some (digV k) else none
abbrev PRes := Option (Fo × List Tok)
/-- More of them, each behind a word; g: at most so many. -/
def moreP (b : Bool) (w : Tok) (one : List Tok → PRes) : Nat → List Fo → List Tok → Option (List Fo × List Tok)
  | 0, l, t => some (l, t)
  | g + 1, l, t => if nxT t = w then (stT b t).bind fun t1 => (one t1).bind fun p => moreP b w one g (l ++ [p.1]) p.2 else some (l, t)
def joined (op : Int) (l : List Fo) : Fo :=
  match l with
  | [x] => x
  | l => .mk op 0 ([], []) l
def joinP (b : Bool) (w : Tok) (op : Int) (one : List Tok → PRes) (t : List Tok) : PRes :=
  (one t).bind fun p => (moreP b w one p.2.length [p.1] p.2).map fun q => (joined op q.1, q.2)
def bothP (b : Bool) (one : List Tok → PRes) (t : List Tok) : PRes := joinP b tAnd 2 one t
def anyP (b : Bool) (one : List Tok → PRes) (t : List Tok) : PRes := joinP b tOr 3 (bothP b one) t
def listP (b : Bool) (one : List Tok → PRes) (t : List Tok) : Option (List Fo × List Tok) :=
  (takeP b tOpen t).bind fun t1 =>
    if nxT t1 = tShut then (stT b t1).map fun t2 => ([], t2) else
      (anyP b one t1).bind fun p => (moreP b tComma (anyP b one) p.2.length [p.1] p.2).bind fun q => (takeP b tShut q.2).map fun t3 => (q.1, t3)
def oneB (b : Bool) (one : List Tok → PRes) (t : List Tok) : PRes :=
  if nxT t = tOpen then (stT b t).bind fun t1 => (anyP b one t1).bind fun p => (takeP b tShut p.2).map fun t2 => (p.1, t2)
  else if nxT t = tAll then (stT b t).bind fun t1 => (listP b one t1).map fun q => (.mk 2 0 ([], []) q.1, q.2)
  else if nxT t = tSome then (stT b t).bind fun t1 => (listP b one t1).map fun q => (.mk 3 0 ([], []) q.1, q.2)
  else if nxT t = tAt then (stT b t).bind fun t1 => (digP (nxT t1)).bind fun k => (stT b t1).bind fun t2 => (listP b one t2).map fun q => (.mk 4 (k : Int) ([], []) q.1, q.2)
  else (roleP (nxT t)).bind fun r => (stT b t).map fun t1 => (.mk 1 0 r [], t1)
def oneP (b : Bool) : Nat → List Tok → PRes
  | 0, _ => none
  | f + 1, t => oneB b (oneP b f) t
/-- Fewer words are left. -/
def Short (one : List Tok → PRes) : Prop := ∀ t x t', one t = some (x, t') → t'.length ≤ t.length
theorem stT_len {b : Bool} {t t' : List Tok} (h : stT b t = some t') : t'.length ≤ t.length ∧ t' = t.tail := by
  unfold stT at h
  split at h
  · cases h
  · injection h with h; subst h; exact ⟨by simp, rfl⟩
theorem takeP_len {b : Bool} {w : Tok} {t t' : List Tok} (h : takeP b w t = some t') : t'.length ≤ t.length := by
  unfold takeP at h
  split at h
  · exact (stT_len h).1
  · cases h
theorem moreP_len {b : Bool} {w : Tok} {one : List Tok → PRes} (ho : Short one) : ∀ (g : Nat) (l : List Fo) (t : List Tok) (l' : List Fo) (t' : List Tok), moreP b w one g l t = some (l', t') → t'.length ≤ t.length := by
  intro g
  induction g with
  | zero => intro l t l' t' h; simp only [moreP, Option.some.injEq, Prod.mk.injEq] at h; rw [h.2]; exact Nat.le_refl _
  | succ g ih =>
    intro l t l' t' h
    rw [moreP] at h
    split at h
    · rw [Option.bind_eq_some_iff] at h
      obtain ⟨t1, h1, h2⟩ := h
      rw [Option.bind_eq_some_iff] at h2
      obtain ⟨⟨x, t2⟩, h3, h4⟩ := h2
      have := (stT_len h1).1
      have := ho _ _ _ h3
      have := ih _ _ _ _ h4
      simp only at this
      omega
    · simp only [Option.some.injEq, Prod.mk.injEq] at h; rw [h.2]; exact Nat.le_refl _
theorem joinP_short {b : Bool} {w : Tok} {op : Int} {one : List Tok → PRes} (ho : Short one) : Short (joinP b w op one) := by
  intro t x t' h
  unfold joinP at h
  rw [Option.bind_eq_some_iff] at h
  obtain ⟨⟨y, t1⟩, h1, h2⟩ := h
  rw [Option.map_eq_some_iff] at h2
  obtain ⟨⟨l, t2⟩, h3, h4⟩ := h2
  simp only [Prod.mk.injEq] at h4
  obtain ⟨_, rfl⟩ := h4
  have := ho _ _ _ h1
  have := moreP_len ho _ _ _ _ _ h3
  simp only at this
  omega
theorem anyP_short {b : Bool} {one : List Tok → PRes} (ho : Short one) : Short (anyP b one) := joinP_short (joinP_short ho)
theorem listP_len {b : Bool} {one : List Tok → PRes} (ho : Short one) {t t' : List Tok} {l : List Fo} (h : listP b one t = some (l, t')) : t'.length ≤ t.length := by
  unfold listP at h
  rw [Option.bind_eq_some_iff] at h
  obtain ⟨t1, h1, h2⟩ := h
  have := takeP_len h1
  split at h2
  · rw [Option.map_eq_some_iff] at h2
    obtain ⟨t2, h3, h4⟩ := h2
    simp only [Prod.mk.injEq] at h4
    obtain ⟨_, rfl⟩ := h4
    have := (stT_len h3).1
    omega
  · rw [Option.bind_eq_some_iff] at h2
    obtain ⟨⟨x, t2⟩, h3, h4⟩ := h2
    rw [Option.bind_eq_some_iff] at h4
    obtain ⟨⟨q, t3⟩, h5, h6⟩ := h4
    rw [Option.map_eq_some_iff] at h6
    obtain ⟨t4, h7, h8⟩ := h6
    simp only [Prod.mk.injEq] at h8
    obtain ⟨_, rfl⟩ := h8
    have := anyP_short ho _ _ _ h3
    have := moreP_len (anyP_short ho) _ _ _ _ _ h5
    have := takeP_len h7
    simp only at *
    omega
theorem oneB_short {b : Bool} {one : List Tok → PRes} (ho : Short one) : Short (oneB b one) := by
  intro t x t' h
  unfold oneB at h
  split at h
  · rw [Option.bind_eq_some_iff] at h
    obtain ⟨t1, h1, h2⟩ := h
    rw [Option.bind_eq_some_iff] at h2
    obtain ⟨⟨y, t2⟩, h3, h4⟩ := h2
    rw [Option.map_eq_some_iff] at h4
    obtain ⟨t3, h5, h6⟩ := h4
    simp only [Prod.mk.injEq] at h6
    obtain ⟨_, rfl⟩ := h6
    have := (stT_len h1).1
    have := anyP_short ho _ _ _ h3
    have := takeP_len h5
    simp only at *
    omega
  · split at h
    · rw [Option.bind_eq_some_iff] at h
      obtain ⟨t1, h1, h2⟩ := h
      rw [Option.map_eq_some_iff] at h2
      obtain ⟨⟨l, t2⟩, h3, h4⟩ := h2
      simp only [Prod.mk.injEq] at h4
      obtain ⟨_, rfl⟩ := h4
      have := (stT_len h1).1
      have := listP_len ho h3
      omega
    · split at h
      · rw [Option.bind_eq_some_iff] at h
        obtain ⟨t1, h1, h2⟩ := h
        rw [Option.map_eq_some_iff] at h2
        obtain ⟨⟨l, t2⟩, h3, h4⟩ := h2
        simp only [Prod.mk.injEq] at h4
        obtain ⟨_, rfl⟩ := h4
        have := (stT_len h1).1
        have := listP_len ho h3
        omega
      · split at h
        · rw [Option.bind_eq_some_iff] at h
          obtain ⟨t1, h1, h2⟩ := h
          rw [Option.bind_eq_some_iff] at h2
          obtain ⟨k, _, h3⟩ := h2
          rw [Option.bind_eq_some_iff] at h3
          obtain ⟨t2, h4, h5⟩ := h3
          rw [Option.map_eq_some_iff] at h5
          obtain ⟨⟨l, t3⟩, h6, h7⟩ := h5
          simp only [Prod.mk.injEq] at h7
          obtain ⟨_, rfl⟩ := h7
          have := (stT_len h1).1
          have := (stT_len h4).1
          have := listP_len ho h6
          omega
        · rw [Option.bind_eq_some_iff] at h
          obtain ⟨r, _, h2⟩ := h
          rw [Option.map_eq_some_iff] at h2
          obtain ⟨t1, h3, h4⟩ := h2
          simp only [Prod.mk.injEq] at h4
          obtain ⟨_, rfl⟩ := h4
          have := (stT_len h3).1
          omega
theorem oneP_short (b : Bool) : ∀ f, Short (oneP b f)
  | 0 => fun t x t' h => by cases h
  | f + 1 => oneB_short (oneP_short b f)
end Go.Proofs.YtnemipgmkenemaaDoor

namespace Go.Proofs.YtnemipgmkenemaaDoor
set_option linter.unusedSimpArgs false
set_option linter.unusedVariables false
open Go Go.RowKit
@[irreducible] def setV (cs : List UInt8) : List Value := (List.range 256).map fun i => .bool (cs.any fun c => c.toNat == i)
theorem setV_len (cs : List UInt8) : (setV cs).length = 256 := by unfold setV; simp
theorem setV_at (cs : List UInt8) (c : UInt8) : (setV cs)[c.toNat]? = some (.bool (decide (c ∈ cs))) := by
  unfold setV
  have hc : c.toNat < 256 := UInt8.toNat_lt c
  rw [List.getElem?_map, List.getElem?_range hc, Option.map_some]
  congr 2
  rw [Bool.eq_iff_iff, List.any_eq_true, decide_eq_true_eq]
  constructor
  · rintro ⟨d, hd, e⟩
    rw [beq_iff_eq] at e
    rwa [← UInt8.toNat_inj.1 e]
  · intro h
    exact ⟨c, h, by simp⟩
theorem setV_put (cs : List UInt8) (c : UInt8) : (setV cs).set c.toNat (.bool true) = setV (cs ++ [c]) := by
  unfold setV
  apply List.ext_getElem?
  intro i
  rw [List.getElem?_set, List.getElem?_map, List.getElem?_map]
  by_cases hi : i < 256
  · rw [List.getElem?_range hi]
    simp only [Option.map_some, List.length_map, List.length_range, List.any_append, List.any_cons, List.any_nil, Bool.or_false]
    by_cases e : c.toNat = i
    · subst e; simp [hi]
    · simp [e]
  · rw [List.getElem?_eq_none (by simpa using hi)]
    have hc : c.toNat < 256 := UInt8.toNat_lt c
    simp; omega
theorem setV_one (cs : List UInt8) : (setV cs).all (·.oneCell') = true := by
  unfold setV
  rw [List.all_map, List.all_eq_true]
  intro i _
  rfl
theorem setV_nil : setV [] = List.replicate 256 (.bool false) := by
  unfold setV
  kernel_rfl
theorem spl_over : ∀ (cs pre suf : List Value), cs.length = suf.length → spl (pre ++ suf) pre.length cs = pre ++ cs
  | [], pre, suf, h => by
    obtain rfl : suf = [] := List.eq_nil_of_length_eq_zero h.symm
    rfl
  | c :: cs, pre, [], h => by simp at h
  | c :: cs, pre, d :: suf, h => by
    have := spl_over cs (pre ++ [c]) suf (by simpa using h)
    simp only [List.length_append, List.length_cons, List.length_nil, List.append_assoc, List.cons_append, List.nil_append] at this
    rw [spl, List.set_append_right _ _ (Nat.le_refl _), Nat.sub_self, List.set_cons_zero]
    exact this
theorem spl_all (vs : List Value) : spl vs 0 vs = vs := spl_over vs [] vs rfl
theorem spl_full (vs cs : List Value) (h : cs.length = vs.length) : spl vs 0 cs = cs := spl_over cs [] vs h
theorem spl_one (vs : List Value) (k : Nat) (v : Value) : spl vs k [v] = vs.set k v := rfl
theorem wl_load {P : Program} {Q : Exit → Act → World → Prop} {a : Act} {w : World} {ops : Array Oper} {rest : List Oper} {d : Option Tmp} {T : TypeId} {x : Operand} {ty : TypeId} {pos : String} {af : Array Edge} {gd : Option (Nat × Bool)} (hg : Region.wanted ⟨d, .load T x, ty, pos, af, gd⟩ (yielded ops a.tmps) = true)
    (h : ∀ K : Act → World → Prop, (∀ a w, wpList P ops Q rest a w → K a w) → Oper.wp P ⟨d, .load T x, ty, pos, af, gd⟩ a w K Q) : wpList P ops Q (⟨d, .load T x, ty, pos, af, gd⟩ :: rest) a w := wpl_at hg h
theorem owp_loadBlk {P : Program} {fr al : Nat → Prop} {w0 w : World} {L : List It} {o : Oper} {a : Act} {K : Act → World → Prop} {Q : Exit → Act → World → Prop} {T : TypeId} {x : Operand} (ho : o.op = .load T x) (st : Own fr al w0 L w) (i : Nat) {b : Nat} {vs : List Value} {d : TypeDesc} (hi : L[i]? = some (blkI b vs)) (hx : a.eval x = .pointer (some ⟨b, 0, none⟩)) (hu : P.underlying T = some d) (hd : (match d with | .struct _ | .array _ _ => true | _ => false) = true) (hT : (P.info? T).map (·.size) = some vs.length) (h : K (a.put o.dst (.agg vs.toArray)) w) : o.wp P a w K Q := by
  obtain ⟨t, hb⟩ := st.blk hi
  exact wp_load_row T x ho b hx t vs.toArray (0, 0) d hb hu hd (by simpa using hT) h
set_option maxRecDepth 100000 in
set_option maxHeartbeats 2000000 in
theorem makeSet_any (cs : List UInt8) (W : World) (h128 : ∀ c ∈ cs, c.toNat < 128) (hn : cs.length ≤ 1000) :
    Calls Tryd.prog 44 #[S cs] W fun e w' => e = .returned (.tuple #[.agg (setV cs).toArray, .bool true]) ∧ Ext W w' := by
  have H := Lib.hid h128
  clear h128
  have st := Own.startOld W
  unfold S
  (try simp only [nsl, Value.cells, unB] at st)
  (try clear hc); have hc := st.facts; (try simp only [nfl, nft, Nat.reduceAdd] at hc)
  go_enter Tryd.func44, Tryd.ntmps44
  go_wp2_with ((first
        | ((with_reducible refine wl_alloc ?_ (fun K hK => ?_)); rfl; refine owp_alloc (o := ⟨some 2, _, _, _, _, _⟩) rfl st ?_; apply Exists.intro; apply Exists.intro; refine ⟨?_, ?_⟩; (focus (first | (go_simp; done) | (go_simp; rfl))); (clear st; intro b2 w hb st; clear hb))
        | ((with_reducible refine wl_store ?_ (fun K hK => ?_)); rfl; refine owp_store rfl st ?_; apply Exists.intro; apply Exists.intro; refine ⟨?_, ?_, ?_⟩; (focus (go_simp; try rfl)); (focus (go_simp; try rfl)); (first | (with_reducible refine ⟨0, _, _, _, _, get0, rfl, rfl, ?_, ?_, ?_, ?_⟩) | (with_reducible refine ⟨1, _, _, _, _, get1, rfl, rfl, ?_, ?_, ?_, ?_⟩) | (with_reducible refine ⟨2, _, _, _, _, get2, rfl, rfl, ?_, ?_, ?_, ?_⟩)); (kernel_rfl); (simp [Value.cells]); (rfl); (clear st; intro w st))); (try simp only [nsl, Value.cells, unB] at st); (try clear hc); have hc := st.facts; (try simp only [nfl, nft, Nat.reduceAdd] at hc))
  have hz : Tryd.zeroCells78.toList = setV [] := by rw [setV_nil]; kernel_rfl
  rw [hz] at st
  clear hz hc
  obtain ⟨n, hnn⟩ : ∃ n, cs.length = n := ⟨_, rfl⟩
  have HN := Lib.hid hnn
  go_loopg [4] n (fun k i wr => ∃ (j : Nat), j ≤ n ∧ k = n - j ∧ i = .int .i64 (j : Int) ∧ Own (fun _ => False) (fun _ => True) W [oldI W, blkI b2 (setV (cs.take j))] wr)
  case atStart => exact ⟨0, by omega, by omega, rfl, by simpa using st⟩
  case round =>
    obtain ⟨j, hj, rfl, rfl, st'⟩ := hrel
    clear st
    have st := st'
    clear st'
    by_cases hjn : j < n
    · have hjl : j < cs.length := by omega
      have hlt := H.out _ (List.getElem_mem hjl)
      have hsn : cs.take (j + 1) = cs.take j ++ [cs[j]] := (List.take_append_getElem hjl).symm
      have hput := setV_put (cs.take j) cs[j]
      rw [← hsn] at hput
      have hix : cs[j]? = some cs[j] := List.getElem?_eq_getElem hjl
      obtain ⟨c, hcj⟩ : ∃ c, cs[j] = c := ⟨_, rfl⟩
      have hbg : ∀ h, (⟨cs.toArray⟩ : ByteArray)[j]'h = c := fun h => (ba_get cs j h).trans hcj
      rw [hcj] at hlt hsn hput hix
      have h256 : c.toNat < (setV (cs.take j)).length := by rw [setV_len]; omega
      have hc128 : ¬ (128 ≤ (c.toNat : Int)) := by omega
      have hcd : decide (128 ≤ (c.toNat : Int)) = false := by simpa using hc128
      clear hsn
      go_wp2_with ((with_reducible refine wl_store ?_ (fun K hK => ?_)); rfl; (refine owp_store rfl st ⟨⟨b2, c.toNat, none⟩, .bool true, ?_, rfl, 1, b2, c.toNat, setV (cs.take j), [.bool true], get1, rfl, rfl, (by kernel_rfl), (show c.toNat + 1 ≤ _ from h256), rfl, ?_⟩); (focus (go_simp; try rfl)); (clear st; intro w st; rw [spl_one, hput] at st; simp only [List.set] at st))
      go_roundg (n - (j + 1))
      case measure => omega
      case rel => exact ⟨j + 1, by omega, by omega, by go_num, st⟩
    · obtain rfl : n = j := by omega
      rw [List.take_of_length_le (by rw [HN.out]; exact Nat.le_refl _)] at st
      go_wp2_with (first
        | ((with_reducible refine wl_load ?_ (fun K hK => ?_)); rfl; (refine owp_loadBlk rfl st 1 get1 ?_ Tryd.underlying78 rfl (by rw [setV_len]; kernel_rfl) ?_); (focus (go_simp; try rfl)))
        | ((with_reducible refine wl_store ?_ (fun K hK => ?_)); rfl; (refine owp_store rfl st ⟨⟨b2, 0, none⟩, .agg (setV cs).toArray, ?_, ?_, 1, b2, 0, setV cs, setV cs, get1, rfl, (by simp [Value.cells]), (by rw [setV_len]; kernel_rfl), (by omega), setV_one cs, ?_⟩); (focus (go_simp; try rfl)); (focus (go_simp; try rfl)); (clear st; intro w st; rw [spl_all] at st; simp only [List.set] at st)))
      refine bodyPost_cell2 rfl rfl (st.blk (i := 1) get1) Tryd.underlying78 rfl (by rw [setV_len]; kernel_rfl) rfl ?_
      exact ⟨rfl, st.ext0⟩
set_option maxRecDepth 100000 in
set_option maxHeartbeats 2000000 in
theorem contains_any (cs : List UInt8) (c : UInt8) (b : Nat) (W : World) (hb : Blk W b (setV cs)) :
    Calls Tryd.prog 57 #[.pointer (some ⟨b, 0, none⟩), .int .u8 (c.toNat : Int)] W fun e w' => e = .returned (.bool (decide (c ∈ cs))) ∧ Ext W w' := by
  have r0 := hb.cell c.toNat
  rw [setV_at] at r0
  clear hb
  have hcb : ¬ (256 ≤ (c.toNat : Int)) := by have : c.toNat < 256 := UInt8.toNat_lt c; omega
  generalize decide (c ∈ cs) = d at *
  have st := Own.startOld W
  (try simp only [nsl, Value.cells, unB] at st)
  (try clear hc); have hc := st.facts; (try simp only [nfl, nft, elI, elF, Nat.reduceAdd] at hc)
  go_enter Tryd.func57, Tryd.ntmps57
  go_wp2_with fail
  go_ret
  exact ⟨rfl, st.ext0⟩
set_option maxRecDepth 100000 in
set_option maxHeartbeats 2000000 in
theorem trimAscii_any (cs s : List UInt8) (b : Nat) (W : World) (hb : Blk W b (setV cs)) (hn : s.length ≤ 1000000000) :
    Calls Tryd.prog 45 #[S s, .pointer (some ⟨b, 0, none⟩)] W fun e w' => e = .returned (S (s.dropWhile fun c => decide (c ∈ cs))) ∧ Ext W w' := by
  have HB := Lib.hid hb
  clear hb
  have st := Own.startOld W
  obtain ⟨r, hr⟩ : ∃ r, s.dropWhile (fun c => decide (c ∈ cs)) = r := ⟨_, rfl⟩
  have HR := Lib.hid hr
  rw [hr]
  clear hr
  unfold S
  (try simp only [nsl, Value.cells, unB] at st)
  (try clear hc); have hc := st.facts; (try simp only [nfl, nft, elI, elF, Nat.reduceAdd] at hc)
  go_enter Tryd.func45, Tryd.ntmps45
  go_wp2_with fail
  obtain ⟨m, hm⟩ : ∃ m, s.length = m := ⟨_, rfl⟩
  go_loopg [0] m (fun k v wr => ∃ (t : List UInt8), k = t.length ∧ v = .string ⟨t.toArray⟩ ∧ t.length ≤ m ∧ Hid (t.dropWhile (fun c => decide (c ∈ cs)) = r) ∧ Own (fun _ => False) (fun _ => True) W [oldI W] wr)
  case atStart => exact ⟨s, hm.symm, rfl, by omega, HR, st⟩
  case round =>
    obtain ⟨t, rfl, rfl, htm, HT, st'⟩ := hrel
    clear st
    have st := st'
    clear st'
    cases t with
    | nil =>
      have HF : Hid (r = []) := Lib.hid (by rw [← HT.out]; rfl)
      obtain rfl := HF.out
      (try simp only [nsl, Value.cells, unB] at st)
      (try clear hc); have hc := st.facts; (try simp only [nfl, nft, elI, elF, Nat.reduceAdd] at hc)
      go_wp2_with fail
      go_ret
      exact ⟨rfl, st.ext0⟩
    | cons c t =>
      have hbg : ∀ h, (⟨(c :: t).toArray⟩ : ByteArray)[0]'h = c := fun h => ba_get _ _ h
      have HC := Lib.hid (fun W' (hx : Ext W W') => contains_any cs c b W' (HB.out.ext hx))
      by_cases hcc : c ∈ cs
      · have HT2 : Hid (t.dropWhile (fun c => decide (c ∈ cs)) = r) := Lib.hid (by rw [← HT.out, List.dropWhile_cons, if_pos (decide_eq_true hcc)])
        rw [decide_eq_true hcc] at HC
        have htl := ba_tail c t
        (try simp only [nsl, Value.cells, unB] at st)
        (try clear hc); have hc := st.facts; (try simp only [nfl, nft, elI, elF, Nat.reduceAdd] at hc)
        go_wp2_with fail
        refine (HC.out _ st.ext0).mono ?_
        rintro en w ⟨rfl, hx⟩
        replace st := st.ext hx
        clear hx
        (try clear hc); have hc := st.facts; (try simp only [nfl, nft, elI, elF, Nat.reduceAdd] at hc)
        go_wp2_with fail
        go_roundg t.length
        case measure => simp
        case rel => exact ⟨t, rfl, rfl, by simp at htm; omega, HT2, st⟩
      · have HF : Hid (r = c :: t) := Lib.hid (by rw [← HT.out, List.dropWhile_cons, if_neg (by simpa using hcc)])
        rw [decide_eq_false hcc] at HC
        obtain rfl := HF.out
        (try simp only [nsl, Value.cells, unB] at st)
        (try clear hc); have hc := st.facts; (try simp only [nfl, nft, elI, elF, Nat.reduceAdd] at hc)
        go_wp2_with fail
        refine (HC.out _ st.ext0).mono ?_
        rintro en w ⟨rfl, hx⟩
        replace st := st.ext hx
        clear hx
        (try clear hc); have hc := st.facts; (try simp only [nfl, nft, elI, elF, Nat.reduceAdd] at hc)
        go_wp2_with fail
        go_ret
        exact ⟨rfl, st.ext0⟩
set_option maxRecDepth 100000 in
set_option maxHeartbeats 2000000 in
theorem trimLeft_any (cs s : List UInt8) (W : World) (h128 : ∀ c ∈ cs, c.toNat < 128) (hn : 2 ≤ cs.length ∧ cs.length ≤ 1000) (hs : s.length ≤ 1000000000) :
    Calls Tryd.prog 35 #[S s, S cs] W fun e w' => e = .returned (S (s.dropWhile fun c => decide (c ∈ cs))) ∧ Ext W w' := by
  have HM := Lib.hid (fun W => makeSet_any cs W h128 hn.2)
  have HT := Lib.hid (fun b W h => trimAscii_any cs s b W h hs)
  have HN := Lib.hid hn
  have st := Own.startOld W
  have hcE : cs.isEmpty = false := by cases cs with | nil => simp at hn | cons => rfl
  have hc1 : ((cs.length : Int) == 1) = false := by simp; omega
  unfold S at HM HT ⊢
  by_cases h0 : s = []
  · subst h0
    (try simp only [nsl, Value.cells, unB] at st)
    (try clear hc); have hc := st.facts; (try simp only [nfl, nft, Nat.reduceAdd] at hc)
    go_enter Tryd.func35, Tryd.ntmps35
    go_wp2_with ((first
          | ((with_reducible refine wl_alloc ?_ (fun K hK => ?_)); rfl; refine owp_alloc (o := ⟨some 5, _, _, _, _, _⟩) rfl st ?_; apply Exists.intro; apply Exists.intro; refine ⟨?_, ?_⟩; (focus (first | (go_simp; done) | (go_simp; rfl))); (clear st; intro b5 w hb st; clear hb))
          | ((with_reducible refine wl_store ?_ (fun K hK => ?_)); rfl; refine owp_store rfl st ?_; apply Exists.intro; apply Exists.intro; refine ⟨?_, ?_, ?_⟩; (focus (go_simp; try rfl)); (focus (go_simp; try rfl)); (first | (with_reducible refine ⟨0, _, _, _, _, get0, rfl, rfl, ?_, ?_, ?_, ?_⟩) | (with_reducible refine ⟨1, _, _, _, _, get1, rfl, rfl, ?_, ?_, ?_, ?_⟩) | (with_reducible refine ⟨2, _, _, _, _, get2, rfl, rfl, ?_, ?_, ?_, ?_⟩)); (kernel_rfl); (simp [Value.cells]); (rfl); (clear st; intro w st))); (try simp only [nsl, Value.cells, unB] at st); (try clear hc); have hc := st.facts; (try simp only [nfl, nft, Nat.reduceAdd] at hc))
    go_ret
    exact ⟨rfl, st.ext0⟩
  · have hsE : s.isEmpty = false := by cases s with | nil => exact absurd rfl h0 | cons => rfl
    (try simp only [nsl, Value.cells, unB] at st)
    (try clear hc); have hc := st.facts; (try simp only [nfl, nft, Nat.reduceAdd] at hc)
    go_enter Tryd.func35, Tryd.ntmps35
    go_wp2_with ((first
          | ((with_reducible refine wl_alloc ?_ (fun K hK => ?_)); rfl; refine owp_alloc (o := ⟨some 5, _, _, _, _, _⟩) rfl st ?_; apply Exists.intro; apply Exists.intro; refine ⟨?_, ?_⟩; (focus (first | (go_simp; done) | (go_simp; rfl))); (clear st; intro b5 w hb st; clear hb))
          | ((with_reducible refine wl_store ?_ (fun K hK => ?_)); rfl; refine owp_store rfl st ?_; apply Exists.intro; apply Exists.intro; refine ⟨?_, ?_, ?_⟩; (focus (go_simp; try rfl)); (focus (go_simp; try rfl)); (first | (with_reducible refine ⟨0, _, _, _, _, get0, rfl, rfl, ?_, ?_, ?_, ?_⟩) | (with_reducible refine ⟨1, _, _, _, _, get1, rfl, rfl, ?_, ?_, ?_, ?_⟩) | (with_reducible refine ⟨2, _, _, _, _, get2, rfl, rfl, ?_, ?_, ?_, ?_⟩)); (kernel_rfl); (simp [Value.cells]); (rfl); (clear st; intro w st))); (try simp only [nsl, Value.cells, unB] at st); (try clear hc); have hc := st.facts; (try simp only [nfl, nft, Nat.reduceAdd] at hc))
    refine (HM.out _).mono ?_
    rintro en w1 ⟨rfl, hx⟩
    replace st := st.ext hx
    clear hx
    have hz : Tryd.zeroCells78.toList = setV [] := by rw [setV_nil]; kernel_rfl
    have hzl : 0 + (setV cs).length ≤ Tryd.zeroCells78.toList.length := by rw [hz, setV_len, setV_len]; decide
    have hzs : spl Tryd.zeroCells78.toList 0 (setV cs) = setV cs := spl_full _ _ (by rw [hz, setV_len, setV_len])
    clear hz
    (try simp only [nsl, Value.cells, unB] at st)
    (try clear hc); have hc := st.facts; (try simp only [nfl, nft, Nat.reduceAdd] at hc)
    go_wp2_with (first
        | (((with_reducible refine wl_store ?_ (fun K hK => ?_)); rfl; (refine owp_store rfl st ⟨⟨b5, 0, none⟩, .agg (setV cs).toArray, ?_, ?_, 1, b5, 0, _, setV cs, get1, rfl, (by simp [Value.cells]), (by rw [setV_len]; kernel_rfl), hzl, setV_one cs, ?_⟩); (focus (go_simp; try rfl)); (focus (go_simp; try rfl)); (clear st; intro w st; rw [hzs] at st; simp only [List.set] at st)); (try simp only [nsl, Value.cells, unB] at st); (try clear hc); have hc := st.facts; (try simp only [nfl, nft, Nat.reduceAdd] at hc))
        | ((first
          | ((with_reducible refine wl_alloc ?_ (fun K hK => ?_)); rfl; refine owp_alloc (o := ⟨some 5, _, _, _, _, _⟩) rfl st ?_; apply Exists.intro; apply Exists.intro; refine ⟨?_, ?_⟩; (focus (first | (go_simp; done) | (go_simp; rfl))); (clear st; intro b5 w hb st; clear hb))
          | ((with_reducible refine wl_store ?_ (fun K hK => ?_)); rfl; refine owp_store rfl st ?_; apply Exists.intro; apply Exists.intro; refine ⟨?_, ?_, ?_⟩; (focus (go_simp; try rfl)); (focus (go_simp; try rfl)); (first | (with_reducible refine ⟨0, _, _, _, _, get0, rfl, rfl, ?_, ?_, ?_, ?_⟩) | (with_reducible refine ⟨1, _, _, _, _, get1, rfl, rfl, ?_, ?_, ?_, ?_⟩) | (with_reducible refine ⟨2, _, _, _, _, get2, rfl, rfl, ?_, ?_, ?_, ?_⟩)); (kernel_rfl); (simp [Value.cells]); (rfl); (clear st; intro w st))); (try simp only [nsl, Value.cells, unB] at st); (try clear hc); have hc := st.facts; (try simp only [nfl, nft, Nat.reduceAdd] at hc)))
    refine (HT.out _ _ (st.blk (i := 1) get1)).mono ?_
    rintro en w ⟨rfl, hx⟩
    replace st := st.ext hx
    clear hx
    (try clear hc); have hc := st.facts; (try simp only [nfl, nft, Nat.reduceAdd] at hc)
    go_wp2_with ((first
          | ((with_reducible refine wl_alloc ?_ (fun K hK => ?_)); rfl; refine owp_alloc (o := ⟨some 5, _, _, _, _, _⟩) rfl st ?_; apply Exists.intro; apply Exists.intro; refine ⟨?_, ?_⟩; (focus (first | (go_simp; done) | (go_simp; rfl))); (clear st; intro b5 w hb st; clear hb))
          | ((with_reducible refine wl_store ?_ (fun K hK => ?_)); rfl; refine owp_store rfl st ?_; apply Exists.intro; apply Exists.intro; refine ⟨?_, ?_, ?_⟩; (focus (go_simp; try rfl)); (focus (go_simp; try rfl)); (first | (with_reducible refine ⟨0, _, _, _, _, get0, rfl, rfl, ?_, ?_, ?_, ?_⟩) | (with_reducible refine ⟨1, _, _, _, _, get1, rfl, rfl, ?_, ?_, ?_, ?_⟩) | (with_reducible refine ⟨2, _, _, _, _, get2, rfl, rfl, ?_, ?_, ?_, ?_⟩)); (kernel_rfl); (simp [Value.cells]); (rfl); (clear st; intro w st))); (try simp only [nsl, Value.cells, unB] at st); (try clear hc); have hc := st.facts; (try simp only [nfl, nft, Nat.reduceAdd] at hc))
    go_ret
    exact ⟨rfl, st.ext0⟩
end Go.Proofs.YtnemipgmkenemaaDoor
