/- Logs: entries of one's own; what is shared, of any memory. -/
import Derived.Test.YtcminppmmhinjaaRow
import Derived.Test.YtcminppmmhinjaaSepT
namespace Go.Proofs.Ytcminppmmhinjaa
set_option linter.unusedSimpArgs false
set_option linter.unusedVariables false
open Go Go.RowKit
section
variable {fr al : Nat → Prop} {w0 w w' : World} {L : List It}
/-- Two items are seen as one. -/
theorem Own.conv2 (st : Own fr al w0 L w) {i j : Nat} {I J K : It} (hi : L[i]? = some I) (hj : L[j]? = some J) (hij : i ≠ j)
    (h : ∀ e s e' s' : Nat → Prop, I.P e s w → J.P e' s' w → (∀ b, e b → ¬ e' b ∧ ¬ s b ∧ ¬ s' b) → (∀ b, e' b → ¬ s b ∧ ¬ s' b) → ∃ e2 s2 : Nat → Prop, K.P e2 s2 w ∧ (∀ b, e2 b → e b ∨ e' b) ∧ (∀ b, s2 b → e b ∨ s b ∨ e' b ∨ s' b) ∧ ∀ b, e2 b → ¬ s2 b) : Own fr al w0 ((L.set i K).set j nullI) w := by
  obtain ⟨hm, e, s, F⟩ := st
  have hil := get_lt hi
  have hjl := get_lt hj
  obtain ⟨e2, s2, h1, h2, h3, h4⟩ := h _ _ _ _ (F.holds i _ hi) (F.holds j _ hj) (fun b hb => ⟨F.ee i j b hil hjl hij hb, F.es i i b hil hil hb, F.es i j b hil hjl hb⟩) (fun b hb => ⟨F.es j i b hjl hil hb, F.es j j b hjl hjl hb⟩)
  have hE : ∀ k b, k < L.length → (if k = i then e2 b else if k = j then False else e k b) → ∃ m, m < L.length ∧ e m b ∧ (m = k ∨ k = i ∧ m = j) ∧ k ≠ j := by
    intro k b hk hb
    by_cases q : k = i
    · rw [if_pos q] at hb
      rcases h2 b hb with r | r
      · exact ⟨i, hil, r, .inl q.symm, by omega⟩
      · exact ⟨j, hjl, r, .inr ⟨q, rfl⟩, by omega⟩
    · rw [if_neg q] at hb
      by_cases q2 : k = j
      · rw [if_pos q2] at hb; exact hb.elim
      · rw [if_neg q2] at hb; exact ⟨k, hk, hb, .inl rfl, q2⟩
  have hS : ∀ k b, k < L.length → (if k = i then s2 b else if k = j then False else s k b) → (∃ m, m < L.length ∧ s m b) ∨ ∃ m, m < L.length ∧ e m b ∧ (k = i ∧ (m = i ∨ m = j)) := by
    intro k b hk hb
    by_cases q : k = i
    · rw [if_pos q] at hb
      rcases h3 b hb with r | r | r | r
      · exact .inr ⟨i, hil, r, q, .inl rfl⟩
      · exact .inl ⟨i, hil, r⟩
      · exact .inr ⟨j, hjl, r, q, .inr rfl⟩
      · exact .inl ⟨j, hjl, r⟩
    · rw [if_neg q] at hb
      by_cases q2 : k = j
      · rw [if_pos q2] at hb; exact hb.elim
      · rw [if_neg q2] at hb; exact .inl ⟨k, hk, hb⟩
  have hl : ((L.set i K).set j nullI).length = L.length := by simp
  refine ⟨hm, fun k b => if k = i then e2 b else if k = j then False else e k b, fun k b => if k = i then s2 b else if k = j then False else s k b, ?_, ?_, ?_, ?_, ?_, ?_⟩
  · intro k J' hk
    by_cases q2 : k = j
    · subst q2
      rw [List.getElem?_set, if_pos rfl, if_pos (by simpa using hjl)] at hk
      injection hk with hk; subst hk; trivial
    · rw [List.getElem?_set, if_neg (Ne.symm q2)] at hk
      by_cases q : k = i
      · subst q
        rw [List.getElem?_set, if_pos rfl, if_pos hil] at hk
        injection hk with hk; subst hk
        simp only [if_true]; exact h1
      · rw [List.getElem?_set, if_neg (Ne.symm q)] at hk
        simp only [q, q2, if_false]
        exact F.holds k J' hk
  · intro k b hk hb; rw [hl] at hk
    rcases hb with hb | hb
    · obtain ⟨m, hm, q, _⟩ := hE k b hk hb; exact F.lo m b hm (.inl q)
    · rcases hS k b hk hb with ⟨m, hm, q⟩ | ⟨m, hm, q, _⟩
      · exact F.lo m b hm (.inr q)
      · exact F.lo m b hm (.inl q)
  · intro k b hk hb hb0; rw [hl] at hk
    obtain ⟨m, hm, q, _⟩ := hE k b hk hb; exact F.fr m b hm q hb0
  · intro k b hk hb hb0; rw [hl] at hk
    rcases hb with hb | hb
    · obtain ⟨m, hm, q, _⟩ := hE k b hk hb; exact F.al m b hm (.inl q) hb0
    · rcases hS k b hk hb with ⟨m, hm, q⟩ | ⟨m, hm, q, _⟩
      · exact F.al m b hm (.inr q) hb0
      · exact F.al m b hm (.inl q) hb0
  · intro k k' b hk hk' hne hb hb'; rw [hl] at hk hk'
    obtain ⟨m, hm, q, r, r2⟩ := hE k b hk hb
    obtain ⟨m', hm', q', r', r2'⟩ := hE k' b hk' hb'
    by_cases hmm : m = m'
    · omega
    · exact F.ee m m' b hm hm' hmm q q'
  · intro k k' b hk hk' hb hb'; rw [hl] at hk hk'
    obtain ⟨m, hm, q, r, r2⟩ := hE k b hk hb
    rcases hS k' b hk' hb' with ⟨m', hm', q'⟩ | ⟨m', hm', q', r'⟩
    · exact F.es m m' b hm hm' q q'
    · by_cases hmm : m = m'
      · obtain rfl : k' = i := r'.1
        by_cases hk2 : k = k'
        · subst hk2
          simp only [if_true] at hb hb'
          exact h4 b hb hb'
        · omega
      · exact F.ee m m' b hm hm' hmm q q'
/-- The blocks S of the memory W are as they were, and are shared. -/
def shI (S : Nat → Prop) (W : World) : It where
  P _ s w := ∀ b, S b → b < W.heap.size → s b ∧ w.heap[b]? = W.heap[b]?
  st := fun h hag b hb hl => ⟨(h b hb hl).1, (hag b (.inr (h b hb hl).1)).trans (h b hb hl).2⟩
  facts _ := True
  ok := fun _ => trivial
theorem Own.shOld (st : Own fr al w0 L w) {i : Nat} {W : World} (hi : L[i]? = some (oldI W)) (S : Nat → Prop) : Own fr al w0 (L ++ [shI S W]) w :=
  st.share hi fun e s h b _ hl => ⟨h.1 b hl, h.2.2 b hl⟩
theorem Own.shCell (st : Own fr al w0 L w) {i : Nat} {S : Nat → Prop} {W : World} (hi : L[i]? = some (shI S W)) {p : Addr} {v : Value} (h : W.cell? p = some v) (hS : S p.block) : w.cell? p = some v := by
  obtain ⟨_, _, g, _⟩ := st.get hi
  rw [World.cell?_of_block (w := W) (g _ hS (World.block_lt_of_cell? W p h)).2]
  exact h
theorem Own.shBy (st : Own fr al w0 L w) {i : Nat} {S : Nat → Prop} {W : World} (hi : L[i]? = some (shI S W)) {A : Option Addr} {n : Nat} {xs : List UInt8} (h : By W A n xs) (hS : 0 < n → ∀ ad, A = some ad → S ad.block) : By w A n xs :=
  ⟨h.1, fun h0 => let ⟨b, off, e, hc⟩ := h.2 h0; ⟨b, off, e, fun j x hj => st.shCell hi (hc j x hj) (by have := hS h0 _ e; exact this)⟩⟩
theorem Own.shFl {α : Type} [Flt α] (st : Own fr al w0 L w) {i : Nat} {S : Nat → Prop} {W : World} (hi : L[i]? = some (shI S W)) {A : Option Addr} {n : Nat} {xs : List α} (h : Fl W A n xs) (hS : 0 < n → ∀ ad, A = some ad → S ad.block) : Fl w A n xs :=
  ⟨h.1, fun h0 => let ⟨b, off, e, hc⟩ := h.2 h0; ⟨b, off, e, fun j x hj q v hq => st.shCell hi (hc j x hj q v hq) (by have := hS h0 _ e; exact this)⟩⟩
/-- A block of one's own and a byte slice become shared memory of now. -/
theorem Own.shTwo (st : Own fr al w0 L w) {i j b n : Nat} {vs : List Value} {A : Option Addr} {xs : List UInt8} (hi : L[i]? = some (blkI b vs)) (hj : L[j]? = some (byI A n xs)) (hij : i ≠ j) :
    Own fr al w0 ((L.set i (shI (fun k => k = b ∨ (0 < n ∧ ∃ ad, A = some ad ∧ ad.block = k)) w)).set j nullI) w :=
  st.conv2 hi hj hij fun e s e' s' ⟨h1, _⟩ ⟨_, h3⟩ _ _ => ⟨fun _ => False, fun k => k = b ∨ (0 < n ∧ ∃ ad, A = some ad ∧ ad.block = k), fun k hk _ => ⟨hk, rfl⟩, fun _ q => q.elim, fun k hk => by
    rcases hk with rfl | ⟨h0, ad, had, rfl⟩
    · exact .inl h1
    · exact .inr (.inr (.inr (h3 h0 _ had))), fun _ q => q.elim⟩
end
/-- An entry as it lies, and what its bytes read as. -/
structure LegT where
  o : Bool
  a : Option Addr
  n : Nat
  c : Nat
  xs : List UInt8
deriving Inhabited
def legC (x : LegT) : List Value := [.bool x.o, .slice x.a x.n x.c]
def legSV (x : LegT) : Value := .slice x.a x.n x.c
def legV (x : LegT) : Value := .agg #[.bool x.o, .slice x.a x.n x.c]
instance fltLeg : Flt LegT := ⟨2, legC, fun _ => rfl, by decide, fun x u hu => by simp [legC] at hu; rcases hu with rfl | rfl <;> rfl⟩
/-- A head. -/
structure HdT where
  h : Int
deriving Inhabited, DecidableEq
instance fltHd : Flt HdT := ⟨1, fun x => [.int .u64 x.h], fun _ => rfl, by decide, fun x u hu => by simp at hu; subst hu; rfl⟩
def legRow (w : World) (x : LegT) : Prop := (x.n ≤ x.c ∧ x.c ≤ maxLen) ∧ w.ownsRow 0 5 1 (legSV x) x.n (x.xs.map B)
/-- The bytes of entries, each in a block of one's own. -/
def legsI (ls : List LegT) : It where
  P e _ w := (∀ (i : Nat) (x : LegT), ls[i]? = some x → legRow w x ∧ ∀ k, (legSV x).ownBlock = some k → e k) ∧ ∀ (i j : Nat) (x y : LegT) (k : Nat), ls[i]? = some x → ls[j]? = some y → i ≠ j → (legSV x).ownBlock = some k → (legSV y).ownBlock ≠ some k
  st := by
    rintro e s w w' ⟨h1, h2⟩ hag
    refine ⟨fun i x hi => ?_, h2⟩
    obtain ⟨⟨h3, h4⟩, h5⟩ := h1 i x hi
    exact ⟨⟨h3, row_agree h4 fun k hk => hag k (.inl (h5 k hk))⟩, h5⟩
  facts _ := True
  ok := fun _ => trivial
section
variable {fr al : Nat → Prop} {w0 w w' : World} {L : List It}
theorem Own.legsNil (st : Own fr al w0 L w) : Own fr al w0 (L ++ [legsI []]) w := st.bare ⟨fun i x hi => by simp at hi, fun i j x y k hi => by simp at hi⟩
theorem Own.legsPush (st : Own fr al w0 L w) {i j : Nat} {ls : List LegT} {x : LegT} (hi : L[i]? = some (legsI ls)) (hj : L[j]? = some (rowI 5 1 (legSV x) x.n (x.xs.map B))) (hij : i ≠ j) (hc : x.n ≤ x.c ∧ x.c ≤ maxLen) :
    Own fr al w0 ((L.set i (legsI (ls ++ [x]))).set j nullI) w :=
  st.conv2 hi hj hij fun e s e' s' ⟨h1, h2⟩ ⟨h3, h4⟩ hd _ => ⟨fun b => e b ∨ e' b, fun _ => False, by
    have z : ∀ {k y}, (ls ++ [x])[k]? = some y → ls[k]? = some y ∨ (k = ls.length ∧ y = x) := fun {k y} hk => by
      rcases Nat.lt_or_ge k ls.length with q | q
      · rw [List.getElem?_append_left q] at hk; exact .inl hk
      · rw [List.getElem?_append_right q] at hk
        have : k - ls.length = 0 := by
          have := (List.getElem?_eq_some_iff.1 hk).1; simp at this; omega
        rw [this] at hk; simp at hk; exact .inr ⟨by omega, hk.symm⟩
    refine ⟨fun k y hk => ?_, fun k m y u q hk hm hne hy hu => ?_⟩
    · rcases z hk with hk | ⟨_, rfl⟩
      · obtain ⟨h5, h6⟩ := h1 k y hk; exact ⟨h5, fun q hq => .inl (h6 q hq)⟩
      · exact ⟨⟨hc, h3⟩, fun q hq => .inr (h4 q hq)⟩
    · rcases z hk with hk1 | ⟨e1, e2⟩ <;> rcases z hm with hm1 | ⟨e3, e4⟩
      · exact h2 k m y u q hk1 hm1 hne hy hu
      · exact (hd q ((h1 k y hk1).2 q hy)).1 (h4 q (e4 ▸ hu))
      · exact (hd q ((h1 m u hm1).2 q hu)).1 (h4 q (e2 ▸ hy))
      · omega, fun _ q => q, fun _ q => q.elim, fun _ _ q => q⟩
theorem Own.leg (st : Own fr al w0 L w) {i : Nat} {ls : List LegT} (hi : L[i]? = some (legsI ls)) {k : Nat} {x : LegT} (hk : ls[k]? = some x) : legRow w x := let ⟨_, _, h, _⟩ := st.get hi; (h.1 k x hk).1
theorem Own.legBy (st : Own fr al w0 L w) {i : Nat} {ls : List LegT} (hi : L[i]? = some (legsI ls)) {k : Nat} {x : LegT} (hk : ls[k]? = some x) : (x.n ≤ x.c ∧ x.c ≤ maxLen) ∧ By w x.a x.n x.xs := by
  obtain ⟨h1, h2⟩ := st.leg hi hk
  exact ⟨h1, (own_by h2).arr.2⟩
theorem legRow_at {x : LegT} (h : legRow w x) (h0 : 0 < x.n) : ∃ g, x.a = some ⟨g, 0, none⟩ := by
  obtain ⟨g, cap, hv, _⟩ := own_form h.2 h0
  unfold legSV at hv
  injection hv with hv
  exact ⟨g, hv⟩
/-- A byte of an entry is turned. -/
theorem Own.legsSet (st : Own fr al w0 L w) {i : Nat} {ls : List LegT} (hi : L[i]? = some (legsI ls)) {k : Nat} {x : LegT} (hk : ls[k]? = some x) {g : Nat} (ha : x.a = some ⟨g, 0, none⟩) (j : Nat) (hj : j < x.n) (b : UInt8) :
    Own fr al w0 (L.set i (legsI (ls.set k { x with xs := x.xs.set j b }))) (w.setCell ⟨g, j, none⟩ (Go.Proofs.Ytcminppmmhinjaa.B b)) :=
  st.upd hi fun e s ⟨h1, h2⟩ h3 h4 => by
    have hkl : k < ls.length := (List.getElem?_eq_some_iff.1 hk).1
    obtain ⟨⟨h5, h6⟩, h7⟩ := h1 k x hk
    have hob : (legSV x).ownBlock = some g := by unfold legSV; rw [ha]; rfl
    have heg := h7 g hob
    obtain ⟨g', cap, hv, _, hcap, _, _, _, hset⟩ := own_form h6 (by omega)
    obtain rfl : g' = g := by unfold legSV at hv; injection hv with hv; rw [ha] at hv; injection hv with hv; injection hv with hv; exact hv.symm
    have z : ∀ {m y}, (ls.set k { x with xs := x.xs.set j b })[m]? = some y → (m ≠ k ∧ ls[m]? = some y) ∨ (m = k ∧ y = { x with xs := x.xs.set j b }) := fun {m y} hm => by
      rw [List.getElem?_set] at hm
      split at hm
      · rename_i q; subst q; (try rw [if_pos hkl] at hm); injection hm with hm; exact .inr ⟨rfl, hm.symm⟩
      · rename_i q; exact .inl ⟨Ne.symm q, hm⟩
    have zb : ∀ {m y}, (ls.set k { x with xs := x.xs.set j b })[m]? = some y → ∃ y', ls[m]? = some y' ∧ legSV y' = legSV y := fun {m y} hm => by
      rcases z hm with ⟨_, q⟩ | ⟨rfl, rfl⟩
      · exact ⟨y, q, rfl⟩
      · exact ⟨x, hk, rfl⟩
    refine ⟨e, s, ⟨fun m y hm => ?_, fun m m' y y' q hm hm' hne hy hy' => ?_⟩, fun q hq => ⟨by simpa [World.setCell] using h3 q (.inl hq), .inl hq⟩, fun q hq => ⟨by simpa [World.setCell] using h3 q (.inr hq), .inr (.inl hq)⟩, h4, MutO.set (MutO.refl _ _) heg _⟩
    · rcases z hm with ⟨hne, q⟩ | ⟨rfl, rfl⟩
      · obtain ⟨⟨h8, h9⟩, h10⟩ := h1 m y q
        refine ⟨⟨h8, row_agree h9 fun u hu => ?_⟩, h10⟩
        have hug : u ≠ g' := fun e1 => h2 m k y x u q hk hne hu (by rw [e1]; exact hob)
        simp [World.setCell, Array.getElem?_modify, Ne.symm hug]
      · refine ⟨⟨h5, ?_⟩, h7⟩
        have := hset j (Go.Proofs.Ytcminppmmhinjaa.B b) hj
        rw [← List.map_set] at this
        exact this
    · obtain ⟨u, hu, e1⟩ := zb hm
      obtain ⟨u', hu', e2⟩ := zb hm'
      rw [← e1] at hy
      rw [← e2] at hy'
      exact h2 m m' u u' q hu hu' hne hy hy'
end
end Go.Proofs.Ytcminppmmhinjaa
