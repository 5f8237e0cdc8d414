/- Pieces of memory, apart from one another: what is one's own, and what is shared and stays. -/
import Derived.Test.YtcminppmmhinjaaMut
namespace Go.Proofs.Ytcminppmmhinjaa
set_option linter.unusedSimpArgs false
set_option linter.unusedVariables false
open Go Go.RowKit

/-- A piece of memory: P e s w: in w, with the blocks e of its own and the blocks s that are shared. -/
structure It where
  P : (Nat → Prop) → (Nat → Prop) → World → Prop
  st : ∀ {e s w w'}, P e s w → (∀ b, e b ∨ s b → w'.heap[b]? = w.heap[b]?) → P e s w'
  facts : World → Prop
  ok : ∀ {e s w}, P e s w → facts w
def nullI : It := ⟨fun _ _ _ => True, fun _ _ => trivial, fun _ => True, fun _ => trivial⟩

structure Foot (fr al : Nat → Prop) (w0 : World) (L : List It) (w : World) (e s : Nat → Nat → Prop) : Prop where
  holds : ∀ (i : Nat) (I : It), L[i]? = some I → I.P (e i) (s i) w
  lo : ∀ i b, i < L.length → (e i b ∨ s i b) → b < w.heap.size
  fr : ∀ i b, i < L.length → e i b → b < w0.heap.size → fr b
  al : ∀ i b, i < L.length → (e i b ∨ s i b) → b < w0.heap.size → al b
  ee : ∀ i j b, i < L.length → j < L.length → i ≠ j → e i b → ¬ e j b
  es : ∀ i j b, i < L.length → j < L.length → e i b → ¬ s j b
/-- Since w0 nothing but fr has changed; the pieces L lie apart; their old blocks are in al. -/
def Own (fr al : Nat → Prop) (w0 : World) (L : List It) (w : World) : Prop := MutO fr w0 w ∧ ∃ e s, Foot fr al w0 L w e s

section
variable {fr al : Nat → Prop} {w0 w w' : World} {L : List It}
theorem Own.start (fr al : Nat → Prop) (w : World) : Own fr al w [] w :=
  ⟨MutO.refl _ _, fun _ _ => False, fun _ _ => False, fun _ _ h => by simp at h, fun _ _ h => by simp at h, fun _ _ h => by simp at h, fun _ _ h => by simp at h, fun _ _ _ h => by simp at h, fun _ _ _ h => by simp at h⟩
theorem Own.mut (h : Own fr al w0 L w) : MutO fr w0 w := h.1
theorem Own.le (h : Own fr al w0 L w) : w0.heap.size ≤ w.heap.size := h.1.size
theorem Own.ext0 (h : Own (fun _ => False) al w0 L w) : Ext w0 w := ⟨⟨h.1.os, h.1.tape, h.1.output, h.1.size, fun k hk => h.1.block k hk (fun q => q)⟩, h.1.drawn⟩
theorem get_lt {L : List It} {i : Nat} {I : It} (h : L[i]? = some I) : i < L.length := (List.getElem?_eq_some_iff.1 h).1

/-- An item is changed, with blocks of its own and new ones. -/
theorem Foot.upd (hm : MutO fr w0 w) {e s : Nat → Nat → Prop} (F : Foot fr al w0 L w e s) {i : Nat} {I I' : It} (hi : L[i]? = some I)
    (h : I.P (e i) (s i) w → (∀ b, e i b ∨ s i b → b < w.heap.size) → (∀ b, e i b → ¬ s i b) → ∃ e' s' : Nat → Prop, I'.P e' s' w' ∧ (∀ b, e' b → b < w'.heap.size ∧ (e i b ∨ w.heap.size ≤ b)) ∧
      (∀ b, s' b → b < w'.heap.size ∧ (e i b ∨ s i b ∨ w.heap.size ≤ b)) ∧ (∀ b, e' b → ¬ s' b) ∧ MutO (e i) w w') : Own fr al w0 (L.set i I') w' := by
  have hil := get_lt hi
  obtain ⟨e', s', h1, h2, h3, h4, h5⟩ := h (F.holds i I hi) (fun b => F.lo i b hil) (fun b => F.es i i b hil hil)
  have hle := hm.size
  refine ⟨hm.trans h5 fun b hb he => F.fr i b hil he hb, fun j => if j = i then e' else e j, fun j => if j = i then s' else s j, ?_, ?_, ?_, ?_, ?_, ?_⟩
  · intro j J hj
    rw [List.getElem?_set] at hj
    by_cases hji : j = i
    · subst hji
      rw [if_pos rfl, if_pos hil] at hj
      injection hj with hj
      subst hj
      simp only [if_true]
      exact h1
    · rw [if_neg (Ne.symm hji)] at hj
      simp only [hji, if_false]
      have hjl := get_lt hj
      refine J.st (F.holds j J hj) fun b hb => h5.block b (F.lo j b hjl hb) fun he => ?_
      rcases hb with hb | hb
      · exact F.ee i j b hil hjl (Ne.symm hji) he hb
      · exact F.es i j b hil hjl he hb
  · intro j b hj hb
    rw [List.length_set] at hj
    by_cases hji : j = i
    · subst hji
      simp only [if_true] at hb
      rcases hb with hb | hb
      · exact (h2 b hb).1
      · exact (h3 b hb).1
    · simp only [hji, if_false] at hb
      exact Nat.lt_of_lt_of_le (F.lo j b hj hb) h5.size
  · intro j b hj hb hb0
    rw [List.length_set] at hj
    by_cases hji : j = i
    · subst hji
      simp only [if_true] at hb
      rcases (h2 b hb).2 with q | q
      · exact F.fr j b hj q hb0
      · omega
    · simp only [hji, if_false] at hb
      exact F.fr j b hj hb hb0
  · intro j b hj hb hb0
    rw [List.length_set] at hj
    by_cases hji : j = i
    · subst hji
      simp only [if_true] at hb
      rcases hb with hb | hb
      · rcases (h2 b hb).2 with q | q
        · exact F.al j b hj (.inl q) hb0
        · omega
      · rcases (h3 b hb).2 with q | q | q
        · exact F.al j b hj (.inl q) hb0
        · exact F.al j b hj (.inr q) hb0
        · omega
    · simp only [hji, if_false] at hb
      exact F.al j b hj hb hb0
  · intro j k b hj hk hjk hb hb'
    rw [List.length_set] at hj hk
    by_cases hji : j = i
    · subst hji
      have hkj : k ≠ j := Ne.symm hjk
      simp only [if_true, hkj, if_false] at hb hb'
      rcases (h2 b hb).2 with q | q
      · exact F.ee j k b hj hk hjk q hb'
      · have := F.lo k b hk (.inl hb'); omega
    · by_cases hki : k = i
      · subst hki
        simp only [hji, if_true, if_false] at hb hb'
        rcases (h2 b hb').2 with q | q
        · exact F.ee j k b hj hk hjk hb q
        · have := F.lo j b hj (.inl hb); omega
      · simp only [hji, hki, if_false] at hb hb'
        exact F.ee j k b hj hk hjk hb hb'
  · intro j k b hj hk hb hb'
    rw [List.length_set] at hj hk
    by_cases hji : j = i
    · subst hji
      by_cases hki : k = j
      · subst hki
        simp only [if_true] at hb hb'
        exact h4 b hb hb'
      · simp only [if_true, hki, if_false] at hb hb'
        rcases (h2 b hb).2 with q | q
        · exact F.es j k b hj hk q hb'
        · have := F.lo k b hk (.inr hb'); omega
    · by_cases hki : k = i
      · subst hki
        simp only [hji, if_true, if_false] at hb hb'
        rcases (h3 b hb').2 with q | q | q
        · exact F.ee j k b hj hk hji hb q
        · exact F.es j k b hj hk hb q
        · have := F.lo j b hj (.inl hb); omega
      · simp only [hji, hki, if_false] at hb hb'
        exact F.es j k b hj hk hb hb'

theorem Own.upd (st : Own fr al w0 L w) {i : Nat} {I I' : It} (hi : L[i]? = some I)
    (h : ∀ e s : Nat → Prop, I.P e s w → (∀ b, e b ∨ s b → b < w.heap.size) → (∀ b, e b → ¬ s b) → ∃ e' s' : Nat → Prop, I'.P e' s' w' ∧ (∀ b, e' b → b < w'.heap.size ∧ (e b ∨ w.heap.size ≤ b)) ∧
      (∀ b, s' b → b < w'.heap.size ∧ (e b ∨ s b ∨ w.heap.size ≤ b)) ∧ (∀ b, e' b → ¬ s' b) ∧ MutO e w w') : Own fr al w0 (L.set i I') w' :=
  let ⟨hm, _, _, F⟩ := st
  F.upd hm hi (h _ _)
/-- One item alone. -/
theorem Own.mk1 {w' : World} (hm : MutO fr w w') {I : It} {e s : Nat → Prop} (h1 : I.P e s w') (lo : ∀ b, e b ∨ s b → b < w'.heap.size) (hf : ∀ b, e b → b < w.heap.size → fr b) (ha : ∀ b, e b ∨ s b → b < w.heap.size → al b) (hd : ∀ b, e b → ¬ s b) : Own fr al w [I] w' := by
  have z : ∀ {j}, j < [I].length → j = 0 := fun h => by simpa using h
  refine ⟨hm, fun _ => e, fun _ => s, fun j J hj => ?_, fun j b _ => lo b, fun j b _ => hf b, fun j b _ => ha b, fun j k b hj hk hne => absurd ((z hj).trans (z hk).symm) hne, fun j k b _ _ => hd b⟩
  obtain rfl := z (get_lt hj)
  simp at hj; subst hj; exact h1
/-- Two items alone. -/
theorem Own.mk2 {w' : World} (hm : MutO fr w w') {I J : It} {e s f t : Nat → Prop} (h1 : I.P e s w') (h2 : J.P f t w') (lo : ∀ b, (e b ∨ s b) ∨ f b ∨ t b → b < w'.heap.size) (hf : ∀ b, e b ∨ f b → b < w.heap.size → fr b) (ha : ∀ b, (e b ∨ s b) ∨ f b ∨ t b → b < w.heap.size → al b)
    (hd : ∀ b, e b → ¬ s b ∧ ¬ f b ∧ ¬ t b) (hd2 : ∀ b, f b → ¬ s b ∧ ¬ t b) : Own fr al w [I, J] w' := by
  have z : ∀ {j}, j < [I, J].length → j = 0 ∨ j = 1 := fun h => by simp at h; omega
  refine ⟨hm, fun j => if j = 0 then e else f, fun j => if j = 0 then s else t, fun j K hj => ?_, fun j b hj => ?_, fun j b hj => ?_, fun j b hj => ?_, fun j k b hj hk hne => ?_, fun j k b hj hk => ?_⟩
  · rcases z (get_lt hj) with rfl | rfl
    · simp at hj; subst hj; simpa using h1
    · simp at hj; subst hj; simpa using h2
  · rcases z hj with rfl | rfl
    · simp only [if_true]; exact fun q => lo b (.inl q)
    · simp only [Nat.one_ne_zero, if_false]; exact fun q => lo b (.inr q)
  · rcases z hj with rfl | rfl
    · simp only [if_true]; exact fun q => hf b (.inl q)
    · simp only [Nat.one_ne_zero, if_false]; exact fun q => hf b (.inr q)
  · rcases z hj with rfl | rfl
    · simp only [if_true]; exact fun q => ha b (.inl q)
    · simp only [Nat.one_ne_zero, if_false]; exact fun q => ha b (.inr q)
  · rcases z hj with rfl | rfl <;> rcases z hk with rfl | rfl
    · exact absurd rfl hne
    · simp only [if_true, Nat.one_ne_zero, if_false]; exact fun q => (hd b q).2.1
    · simp only [if_true, Nat.one_ne_zero, if_false]; exact fun q q' => (hd b q').2.1 q
    · exact absurd rfl hne
  · rcases z hj with rfl | rfl <;> rcases z hk with rfl | rfl
    · simp only [if_true]; exact fun q => (hd b q).1
    · simp only [if_true, Nat.one_ne_zero, if_false]; exact fun q => (hd b q).2.2
    · simp only [if_true, Nat.one_ne_zero, if_false]; exact fun q => (hd2 b q).1
    · simp only [Nat.one_ne_zero, if_false]; exact fun q => (hd2 b q).2
/-- A new item, of new blocks, or of what others share. -/
theorem Own.snoc (st : Own fr al w0 L w) (hx : Ext w w') {I : It} {e' s' : Nat → Prop} (h1 : I.P e' s' w') (h2 : ∀ b, e' b → b < w'.heap.size ∧ w.heap.size ≤ b)
    (h3 : ∀ b, s' b → b < w'.heap.size ∧ (w.heap.size ≤ b ∨ ((b < w0.heap.size → al b) ∧ ∀ f : Nat → Nat → Prop, ∀ t, Foot fr al w0 L w f t → ∀ i, i < L.length → ¬ f i b))) (h4 : ∀ b, e' b → ¬ s' b) : Own fr al w0 (L ++ [I]) w' := by
  obtain ⟨hm, e, s, F⟩ := st
  have hle := hm.size
  have hlen : ∀ {j}, j < (L ++ [I]).length → j < L.length ∨ j = L.length := fun {j} h => by simp at h; omega
  refine ⟨hm.trans (MutO.of_ext (fp := fun _ => False) hx) fun _ _ q => q.elim, fun j => if j < L.length then e j else e', fun j => if j < L.length then s j else s', ?_, ?_, ?_, ?_, ?_, ?_⟩
  · intro j J hj
    have hjl := get_lt hj
    rcases hlen hjl with h | h
    · rw [List.getElem?_append_left h] at hj
      simp only [h, if_true]
      exact J.st (F.holds j J hj) fun b hb => Below.block hx.bel b (F.lo j b h hb)
    · subst h
      simp at hj
      subst hj
      simp only [Nat.lt_irrefl, if_false]
      exact h1
  · intro j b hj hb
    rcases hlen hj with h | h
    · simp only [h, if_true] at hb
      exact Nat.lt_of_lt_of_le (F.lo j b h hb) hx.le
    · subst h
      simp only [Nat.lt_irrefl, if_false] at hb
      rcases hb with hb | hb
      · exact (h2 b hb).1
      · exact (h3 b hb).1
  · intro j b hj hb hb0
    rcases hlen hj with h | h
    · simp only [h, if_true] at hb
      exact F.fr j b h hb hb0
    · subst h
      simp only [Nat.lt_irrefl, if_false] at hb
      have := (h2 b hb).2; omega
  · intro j b hj hb hb0
    rcases hlen hj with h | h
    · simp only [h, if_true] at hb
      exact F.al j b h hb hb0
    · subst h
      simp only [Nat.lt_irrefl, if_false] at hb
      rcases hb with hb | hb
      · have := (h2 b hb).2; omega
      · rcases (h3 b hb).2 with q | q
        · omega
        · exact q.1 hb0
  · intro j k b hj hk hjk hb hb'
    rcases hlen hj with h | h <;> rcases hlen hk with h' | h'
    · simp only [h, h', if_true] at hb hb'
      exact F.ee j k b h h' hjk hb hb'
    · subst h'
      simp only [h, if_true, Nat.lt_irrefl, if_false] at hb hb'
      have := F.lo j b h (.inl hb); have := (h2 b hb').2; omega
    · subst h
      simp only [h', if_true, Nat.lt_irrefl, if_false] at hb hb'
      have := F.lo k b h' (.inl hb'); have := (h2 b hb).2; omega
    · omega
  · intro j k b hj hk hb hb'
    rcases hlen hj with h | h <;> rcases hlen hk with h' | h'
    · simp only [h, h', if_true] at hb hb'
      exact F.es j k b h h' hb hb'
    · subst h'
      simp only [h, if_true, Nat.lt_irrefl, if_false] at hb hb'
      rcases (h3 b hb').2 with q | q
      · have := F.lo j b h (.inl hb); omega
      · exact q.2 e s F j h hb
    · subst h
      simp only [h', if_true, Nat.lt_irrefl, if_false] at hb hb'
      have := F.lo k b h' (.inr hb'); have := (h2 b hb).2; omega
    · subst h; subst h'
      simp only [Nat.lt_irrefl, if_false] at hb hb'
      exact h4 b hb hb'
theorem Own.ext (st : Own fr al w0 L w) (hx : Ext w w') : Own fr al w0 L w' := by
  obtain ⟨hm, e, s, F⟩ := st
  exact ⟨hm.trans (MutO.of_ext (fp := fun _ => False) hx) fun _ _ q => q.elim, e, s, fun j J hj => J.st (F.holds j J hj) fun b hb => Below.block hx.bel b (F.lo j b (get_lt hj) hb),
    fun j b hj hb => Nat.lt_of_lt_of_le (F.lo j b hj hb) hx.le, F.fr, F.al, F.ee, F.es⟩
/-- A new item of new blocks. -/
theorem Own.new (st : Own fr al w0 L w) (hx : Ext w w') {I : It} {e' s' : Nat → Prop} (h1 : I.P e' s' w') (h2 : ∀ b, e' b → b < w'.heap.size ∧ w.heap.size ≤ b) (h3 : ∀ b, s' b → b < w'.heap.size ∧ w.heap.size ≤ b) (h4 : ∀ b, e' b → ¬ s' b) : Own fr al w0 (L ++ [I]) w' :=
  st.snoc hx h1 h2 (fun b hb => ⟨(h3 b hb).1, .inl (h3 b hb).2⟩) h4
/-- A new item of nothing. -/
theorem Own.bare (st : Own fr al w0 L w) {I : It} (h1 : I.P (fun _ => False) (fun _ => False) w) : Own fr al w0 (L ++ [I]) w :=
  st.new (Ext.refl w) h1 (fun _ q => q.elim) (fun _ q => q.elim) (fun _ q => q.elim)
/-- A new item of what another one shares. -/
theorem Own.share (st : Own fr al w0 L w) {i : Nat} {I I' : It} (hi : L[i]? = some I) (h : ∀ e s, I.P e s w → I'.P (fun _ => False) s w) : Own fr al w0 (L ++ [I']) w := by
  obtain ⟨hm, e, s, F⟩ := st
  have hil := get_lt hi
  have h1 := h _ _ (F.holds i I hi)
  have hlen : ∀ {j}, j < (L ++ [I']).length → j < L.length ∨ j = L.length := fun {j} h => by simp at h; omega
  refine ⟨hm, fun j => if j < L.length then e j else fun _ => False, fun j => if j < L.length then s j else s i, ?_, ?_, ?_, ?_, ?_, ?_⟩
  · intro j J hj
    have hjl := get_lt hj
    rcases hlen hjl with h | h
    · rw [List.getElem?_append_left h] at hj
      simp only [h, if_true]
      exact F.holds j J hj
    · subst h
      simp at hj
      subst hj
      simp only [Nat.lt_irrefl, if_false]
      exact h1
  · intro j b hj hb
    rcases hlen hj with h | h
    · simp only [h, if_true] at hb
      exact F.lo j b h hb
    · subst h
      simp only [Nat.lt_irrefl, if_false, false_or] at hb
      exact F.lo i b hil (.inr hb)
  · intro j b hj hb hb0
    rcases hlen hj with h | h
    · simp only [h, if_true] at hb
      exact F.fr j b h hb hb0
    · subst h
      simp only [Nat.lt_irrefl, if_false] at hb
  · intro j b hj hb hb0
    rcases hlen hj with h | h
    · simp only [h, if_true] at hb
      exact F.al j b h hb hb0
    · subst h
      simp only [Nat.lt_irrefl, if_false, false_or] at hb
      exact F.al i b hil (.inr hb) hb0
  · intro j k b hj hk hjk hb hb'
    rcases hlen hj with h | h <;> rcases hlen hk with h' | h'
    · simp only [h, h', if_true] at hb hb'
      exact F.ee j k b h h' hjk hb hb'
    · subst h'
      simp only [Nat.lt_irrefl, if_false] at hb'
    · subst h
      simp only [Nat.lt_irrefl, if_false] at hb
    · omega
  · intro j k b hj hk hb hb'
    rcases hlen hj with h | h <;> rcases hlen hk with h' | h'
    · simp only [h, h', if_true] at hb hb'
      exact F.es j k b h h' hb hb'
    · subst h'
      simp only [h, if_true, Nat.lt_irrefl, if_false] at hb hb'
      exact F.es j i b h hil hb hb'
    · subst h
      simp only [Nat.lt_irrefl, if_false] at hb
    · subst h
      simp only [Nat.lt_irrefl, if_false] at hb
/-- An item is seen as another one. -/
theorem Own.conv (st : Own fr al w0 L w) {i : Nat} {I I' : It} (hi : L[i]? = some I)
    (h : ∀ e s : Nat → Prop, I.P e s w → (∀ b, e b → ¬ s b) → ∃ e' s' : Nat → Prop, I'.P e' s' w ∧ (∀ b, e' b → e b) ∧ (∀ b, s' b → e b ∨ s b) ∧ (∀ b, e' b → ¬ s' b)) : Own fr al w0 (L.set i I') w :=
  st.upd hi fun e s h1 h2 h3 => by
    obtain ⟨e', s', q1, q2, q3, q4⟩ := h e s h1 h3
    exact ⟨e', s', q1, fun b hb => ⟨h2 b (.inl (q2 b hb)), .inl (q2 b hb)⟩, fun b hb => ⟨h2 b (q3 b hb), by rcases q3 b hb with q | q; exact .inl q; exact .inr (.inl q)⟩, q4, MutO.refl _ _⟩
theorem Own.get (st : Own fr al w0 L w) {i : Nat} {I : It} (hi : L[i]? = some I) : ∃ e s, I.P e s w ∧ (∀ b, e b ∨ s b → b < w.heap.size) ∧ ∀ b, e b → ¬ s b := by
  obtain ⟨hm, e, s, F⟩ := st
  exact ⟨_, _, F.holds i I hi, fun b => F.lo i b (get_lt hi), fun b => F.es i i b (get_lt hi) (get_lt hi)⟩
def factsOf : List It → World → Prop
  | [], _ => True
  | I :: L, w => I.facts w ∧ factsOf L w
theorem factsOf_all {L : List It} {w : World} (h : ∀ (i : Nat) (I : It), L[i]? = some I → I.facts w) : factsOf L w := by
  induction L with
  | nil => trivial
  | cons I L ih => exact ⟨h 0 I rfl, ih fun i J hi => h (i + 1) J (by simpa using hi)⟩
theorem Own.facts (st : Own fr al w0 L w) : factsOf L w := factsOf_all fun i I hi => let ⟨_, _, h, _⟩ := st.get hi; I.ok h

/-- Some of the items. -/
def pick (L : List It) (idx : List Nat) : List It := idx.map fun i => (L[i]?).getD nullI
/-- They came back as M; what M has more goes behind all. -/
def putIt (L : List It) (M : List It) : Nat → List Nat → List It
  | k, [] => L ++ M.drop k
  | k, i :: idx => putIt (L.set i ((M[k]?).getD nullI)) M (k + 1) idx
/-- Where an item of the new list comes from: the old list, or place k of M. -/
def srcOf (n : Nat) : Nat → List Nat → Nat → Nat ⊕ Nat
  | k, [], j => if j < n then .inl j else .inr (k + (j - n))
  | k, i :: idx, j => if idx.contains j = false ∧ j = i then .inr k else srcOf n (k + 1) idx j
theorem putIt_get (M : List It) : ∀ (idx : List Nat) (L : List It) (k j : Nat), (∀ i ∈ idx, i < L.length) → idx.Nodup → k + idx.length ≤ M.length →
    (putIt L M k idx)[j]? = match srcOf L.length k idx j with | .inl i => L[i]? | .inr m => M[m]?
  | [], L, k, j, _, _, hk => by
    simp only [putIt, srcOf]
    by_cases h : j < L.length
    · rw [if_pos h]; simp [List.getElem?_append_left h]
    · rw [if_neg h, List.getElem?_append_right (by omega), List.getElem?_drop]
  | i :: idx, L, k, j, hr, hn, hk => by
    have hn' := List.nodup_cons.1 hn
    have hkl : k < M.length := by simp at hk; omega
    have ih := putIt_get M idx (L.set i ((M[k]?).getD nullI)) (k + 1) j (fun q hq => by rw [List.length_set]; exact hr q (List.mem_cons_of_mem _ hq)) hn'.2 (by simp at hk; omega)
    rw [putIt, ih, List.length_set, srcOf]
    by_cases hji : j = i
    · subst hji
      have hc : idx.contains j = false := by simpa using hn'.1
      rw [if_pos ⟨hc, rfl⟩]
      have hs : ∀ (idx' : List Nat) (k' : Nat), idx'.contains j = false → srcOf L.length k' idx' j = .inl j := by
        intro idx'
        induction idx' with
        | nil => intro k' _; simp [srcOf, hr j (by simp)]
        | cons a t ih => intro k' h; simp at h; rw [srcOf, if_neg (fun q => h.1 q.2), ih _ (by simpa using h.2)]
      rw [hs idx _ hc]
      simp [hr j (by simp), List.getElem?_eq_getElem hkl]
    · rw [if_neg (fun q => hji q.2)]
      cases hsr : srcOf L.length (k + 1) idx j with
      | inl q =>
        simp only
        have hq : q = j := by
          have hs : ∀ (idx' : List Nat) (k' q : Nat), srcOf L.length k' idx' j = .inl q → q = j := by
            intro idx'
            induction idx' with
            | nil => intro k' q h; simp only [srcOf] at h; split at h; injection h with h; exact h.symm; cases h
            | cons a t ih => intro k' q h; rw [srcOf] at h; split at h; cases h; exact ih _ _ h
          exact hs _ _ _ hsr
        subst hq
        rw [List.getElem?_set, if_neg (Ne.symm hji)]
      | inr q => rfl
theorem srcOf_inl {n : Nat} : ∀ {idx : List Nat} {k j q : Nat}, srcOf n k idx j = .inl q → q = j ∧ j < n ∧ j ∉ idx
  | [], k, j, q, h => by
    simp only [srcOf] at h
    split at h
    · injection h with h; exact ⟨h.symm, by assumption, by simp⟩
    · cases h
  | i :: idx, k, j, q, h => by
    rw [srcOf] at h
    split at h
    · cases h
    · rename_i hne
      obtain ⟨h1, h2, h3⟩ := srcOf_inl h
      refine ⟨h1, h2, ?_⟩
      simp only [List.mem_cons, not_or]
      refine ⟨fun e => hne ⟨by simpa using h3, e⟩, h3⟩
theorem srcOf_inj {n : Nat} : ∀ {idx : List Nat} {k j j' m : Nat}, idx.Nodup → srcOf n k idx j = .inr m → srcOf n k idx j' = .inr m → j = j'
  | [], k, j, j', m, _, h, h' => by
    simp only [srcOf] at h h'
    split at h
    · cases h
    · split at h'
      · cases h'
      · injection h with h; injection h' with h'; omega
  | i :: idx, k, j, j', m, hn, h, h' => by
    have hlow : ∀ {idx : List Nat} {k j m : Nat}, srcOf n k idx j = .inr m → k ≤ m := by
      intro idx
      induction idx with
      | nil => intro k j m h; simp only [srcOf] at h; split at h; cases h; injection h with h; omega
      | cons a t ih => intro k j m h; rw [srcOf] at h; split at h; injection h with h; omega; have := ih h; omega
    have hn' := List.nodup_cons.1 hn
    rw [srcOf] at h h'
    split at h <;> split at h'
    · rename_i q q'; exact q.2.trans q'.2.symm
    · injection h with h; have := hlow h'; omega
    · injection h' with h'; have := hlow h; omega
    · exact srcOf_inj hn'.2 h h'
theorem pick_get (L : List It) (idx : List Nat) (k : Nat) (hr : ∀ i ∈ idx, i < L.length) (I : It) (h : (pick L idx)[k]? = some I) : ∃ i, idx[k]? = some i ∧ i < L.length ∧ L[i]? = some I := by
  unfold pick at h
  rw [List.getElem?_map] at h
  cases hk : idx[k]? with
  | none => rw [hk] at h; cases h
  | some i =>
    rw [hk] at h
    have hi := hr i (List.mem_of_getElem? hk)
    simp only [Option.map_some, List.getElem?_eq_getElem hi, Option.getD_some] at h
    exact ⟨i, rfl, hi, by rw [List.getElem?_eq_getElem hi]; exact h⟩
/-- THE FRAME RULE: a call that needs some of the items. -/
theorem Own.sub (st : Own fr al w0 L w) (idx : List Nat) (hn : idx.Nodup) (hr : ∀ i ∈ idx, i < L.length) :
    ∃ fr' al' : Nat → Prop, Own fr' al' w (pick L idx) w ∧ ∀ M w', idx.length ≤ M.length → Own fr' al' w M w' → Own fr al w0 (putIt L M 0 idx) w' := by
  obtain ⟨hm, e, s, F⟩ := st
  have hpl : (pick L idx).length = idx.length := by simp [pick]
  have hix : ∀ {k}, k < idx.length → idx.getD k 0 < L.length := fun {k} h => by
    rw [List.getD_eq_getElem?_getD, List.getElem?_eq_getElem h]; exact hr _ (List.getElem_mem h)
  have hxn : ∀ {k k'}, k < idx.length → k' < idx.length → k ≠ k' → idx.getD k 0 ≠ idx.getD k' 0 := fun {k k'} h h' hne he => by
    rw [List.getD_eq_getElem?_getD, List.getElem?_eq_getElem h, List.getD_eq_getElem?_getD, List.getElem?_eq_getElem h'] at he
    exact hne ((List.getElem_inj (h₀ := h) (h₁ := h') hn).1 (by simpa using he))
  refine ⟨fun b => ∃ i ∈ idx, e i b, fun b => ∃ i ∈ idx, e i b ∨ s i b, ⟨MutO.refl _ _, fun k => e (idx.getD k 0), fun k => s (idx.getD k 0), ?_, ?_, ?_, ?_, ?_, ?_⟩, ?_⟩
  · intro k I hk
    obtain ⟨i, h1, h2, h3⟩ := pick_get L idx k hr I hk
    rw [List.getD_eq_getElem?_getD, h1]
    exact F.holds i I h3
  · intro k b hk hb; rw [hpl] at hk; exact F.lo _ b (hix hk) hb
  · intro k b hk hb _; rw [hpl] at hk
    exact ⟨_, by rw [List.getD_eq_getElem?_getD, List.getElem?_eq_getElem hk]; exact List.getElem_mem hk, hb⟩
  · intro k b hk hb _; rw [hpl] at hk
    exact ⟨_, by rw [List.getD_eq_getElem?_getD, List.getElem?_eq_getElem hk]; exact List.getElem_mem hk, hb⟩
  · intro k k' b hk hk' hne hb; rw [hpl] at hk hk'; exact F.ee _ _ b (hix hk) (hix hk') (hxn hk hk' hne) hb
  · intro k k' b hk hk' hb; rw [hpl] at hk hk'; exact F.es _ _ b (hix hk) (hix hk') hb
  · rintro M w' hML ⟨hm', eM, sM, FM⟩
    have hle := hm.size
    have hget := fun j => putIt_get M idx L 0 j hr hn (by omega)
    have hsrc : ∀ {j}, j < (putIt L M 0 idx).length → (∃ m, srcOf L.length 0 idx j = .inr m ∧ m < M.length) ∨ (srcOf L.length 0 idx j = .inl j ∧ j < L.length ∧ j ∉ idx) := fun {j} hj => by
      have h1 := hget j
      rw [List.getElem?_eq_getElem hj] at h1
      cases hs : srcOf L.length 0 idx j with
      | inr m => rw [hs] at h1; exact .inl ⟨m, rfl, (List.getElem?_eq_some_iff.1 h1.symm).1⟩
      | inl q => obtain ⟨rfl, h2, h3⟩ := srcOf_inl hs; exact .inr ⟨rfl, h2, h3⟩
    -- an item that stays is far from what the call had
    have hfar : ∀ {j b}, j < L.length → j ∉ idx → (e j b ∨ s j b) → ¬ ∃ i ∈ idx, e i b := fun {j b} hj hji hb ⟨i, hi, he⟩ => by
      have hne : i ≠ j := fun q => hji (q ▸ hi)
      rcases hb with hb | hb
      · exact F.ee i j b (hr i hi) hj hne he hb
      · exact F.es i j b (hr i hi) hj he hb
    have hfar' : ∀ {j b}, j < L.length → j ∉ idx → e j b → ¬ ∃ i ∈ idx, e i b ∨ s i b := fun {j b} hj hji hb ⟨i, hi, he⟩ => by
      have hne : i ≠ j := fun q => hji (q ▸ hi)
      rcases he with he | he
      · exact F.ee i j b (hr i hi) hj hne he hb
      · exact F.es j i b hj (hr i hi) hb he
    refine ⟨hm.trans hm' fun b hb ⟨i, hi, he⟩ => F.fr i b (hr i hi) he hb, fun j => match srcOf L.length 0 idx j with | .inl i => e i | .inr m => eM m, fun j => match srcOf L.length 0 idx j with | .inl i => s i | .inr m => sM m, ?_, ?_, ?_, ?_, ?_, ?_⟩
    · intro j J hj
      have hjl := get_lt hj
      rw [hget j] at hj
      rcases hsrc hjl with ⟨m, h1, h2⟩ | ⟨h1, h2, h3⟩
      · simp only [h1] at hj ⊢
        exact FM.holds m J hj
      · simp only [h1] at hj ⊢
        exact J.st (F.holds j J hj) fun b hb => hm'.block b (F.lo j b h2 hb) (hfar h2 h3 hb)
    · intro j b hj hb
      rcases hsrc hj with ⟨m, h1, h2⟩ | ⟨h1, h2, h3⟩
      · simp only [h1] at hb
        exact FM.lo m b h2 hb
      · simp only [h1] at hb
        exact Nat.lt_of_lt_of_le (F.lo j b h2 hb) hm'.size
    · intro j b hj hb hb0
      rcases hsrc hj with ⟨m, h1, h2⟩ | ⟨h1, h2, h3⟩
      · simp only [h1] at hb
        obtain ⟨i, hi, he⟩ := FM.fr m b h2 hb (by omega)
        exact F.fr i b (hr i hi) he hb0
      · simp only [h1] at hb
        exact F.fr j b h2 hb hb0
    · intro j b hj hb hb0
      rcases hsrc hj with ⟨m, h1, h2⟩ | ⟨h1, h2, h3⟩
      · simp only [h1] at hb
        obtain ⟨i, hi, he⟩ := FM.al m b h2 hb (by omega)
        exact F.al i b (hr i hi) he hb0
      · simp only [h1] at hb
        exact F.al j b h2 hb hb0
    · intro j k b hj hk hjk hb hb'
      rcases hsrc hj with ⟨m, h1, h2⟩ | ⟨h1, h2, h3⟩ <;> rcases hsrc hk with ⟨m', h1', h2'⟩ | ⟨h1', h2', h3'⟩
      · simp only [h1, h1'] at hb hb'
        exact FM.ee m m' b h2 h2' (fun q => hjk (srcOf_inj hn h1 (q ▸ h1'))) hb hb'
      · simp only [h1, h1'] at hb hb'
        exact hfar h2' h3' (.inl hb') (FM.fr m b h2 hb (F.lo k b h2' (.inl hb')))
      · simp only [h1, h1'] at hb hb'
        exact hfar h2 h3 (.inl hb) (FM.fr m' b h2' hb' (F.lo j b h2 (.inl hb)))
      · simp only [h1, h1'] at hb hb'
        exact F.ee j k b h2 h2' hjk hb hb'
    · intro j k b hj hk hb hb'
      rcases hsrc hj with ⟨m, h1, h2⟩ | ⟨h1, h2, h3⟩ <;> rcases hsrc hk with ⟨m', h1', h2'⟩ | ⟨h1', h2', h3'⟩
      · simp only [h1, h1'] at hb hb'
        exact FM.es m m' b h2 h2' hb hb'
      · simp only [h1, h1'] at hb hb'
        exact hfar h2' h3' (.inr hb') (FM.fr m b h2 hb (F.lo k b h2' (.inr hb')))
      · simp only [h1, h1'] at hb hb'
        exact hfar' h2 h3 hb (FM.al m' b h2' (.inr hb') (F.lo j b h2 (.inl hb)))
      · simp only [h1, h1'] at hb hb'
        exact F.es j k b h2 h2' hb hb'
end
end Go.Proofs.Ytcminppmmhinjaa
