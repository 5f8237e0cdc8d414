/- Sets as rising lists: no program in sight. -/
import Derived.Test.YtpenjnccdachaaaFlat
import Derived.Lib.SlicesCompact
namespace Go.Proofs.Ytpenjnccdachaaa
set_option linter.unusedSimpArgs false
set_option linter.unusedVariables false
open Go
/-- An order on what P lets. -/
structure SOrd {α : Type} (lt : α → α → Bool) (P : α → Bool) : Prop where
  irr : ∀ x, lt x x = false
  tr : ∀ x y z, lt x y = true → lt y z = true → lt x z = true
  tri : ∀ x y, P x = true → P y = true → lt x y = true ∨ x = y ∨ lt y x = true
/-- Strictly rising, and just those of l that P lets. -/
def SSet {α : Type} (lt : α → α → Bool) (P : α → Bool) (l out : List α) : Prop := out.Pairwise (fun x y => lt x y = true) ∧ ∀ x, x ∈ out ↔ x ∈ l ∧ P x = true
section
variable {α : Type} {lt : α → α → Bool} {P : α → Bool}
theorem pairwise_ext (irr : ∀ x, lt x x = false) (tr : ∀ x y z, lt x y = true → lt y z = true → lt x z = true) : ∀ {a b : List α}, a.Pairwise (fun x y => lt x y = true) → b.Pairwise (fun x y => lt x y = true) → (∀ x, x ∈ a ↔ x ∈ b) → a = b
  | [], [], _, _, _ => rfl
  | [], y :: b, _, _, h => absurd ((h y).2 (by simp)) (by simp)
  | x :: a, [], _, _, h => absurd ((h x).1 (by simp)) (by simp)
  | x :: a, y :: b, ha, hb, h => by
    obtain ⟨ha1, ha2⟩ := List.pairwise_cons.1 ha
    obtain ⟨hb1, hb2⟩ := List.pairwise_cons.1 hb
    have hxy : x = y := by
      rcases List.mem_cons.1 ((h x).1 (by simp)) with e | e
      · exact e
      · rcases List.mem_cons.1 ((h y).2 (by simp)) with e' | e'
        · exact e'.symm
        · have := tr _ _ _ (hb1 x e) (ha1 y e'); rw [irr] at this; cases this
    subst hxy
    have : a = b := pairwise_ext irr tr ha2 hb2 fun z => by
      have hz := h z
      simp only [List.mem_cons] at hz
      constructor
      · intro q
        rcases hz.1 (.inr q) with e | e
        · subst e; have := ha1 z q; rw [irr] at this; cases this
        · exact e
      · intro q
        rcases hz.2 (.inr q) with e | e
        · subst e; have := hb1 z q; rw [irr] at this; cases this
        · exact e
    rw [this]
theorem SSet.uniq (o : SOrd lt P) {l a b : List α} (ha : SSet lt P l a) (hb : SSet lt P l b) : a = b := pairwise_ext o.irr o.tr ha.1 hb.1 fun x => (ha.2 x).trans (hb.2 x).symm
/-- Of the same members. -/
theorem SSet.mem {l l' a b : List α} (o : SOrd lt P) (ha : SSet lt P l a) (hb : SSet lt P l' b) (h : ∀ x, P x = true → (x ∈ l ↔ x ∈ l')) : a = b := by
  refine pairwise_ext o.irr o.tr ha.1 hb.1 fun x => ?_
  rw [ha.2, hb.2]
  constructor
  · rintro ⟨h1, h2⟩; exact ⟨(h x h2).1 h1, h2⟩
  · rintro ⟨h1, h2⟩; exact ⟨(h x h2).2 h1, h2⟩
/-- The least candidate, the first of the like. -/
def pickMin (lt : α → α → Bool) (cand : α → Bool) (l : List α) : Option α := l.foldl (fun b x => if cand x && b.all (fun y => lt x y) then some x else b) none
theorem pickMin_snoc (cand : α → Bool) (l : List α) (x : α) : pickMin lt cand (l ++ [x]) = if cand x && (pickMin lt cand l).all (fun y => lt x y) then some x else pickMin lt cand l := by
  unfold pickMin; rw [List.foldl_append]; rfl
theorem pickMin_take (cand : α → Bool) (l : List α) (j : Nat) (h : j < l.length) : pickMin lt cand (l.take (j + 1)) = if cand l[j] && (pickMin lt cand (l.take j)).all (fun y => lt l[j] y) then some l[j] else pickMin lt cand (l.take j) := by
  rw [← List.take_append_getElem h, pickMin_snoc]
theorem list_snoc {motive : List α → Prop} (nil : motive []) (snoc : ∀ l x, motive l → motive (l ++ [x])) : ∀ l, motive l := by
  intro l
  have : ∀ r : List α, motive r.reverse := by
    intro r
    induction r with
    | nil => exact nil
    | cons x r ih => rw [List.reverse_cons]; exact snoc _ _ ih
  have := this l.reverse
  rwa [List.reverse_reverse] at this
theorem pickMin_spec (tr : ∀ x y z, lt x y = true → lt y z = true → lt x z = true) (irr : ∀ x, lt x x = false) (cand : α → Bool) (l : List α) :
    (pickMin lt cand l = none → ∀ x ∈ l, cand x = false) ∧ (∀ y, pickMin lt cand l = some y → y ∈ l ∧ cand y = true ∧ ∀ x ∈ l, cand x = true → lt x y = false) := by
  induction l using list_snoc with
  | nil => exact ⟨fun _ x hx => by simp at hx, fun y hy => by simp [pickMin] at hy⟩
  | snoc l x ih =>
    rw [pickMin_snoc]
    by_cases hc : (cand x && (pickMin lt cand l).all (fun y => lt x y)) = true
    · rw [if_pos hc]
      simp only [Bool.and_eq_true] at hc
      refine ⟨fun h => (by cases h), fun y hy => ?_⟩
      cases hy
      refine ⟨by simp, hc.1, fun z hz hcz => ?_⟩
      rcases List.mem_append.1 hz with q | q
      · cases hp : pickMin lt cand l with
        | none => have := ih.1 hp z q; rw [this] at hcz; cases hcz
        | some y0 =>
          have h1 := (ih.2 y0 hp).2.2 z q hcz
          have h2 : lt x y0 = true := by have := hc.2; rw [hp] at this; simpa using this
          cases h3 : lt z x with
          | false => rfl
          | true => have := tr _ _ _ h3 h2; rw [this] at h1; cases h1
      · rw [List.mem_singleton.1 q]; exact irr x
    · rw [if_neg hc]
      refine ⟨fun h z hz => ?_, fun y hy => ?_⟩
      · rcases List.mem_append.1 hz with q | q
        · exact ih.1 h z q
        · rw [List.mem_singleton.1 q]
          cases hcx : cand x with
          | false => rfl
          | true => rw [h, hcx] at hc; simp at hc
      · obtain ⟨h1, h2, h3⟩ := ih.2 y hy
        refine ⟨List.mem_append.2 (.inl h1), h2, fun z hz hcz => ?_⟩
        rcases List.mem_append.1 hz with q | q
        · exact h3 z q hcz
        · rw [List.mem_singleton.1 q] at hcz ⊢
          rw [hcz, hy] at hc
          simpa using hc
/-- What may come behind out. -/
def cnd (lt : α → α → Bool) (P : α → Bool) (out : List α) (x : α) : Bool := P x && out.getLast?.all (fun z => lt z x)
/-- A set that grows by its least candidate. -/
def GInv (lt : α → α → Bool) (P : α → Bool) (l out : List α) : Prop := out.Pairwise (fun x y => lt x y = true) ∧ (∀ x ∈ out, x ∈ l ∧ P x = true) ∧ ∀ x ∈ l, P x = true → cnd lt P out x = false → x ∈ out
theorem GInv.nil (l : List α) : GInv lt P l [] := ⟨List.Pairwise.nil, fun x hx => by simp at hx, fun x _ hp hc => by simp [cnd, hp] at hc⟩
theorem GInv.step (o : SOrd lt P) {l out : List α} {y : α} (h : GInv lt P l out) (hy : pickMin lt (cnd lt P out) l = some y) : GInv lt P l (out ++ [y]) := by
  obtain ⟨h1, h2, h3⟩ := h
  obtain ⟨q1, q2, q3⟩ := (pickMin_spec o.tr o.irr (cnd lt P out) l).2 y hy
  have q2' := q2
  simp only [cnd, Bool.and_eq_true] at q2'
  refine ⟨?_, ?_, ?_⟩
  · rw [List.pairwise_append]
    refine ⟨h1, List.pairwise_singleton _ _, fun a ha b hb => ?_⟩
    rw [List.mem_singleton.1 hb]
    obtain ⟨z, hz⟩ : ∃ z, out.getLast? = some z := by
      cases hl : out.getLast? with
      | none => rw [List.getLast?_eq_none_iff] at hl; subst hl; simp at ha
      | some z => exact ⟨z, rfl⟩
    have hzy : lt z y = true := by have := q2'.2; rw [hz] at this; simpa using this
    obtain ⟨pre, rfl⟩ := List.getLast?_eq_some_iff.1 hz
    rcases List.mem_append.1 ha with q | q
    · exact o.tr _ _ _ ((List.pairwise_append.1 h1).2.2 a q z (by simp)) hzy
    · rw [List.mem_singleton.1 q]; exact hzy
  · intro x hx
    rcases List.mem_append.1 hx with q | q
    · exact h2 x q
    · rw [List.mem_singleton.1 q]; exact ⟨q1, q2'.1⟩
  · intro x hx hp hc
    have hyx : lt y x = false := by simpa [cnd, hp] using hc
    cases hcx : cnd lt P out x with
    | false => exact List.mem_append.2 (.inl (h3 x hx hp hcx))
    | true =>
      have hxy := q3 x hx hcx
      rcases o.tri x y hp q2'.1 with q | q | q
      · rw [q] at hxy; cases hxy
      · rw [q]; simp
      · rw [q] at hyx; cases hyx
theorem GInv.done (o : SOrd lt P) {l out : List α} (h : GInv lt P l out) (hn : pickMin lt (cnd lt P out) l = none) : SSet lt P l out := by
  obtain ⟨h1, h2, h3⟩ := h
  exact ⟨h1, fun x => ⟨h2 x, fun ⟨q1, q2⟩ => h3 x q1 q2 ((pickMin_spec o.tr o.irr _ _).1 hn x q1)⟩⟩
theorem filter_len_le (p q : α → Bool) (l : List α) (h : ∀ x ∈ l, p x = true → q x = true) : (l.filter p).length ≤ (l.filter q).length := by
  induction l with
  | nil => simp
  | cons x l ih =>
    have i := ih fun y hy => h y (List.mem_cons_of_mem _ hy)
    have hx := h x (by simp)
    simp only [List.filter_cons]
    split
    · rename_i hp; rw [if_pos (hx hp)]; simp; omega
    · split <;> simp <;> omega
theorem filter_len_lt (p q : α → Bool) : ∀ (l : List α), (∀ x ∈ l, p x = true → q x = true) → ∀ y ∈ l, q y = true → p y = false → (l.filter p).length < (l.filter q).length
  | [], _, y, hy, _, _ => by simp at hy
  | x :: l, h, y, hy, h1, h2 => by
    have h' : ∀ z ∈ l, p z = true → q z = true := fun z hz => h z (List.mem_cons_of_mem _ hz)
    have hle := filter_len_le p q l h'
    simp only [List.filter_cons]
    rcases List.mem_cons.1 hy with rfl | hm
    · rw [if_pos h1, if_neg (by rw [h2]; simp)]; simp; omega
    · have ih := filter_len_lt p q l h' y hm h1 h2
      have hx := h x (by simp)
      split
      · rename_i hp; rw [if_pos (hx hp)]; simp; omega
      · split <;> simp <;> omega
/-- How many may come yet. -/
def left (lt : α → α → Bool) (P : α → Bool) (l out : List α) : Nat := (l.filter (cnd lt P out)).length
theorem left_step (o : SOrd lt P) {l out : List α} {y : α} (hy : pickMin lt (cnd lt P out) l = some y) : left lt P l (out ++ [y]) < left lt P l out := by
  obtain ⟨q1, q2, q3⟩ := (pickMin_spec o.tr o.irr (cnd lt P out) l).2 y hy
  refine filter_len_lt _ _ l (fun x hx hc => ?_) y q1 q2 (by simp [cnd, o.irr])
  simp only [cnd, Bool.and_eq_true, List.getLast?_append, List.getLast?_singleton, Option.some_or, Option.all_some] at hc q2 ⊢
  refine ⟨hc.1, ?_⟩
  cases hl : out.getLast? with
  | none => rfl
  | some z => rw [hl] at q2; simp only [Option.all_some] at q2 ⊢; exact o.tr _ _ _ q2.2 hc.2
theorem SSet.len {l out : List α} (irr : ∀ x, lt x x = false) (h : SSet lt P l out) : out.length ≤ l.length := by
  have hnd : out.Nodup := h.1.imp fun {a b} hab e => by subst e; rw [irr] at hab; cases hab
  exact (List.Nodup.length_le_of_subset hnd fun x hx => ((h.2 x).1 hx).1)
theorem GInv.len {l out : List α} (irr : ∀ x, lt x x = false) (h : GInv lt P l out) : out.length ≤ l.length := by
  have hnd : out.Nodup := h.1.imp fun {a b} hab e => by subst e; rw [irr] at hab; cases hab
  exact (List.Nodup.length_le_of_subset hnd fun x hx => (h.2.1 x hx).1)
end
end Go.Proofs.Ytpenjnccdachaaa
