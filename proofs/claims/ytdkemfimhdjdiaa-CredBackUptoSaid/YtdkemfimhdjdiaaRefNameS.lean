/- Sets as rising lists: no program in sight. -/
import Derived.Test.YtdkemfimhdjdiaaRow
import Derived.Lib.SlicesCompact
import Derived.Sort.Walk0
namespace Go.Proofs.Ytdkemfimhdjdiaa
set_option linter.unusedSimpArgs false
set_option linter.unusedVariables false
open Go
/-- An order on what P lets. -/
structure SOrd {α : Type} (lt : α → α → Bool) (P : α → Bool) : Prop where
  irr : ∀ x, lt x x = false
  tr : ∀ x y z, lt x y = true → lt y z = true → lt x z = true
  tri : ∀ x y, P x = true → P y = true → lt x y = true ∨ x = y ∨ lt y x = true
/-- Strictly rising, and just those of l that P lets. -/
def SSet {α : Type} (lt : α → α → Bool) (P : α → Bool) (l out : List α) : Prop := out.Pairwise (fun x y => lt x y = true) ∧ ∀ x, x ∈ out ↔ x ∈ l ∧ P x = true
section
variable {α : Type} {lt : α → α → Bool} {P : α → Bool}
theorem pairwise_ext (irr : ∀ x, lt x x = false) (tr : ∀ x y z, lt x y = true → lt y z = true → lt x z = true) : ∀ {a b : List α}, a.Pairwise (fun x y => lt x y = true) → b.Pairwise (fun x y => lt x y = true) → (∀ x, x ∈ a ↔ x ∈ b) → a = b
  | [], [], _, _, _ => rfl
  | [], y :: b, _, _, h => absurd ((h y).2 (by simp)) (by simp)
  | x :: a, [], _, _, h => absurd ((h x).1 (by simp)) (by simp)
  | x :: a, y :: b, ha, hb, h => by
    obtain ⟨ha1, ha2⟩ := List.pairwise_cons.1 ha
    obtain ⟨hb1, hb2⟩ := List.pairwise_cons.1 hb
    have hxy : x = y := by
      rcases List.mem_cons.1 ((h x).1 (by simp)) with e | e
      · exact e
      · rcases List.mem_cons.1 ((h y).2 (by simp)) with e' | e'
        · exact e'.symm
        · have := tr _ _ _ (hb1 x e) (ha1 y e'); rw [irr] at this; cases this
    subst hxy
    have : a = b := pairwise_ext irr tr ha2 hb2 fun z => by
      have hz := h z
      simp only [List.mem_cons] at hz
      constructor
      · intro q
        rcases hz.1 (.inr q) with e | e
        · subst e; have := ha1 z q; rw [irr] at this; cases this
        · exact e
      · intro q
        rcases hz.2 (.inr q) with e | e
        · subst e; have := hb1 z q; rw [irr] at this; cases this
        · exact e
    rw [this]
theorem SSet.uniq (o : SOrd lt P) {l a b : List α} (ha : SSet lt P l a) (hb : SSet lt P l b) : a = b := pairwise_ext o.irr o.tr ha.1 hb.1 fun x => (ha.2 x).trans (hb.2 x).symm
/-- Of the same members. -/
theorem SSet.mem {l l' a b : List α} (o : SOrd lt P) (ha : SSet lt P l a) (hb : SSet lt P l' b) (h : ∀ x, P x = true → (x ∈ l ↔ x ∈ l')) : a = b := by
  refine pairwise_ext o.irr o.tr ha.1 hb.1 fun x => ?_
  rw [ha.2, hb.2]
  constructor
  · rintro ⟨h1, h2⟩; exact ⟨(h x h2).1 h1, h2⟩
  · rintro ⟨h1, h2⟩; exact ⟨(h x h2).2 h1, h2⟩
/-- The least candidate, the first of the like. -/
def pickMin (lt : α → α → Bool) (cand : α → Bool) (l : List α) : Option α := l.foldl (fun b x => if cand x && b.all (fun y => lt x y) then some x else b) none
theorem pickMin_snoc (cand : α → Bool) (l : List α) (x : α) : pickMin lt cand (l ++ [x]) = if cand x && (pickMin lt cand l).all (fun y => lt x y) then some x else pickMin lt cand l := by
  unfold pickMin; rw [List.foldl_append]; rfl
theorem pickMin_take (cand : α → Bool) (l : List α) (j : Nat) (h : j < l.length) : pickMin lt cand (l.take (j + 1)) = if cand l[j] && (pickMin lt cand (l.take j)).all (fun y => lt l[j] y) then some l[j] else pickMin lt cand (l.take j) := by
  rw [← List.take_append_getElem h, pickMin_snoc]
theorem list_snoc {motive : List α → Prop} (nil : motive []) (snoc : ∀ l x, motive l → motive (l ++ [x])) : ∀ l, motive l := by
  intro l
  have : ∀ r : List α, motive r.reverse := by
    intro r
    induction r with
    | nil => exact nil
    | cons x r ih => rw [List.reverse_cons]; exact snoc _ _ ih
  have := this l.reverse
  rwa [List.reverse_reverse] at this
theorem pickMin_spec (tr : ∀ x y z, lt x y = true → lt y z = true → lt x z = true) (irr : ∀ x, lt x x = false) (cand : α → Bool) (l : List α) :
    (pickMin lt cand l = none → ∀ x ∈ l, cand x = false) ∧ (∀ y, pickMin lt cand l = some y → y ∈ l ∧ cand y = true ∧ ∀ x ∈ l, cand x = true → lt x y = false) := by
  induction l using list_snoc with
  | nil => exact ⟨fun _ x hx => by simp at hx, fun y hy => by simp [pickMin] at hy⟩
  | snoc l x ih =>
    rw [pickMin_snoc]
    by_cases hc : (cand x && (pickMin lt cand l).all (fun y => lt x y)) = true
    · rw [if_pos hc]
      simp only [Bool.and_eq_true] at hc
      refine ⟨fun h => (by cases h), fun y hy => ?_⟩
      cases hy
      refine ⟨by simp, hc.1, fun z hz hcz => ?_⟩
      rcases List.mem_append.1 hz with q | q
      · cases hp : pickMin lt cand l with
        | none => have := ih.1 hp z q; rw [this] at hcz; cases hcz
        | some y0 =>
          have h1 := (ih.2 y0 hp).2.2 z q hcz
          have h2 : lt x y0 = true := by have := hc.2; rw [hp] at this; simpa using this
          cases h3 : lt z x with
          | false => rfl
          | true => have := tr _ _ _ h3 h2; rw [this] at h1; cases h1
      · rw [List.mem_singleton.1 q]; exact irr x
    · rw [if_neg hc]
      refine ⟨fun h z hz => ?_, fun y hy => ?_⟩
      · rcases List.mem_append.1 hz with q | q
        · exact ih.1 h z q
        · rw [List.mem_singleton.1 q]
          cases hcx : cand x with
          | false => rfl
          | true => rw [h, hcx] at hc; simp at hc
      · obtain ⟨h1, h2, h3⟩ := ih.2 y hy
        refine ⟨List.mem_append.2 (.inl h1), h2, fun z hz hcz => ?_⟩
        rcases List.mem_append.1 hz with q | q
        · exact h3 z q hcz
        · rw [List.mem_singleton.1 q] at hcz ⊢
          rw [hcz, hy] at hc
          simpa using hc
/-- What may come behind out. -/
def cnd (lt : α → α → Bool) (P : α → Bool) (out : List α) (x : α) : Bool := P x && out.getLast?.all (fun z => lt z x)
/-- A set that grows by its least candidate. -/
def GInv (lt : α → α → Bool) (P : α → Bool) (l out : List α) : Prop := out.Pairwise (fun x y => lt x y = true) ∧ (∀ x ∈ out, x ∈ l ∧ P x = true) ∧ ∀ x ∈ l, P x = true → cnd lt P out x = false → x ∈ out
theorem GInv.nil (l : List α) : GInv lt P l [] := ⟨List.Pairwise.nil, fun x hx => by simp at hx, fun x _ hp hc => by simp [cnd, hp] at hc⟩
theorem GInv.step (o : SOrd lt P) {l out : List α} {y : α} (h : GInv lt P l out) (hy : pickMin lt (cnd lt P out) l = some y) : GInv lt P l (out ++ [y]) := by
  obtain ⟨h1, h2, h3⟩ := h
  obtain ⟨q1, q2, q3⟩ := (pickMin_spec o.tr o.irr (cnd lt P out) l).2 y hy
  have q2' := q2
  simp only [cnd, Bool.and_eq_true] at q2'
  refine ⟨?_, ?_, ?_⟩
  · rw [List.pairwise_append]
    refine ⟨h1, List.pairwise_singleton _ _, fun a ha b hb => ?_⟩
    rw [List.mem_singleton.1 hb]
    obtain ⟨z, hz⟩ : ∃ z, out.getLast? = some z := by
      cases hl : out.getLast? with
      | none => rw [List.getLast?_eq_none_iff] at hl; subst hl; simp at ha
      | some z => exact ⟨z, rfl⟩
    have hzy : lt z y = true := by have := q2'.2; rw [hz] at this; simpa using this
    obtain ⟨pre, rfl⟩ := List.getLast?_eq_some_iff.1 hz
    rcases List.mem_append.1 ha with q | q
    · exact o.tr _ _ _ ((List.pairwise_append.1 h1).2.2 a q z (by simp)) hzy
    · rw [List.mem_singleton.1 q]; exact hzy
  · intro x hx
    rcases List.mem_append.1 hx with q | q
    · exact h2 x q
    · rw [List.mem_singleton.1 q]; exact ⟨q1, q2'.1⟩
  · intro x hx hp hc
    have hyx : lt y x = false := by simpa [cnd, hp] using hc
    cases hcx : cnd lt P out x with
    | false => exact List.mem_append.2 (.inl (h3 x hx hp hcx))
    | true =>
      have hxy := q3 x hx hcx
      rcases o.tri x y hp q2'.1 with q | q | q
      · rw [q] at hxy; cases hxy
      · rw [q]; simp
      · rw [q] at hyx; cases hyx
theorem GInv.done (o : SOrd lt P) {l out : List α} (h : GInv lt P l out) (hn : pickMin lt (cnd lt P out) l = none) : SSet lt P l out := by
  obtain ⟨h1, h2, h3⟩ := h
  exact ⟨h1, fun x => ⟨h2 x, fun ⟨q1, q2⟩ => h3 x q1 q2 ((pickMin_spec o.tr o.irr _ _).1 hn x q1)⟩⟩
theorem filter_len_le (p q : α → Bool) (l : List α) (h : ∀ x ∈ l, p x = true → q x = true) : (l.filter p).length ≤ (l.filter q).length := by
  induction l with
  | nil => simp
  | cons x l ih =>
    have i := ih fun y hy => h y (List.mem_cons_of_mem _ hy)
    have hx := h x (by simp)
    simp only [List.filter_cons]
    split
    · rename_i hp; rw [if_pos (hx hp)]; simp; omega
    · split <;> simp <;> omega
theorem filter_len_lt (p q : α → Bool) : ∀ (l : List α), (∀ x ∈ l, p x = true → q x = true) → ∀ y ∈ l, q y = true → p y = false → (l.filter p).length < (l.filter q).length
  | [], _, y, hy, _, _ => by simp at hy
  | x :: l, h, y, hy, h1, h2 => by
    have h' : ∀ z ∈ l, p z = true → q z = true := fun z hz => h z (List.mem_cons_of_mem _ hz)
    have hle := filter_len_le p q l h'
    simp only [List.filter_cons]
    rcases List.mem_cons.1 hy with rfl | hm
    · rw [if_pos h1, if_neg (by rw [h2]; simp)]; simp; omega
    · have ih := filter_len_lt p q l h' y hm h1 h2
      have hx := h x (by simp)
      split
      · rename_i hp; rw [if_pos (hx hp)]; simp; omega
      · split <;> simp <;> omega
/-- How many may come yet. -/
def left (lt : α → α → Bool) (P : α → Bool) (l out : List α) : Nat := (l.filter (cnd lt P out)).length
theorem left_step (o : SOrd lt P) {l out : List α} {y : α} (hy : pickMin lt (cnd lt P out) l = some y) : left lt P l (out ++ [y]) < left lt P l out := by
  obtain ⟨q1, q2, q3⟩ := (pickMin_spec o.tr o.irr (cnd lt P out) l).2 y hy
  refine filter_len_lt _ _ l (fun x hx hc => ?_) y q1 q2 (by simp [cnd, o.irr])
  simp only [cnd, Bool.and_eq_true, List.getLast?_append, List.getLast?_singleton, Option.some_or, Option.all_some] at hc q2 ⊢
  refine ⟨hc.1, ?_⟩
  cases hl : out.getLast? with
  | none => rfl
  | some z => rw [hl] at q2; simp only [Option.all_some] at q2 ⊢; exact o.tr _ _ _ q2.2 hc.2
theorem SSet.len {l out : List α} (irr : ∀ x, lt x x = false) (h : SSet lt P l out) : out.length ≤ l.length := by
  have hnd : out.Nodup := h.1.imp fun {a b} hab e => by subst e; rw [irr] at hab; cases hab
  exact (List.Nodup.length_le_of_subset hnd fun x hx => ((h.2 x).1 hx).1)
theorem GInv.len {l out : List α} (irr : ∀ x, lt x x = false) (h : GInv lt P l out) : out.length ≤ l.length := by
  have hnd : out.Nodup := h.1.imp fun {a b} hab e => by subst e; rw [irr] at hab; cases hab
  exact (List.Nodup.length_le_of_subset hnd fun x hx => (h.2.1 x hx).1)
end
end Go.Proofs.Ytdkemfimhdjdiaa

namespace Go.Proofs.Ytdkemfimhdjdiaa
set_option linter.unusedSimpArgs false
set_option linter.unusedVariables false
open Go
section
variable {α : Type} [Inhabited α] [DecidableEq α] {lt : α → α → Bool} {P : α → Bool}
theorem compact_inv (tr : ∀ x y z, lt x y = true → lt y z = true → lt x z = true) (irr : ∀ x, lt x x = false) (xs : List α) (tri : ∀ x ∈ xs, ∀ y ∈ xs, lt x y = true ∨ x = y ∨ lt y x = true)
    (hs : xs.Pairwise (fun x y => lt y x = false)) : ∀ m, m ≤ xs.length → (Lib.compactUpTo xs.toArray m).Pairwise (fun x y => lt x y = true) ∧ (∀ x, x ∈ Lib.compactUpTo xs.toArray m ↔ x ∈ xs.take m) ∧ (0 < m → (Lib.compactUpTo xs.toArray m).getLast? = xs[m - 1]?) := by
  intro m
  induction m with
  | zero => intro _; exact ⟨by simp [Lib.compactUpTo], by simp [Lib.compactUpTo], by omega⟩
  | succ m ih =>
    intro hm
    obtain ⟨h1, h2, h3⟩ := ih (by omega)
    have hx : xs.toArray[m]! = xs[m] := by simp [show m < xs.length by omega]
    have ht : xs.take (m + 1) = xs.take m ++ [xs[m]] := (List.take_append_getElem (by omega)).symm
    rw [Lib.compactUpTo_succ, ht]
    by_cases hk : Lib.keeps xs.toArray m = true
    · rw [if_pos hk, hx]
      refine ⟨?_, fun x => ?_, fun _ => ?_⟩
      · rw [List.pairwise_append]
        refine ⟨h1, List.pairwise_singleton _ _, fun a ha b hb => ?_⟩
        rw [List.mem_singleton.1 hb]
        have hm0 : 0 < m := by
          rcases Nat.eq_zero_or_pos m with q | q
          · subst q; simp [Lib.compactUpTo] at ha
          · exact q
        have hl := h3 hm0
        rw [List.getElem?_eq_getElem (by omega)] at hl
        have hne : xs[m] ≠ xs[m - 1] := by
          simp only [Lib.keeps, decide_eq_true_eq] at hk
          rcases hk with q | q
          · omega
          · have e1 : xs.toArray[m - 1]! = xs[m - 1] := by simp [show m - 1 < xs.length by omega]
            rw [hx, e1] at q; exact q
        have hlt : lt xs[m - 1] xs[m] = true := by
          have hns := List.pairwise_iff_getElem.1 hs (m - 1) m (by omega) (by omega) (by omega)
          rcases tri xs[m - 1] (List.getElem_mem _) xs[m] (List.getElem_mem _) with q | q | q
          · exact q
          · exact absurd q.symm hne
          · rw [q] at hns; cases hns
        obtain ⟨pre, hpre⟩ := List.getLast?_eq_some_iff.1 hl
        rw [hpre] at ha h1
        rcases List.mem_append.1 ha with q | q
        · exact tr _ _ _ ((List.pairwise_append.1 h1).2.2 a q _ (by simp)) hlt
        · rw [List.mem_singleton.1 q]; exact hlt
      · rw [List.mem_append, List.mem_append, h2]
      · simp [show m < xs.length by omega]
    · have hk' : Lib.keeps xs.toArray m = false := by simpa using hk
      rw [if_neg hk, List.append_nil]
      simp only [Lib.keeps, decide_eq_false_iff_not, not_or, Decidable.not_not] at hk'
      obtain ⟨hm0, he⟩ := hk'
      have e1 : xs.toArray[m - 1]! = xs[m - 1] := by simp [show m - 1 < xs.length by omega]
      rw [hx, e1] at he
      refine ⟨h1, fun x => ?_, fun _ => ?_⟩
      · rw [h2, List.mem_append]
        refine ⟨.inl, fun q => ?_⟩
        rcases q with q | q
        · exact q
        · rw [List.mem_singleton.1 q, he]
          rw [List.mem_take_iff_getElem]
          exact ⟨m - 1, by omega, rfl⟩
      · rw [h3 (by omega), Nat.add_sub_cancel, List.getElem?_eq_getElem (by omega), List.getElem?_eq_getElem (by omega), he]
theorem compact_set (o : SOrd lt P) (xs l : List α) (hP : ∀ x, x ∈ xs ↔ x ∈ l ∧ P x = true) (hs : xs.Pairwise (fun x y => lt y x = false)) : SSet lt P l (Lib.compact xs) := by
  obtain ⟨h1, h2, _⟩ := compact_inv o.tr o.irr xs (fun x hx y hy => o.tri x y ((hP x).1 hx).2 ((hP y).1 hy).2) hs xs.length (Nat.le_refl _)
  refine ⟨h1, fun x => ?_⟩
  rw [show Lib.compact xs = Lib.compactUpTo xs.toArray xs.length from rfl, h2, List.take_length, hP]
end
end Go.Proofs.Ytdkemfimhdjdiaa

namespace Go.Proofs.Ytdkemfimhdjdiaa
set_option linter.unusedSimpArgs false
set_option linter.unusedVariables false
open Go Go.RowKit
/-- A letter; a sign of a name. -/
def ltr (c : UInt8) : Bool := decide (97 ≤ c.toNat) && decide (c.toNat ≤ 122)
def sgn (c : UInt8) : Bool := ltr c || (decide (48 ≤ c.toNat) && decide (c.toNat ≤ 57)) || decide (c.toNat = 45)
/-- A right name. -/
def nameR : List UInt8 → Bool
  | [] => false
  | c :: s => decide (s.length + 1 ≤ 16) && ltr c && (c :: s).all sgn
end Go.Proofs.Ytdkemfimhdjdiaa

namespace Go.Proofs.Ytdkemfimhdjdiaa
set_option linter.unusedSimpArgs false
set_option linter.unusedVariables false
open Go Go.RowKit
theorem ba_get (l : List UInt8) (j : Nat) (h : j < (⟨l.toArray⟩ : ByteArray).size) : (⟨l.toArray⟩ : ByteArray)[j] = l[j]'(by simpa [ByteArray.size] using h) := by
  simp [ByteArray.getElem_eq_getElem_data]
set_option maxRecDepth 100000 in
set_option maxHeartbeats 1000000 in
theorem refRight_any (s : List UInt8) (W : World) (hs : s.length ≤ 1000000000) : Calls Try.prog 67 #[S s] W fun e w' => e = .returned (.bool (nameR s)) ∧ Ext W w' := by
  unfold S
  cases s with
  | nil =>
    go_enter Try.func67, Try.ntmps67
    go_wp2_with fail
    go_ret
    exact ⟨rfl, Ext.refl _⟩
  | cons c s =>
    have hsz : (⟨(c :: s).toArray⟩ : ByteArray).size = s.length + 1 := by simp [ByteArray.size]
    have hg0 : ∀ h, (⟨(c :: s).toArray⟩ : ByteArray)[0]'h = c := fun h => ba_get _ _ h
    have hlen : (c :: s).length = s.length + 1 := rfl
    have HL := Lib.hid (show nameR (c :: s) = (decide (s.length + 1 ≤ 16) && ltr c && (c :: s).all sgn) from rfl)
    by_cases h16 : s.length + 1 ≤ 16
    · by_cases hc1 : 97 ≤ c.toNat
      · by_cases hc2 : c.toNat ≤ 122
        · have hb1 : decide ((c.toNat : Int) < 97) = false := by simp; omega
          have hb2 : decide (122 < (c.toNat : Int)) = false := by simp; omega
          have HN : Hid (nameR (c :: s) = (c :: s).all sgn) := Lib.hid (by rw [HL.out]; simp [h16, ltr, hc1, hc2])
          rw [HN.out]
          generalize hA : (c :: s).all sgn = A at *
          have HA := Lib.hid hA
          clear HN HL hc1 hc2 hA
          go_enter Try.func67, Try.ntmps67
          go_wp2_with fail
          clear hb1 hb2 hg0
          generalize hS : c :: s = S at *
          clear hS
          have hA := HA.out
          subst hA
          clear HA
          go_loopw [3] (fun i wr => ∃ j : Nat, j ≤ S.length ∧ i = .int .i64 (j : Int) ∧ Hid ((S.take j).all sgn = true) ∧ Ext W wr) (fun i _ => S.length - (intOf i).toNat)
          case atStart => exact ⟨0, by omega, rfl, Lib.hid (by simp), Ext.refl _⟩
          case round =>
            obtain ⟨j, hj, rfl, HT, hx⟩ := hrel
            have HX := Lib.hid hx
            clear hx
            by_cases hjn : j < S.length
            · have hgj : ∀ h, (⟨S.toArray⟩ : ByteArray)[j]'h = S[j] := fun h => ba_get _ _ h
              have hts : S.take (j + 1) = S.take j ++ [S[j]] := (List.take_append_getElem hjn).symm
              have hall : S.all sgn = (S.take j ++ S[j] :: S.drop (j + 1)).all sgn := by rw [← List.drop_eq_getElem_cons hjn, List.take_append_drop]
              obtain ⟨x, hxj⟩ : ∃ x, S[j] = x := ⟨_, rfl⟩
              rw [hxj] at hts hall
              have hgx : ∀ h, S[j]'h = x := fun _ => hxj
              have hgy : ∀ h, (⟨S.toArray⟩ : ByteArray)[j]'h = x := fun h => (ba_get _ _ h).trans hxj
              clear hxj hgj
              have HX2 := Lib.hid (And.intro hts hall)
              clear hts hall
              have HOK : sgn x = true → Hid ((S.take (j + 1)).all sgn = true) := fun h => Lib.hid (by rw [HX2.out.1, List.all_append, HT.out]; simp [h])
              have HNO : sgn x = false → Hid (S.all sgn = false) := fun h => Lib.hid (by rw [HX2.out.2, List.all_append, List.all_cons, h]; simp)
              have hsg : sgn x = decide ((97 ≤ x.toNat ∧ x.toNat ≤ 122) ∨ (48 ≤ x.toNat ∧ x.toNat ≤ 57) ∨ x.toNat = 45) := by unfold sgn ltr; simp [Bool.or_assoc]
              have H3 := Lib.hid (And.intro HOK (And.intro HNO hsg))
              clear HOK HNO hsg HX2 HT
              go_wp2_with fail
              all_goals (try simp only [bne_eq_false_iff_eq, bne_iff_ne, ne_eq] at *)
              all_goals first
                | exact ⟨⟨j + 1, by omega, by go_num, H3.out.1 (by rw [H3.out.2.2]; simp; omega), HX.out⟩, by simp [intOf]; omega⟩
                | (go_ret; exact ⟨by rw [(H3.out.2.1 (by rw [H3.out.2.2]; simp; omega)).out]; rfl, HX.out⟩)
            · obtain rfl : j = S.length := by omega
              have e : S.all sgn = true := by have := HT.out; rwa [List.take_length] at this
              have HE := Lib.hid e
              clear e
              go_wp2_with fail
              go_ret
              exact ⟨by rw [HE.out]; rfl, HX.out⟩
        · have hb1 : decide ((c.toNat : Int) < 97) = false := by simp; omega
          have hb2 : decide (122 < (c.toNat : Int)) = true := by simp; omega
          have HN : Hid (nameR (c :: s) = false) := Lib.hid (by rw [HL.out]; simp [ltr, hc2])
          clear HL hc1 hc2
          go_enter Try.func67, Try.ntmps67
          go_wp2_with fail
          go_ret
          exact ⟨by rw [HN.out]; rfl, Ext.refl _⟩
      · have hb1 : decide ((c.toNat : Int) < 97) = true := by simp; omega
        have HN : Hid (nameR (c :: s) = false) := Lib.hid (by rw [HL.out]; simp [ltr, hc1])
        clear HL hc1
        go_enter Try.func67, Try.ntmps67
        go_wp2_with fail
        go_ret
        exact ⟨by rw [HN.out]; rfl, Ext.refl _⟩
    · have HN : Hid (nameR (c :: s) = false) := Lib.hid (by rw [HL.out]; simp [h16])
      clear HL
      go_enter Try.func67, Try.ntmps67
      go_wp2_with fail
      go_ret
      exact ⟨by rw [HN.out]; rfl, Ext.refl _⟩
def sameL {α : Type} [DecidableEq α] (a b : List α) : Bool := decide (a = b)
end Go.Proofs.Ytdkemfimhdjdiaa

namespace Go.Proofs.Ytdkemfimhdjdiaa
set_option linter.unusedSimpArgs false
set_option linter.unusedVariables false
open Go Go.RowKit
def strLt (x y : List UInt8) : Bool := Op.bytesLess x y
theorem strLt_eq (x y : List UInt8) : strLt x y = decide (x < y) := bytesLess_eq x y
theorem strOrd (P : List UInt8 → Bool) : SOrd strLt P where
  irr x := by rw [strLt_eq]; simp [List.lt_irrefl]
  tr x y z h1 h2 := by simp only [strLt_eq, decide_eq_true_eq] at *; exact List.lt_trans h1 h2
  tri x y _ _ := by
    simp only [strLt_eq, decide_eq_true_eq]
    rcases Decidable.em (x < y) with h | h
    · exact .inl h
    · rcases Decidable.em (y < x) with h' | h'
      · exact .inr (.inr h')
      · exact .inr (.inl (List.le_antisymm (List.not_lt.1 h') (List.not_lt.1 h)))
theorem strLt_asymm {x y : List UInt8} (h : strLt x y = true) : Op.bytesLess y x = false ∧ (y == x) = false := by
  constructor
  · cases hq : Op.bytesLess y x with
    | false => rfl
    | true => have := (strOrd (fun _ => true)).tr _ _ _ h hq; rw [(strOrd (fun _ => true)).irr] at this; cases this
  · cases hq : (y == x) with
    | false => rfl
    | true => have e : y = x := by simpa using hq
              rw [e, (strOrd (fun _ => true)).irr] at h; cases h
theorem strLt_not {x y : List UInt8} (h : strLt x y = false) : Op.bytesLess y x = true ∨ y = x := by
  rcases (strOrd (fun _ => true)).tri x y rfl rfl with q | q | q
  · rw [q] at h; cases h
  · exact .inr q.symm
  · exact .inl q
theorem strInfo : ∃ i, Try.prog.info? 9 = some i ∧ i.zero = some (S []) ∧ i.size = 1 ∧ i.bytes = 16 := info_parts (by kernel_rfl)
theorem str_get (l : List (List UInt8)) (j : Nat) : (cellsL l)[j]? = (l[j]?).map S := by
  induction l generalizing j with
  | nil => simp [cellsL]
  | cons x l ih => cases j with
    | zero => simp [cellsL, Flt.cells]
    | succ j => have := ih j; rw [cellsL_cons]; simpa [Flt.cells] using this
theorem str_snoc (l : List (List UInt8)) (x : List UInt8) : (cellsL (l ++ [x]))[l.length]? = some (S x) := by rw [str_get]; simp
theorem nameR_nil : nameR [] = false := rfl
end Go.Proofs.Ytdkemfimhdjdiaa
