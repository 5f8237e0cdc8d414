/- Sets as rising lists: no program in sight. -/
import Derived.Test.YtekngjkjgmplpaaGreatRow
import Derived.Lib.SlicesCompact
import Derived.Sort.Walk0
import Derived.Test.YtekngjkjgmplpaaGreatShelf
import Derived.Sort.OwnSorted
import Derived.Deep.LoopGhost
import Derived.Lib.AppendZeros
import Derived.Laws.Rows
import Derived.Laws.ResultCell
import Derived.Lib.IndexLaws
namespace Go.Proofs.YtekngjkjgmplpaaGreat
set_option linter.unusedSimpArgs false
set_option linter.unusedVariables false
open Go
/-- An order on what P lets. -/
structure SOrd {α : Type} (lt : α → α → Bool) (P : α → Bool) : Prop where
  irr : ∀ x, lt x x = false
  tr : ∀ x y z, lt x y = true → lt y z = true → lt x z = true
  tri : ∀ x y, P x = true → P y = true → lt x y = true ∨ x = y ∨ lt y x = true
/-- Strictly rising, and just those of l that P lets. -/
def SSet {α : Type} (lt : α → α → Bool) (P : α → Bool) (l out : List α) : Prop := out.Pairwise (fun x y => lt x y = true) ∧ ∀ x, x ∈ out ↔ x ∈ l ∧ P x = true
section
variable {α : Type} {lt : α → α → Bool} {P : α → Bool}
theorem pairwise_ext (irr : ∀ x, lt x x = false) (tr : ∀ x y z, lt x y = true → lt y z = true → lt x z = true) : ∀ {a b : List α}, a.Pairwise (fun x y => lt x y = true) → b.Pairwise (fun x y => lt x y = true) → (∀ x, x ∈ a ↔ x ∈ b) → a = b
  | [], [], _, _, _ => rfl
  | [], y :: b, _, _, h => absurd ((h y).2 (by simp)) (by simp)
  | x :: a, [], _, _, h => absurd ((h x).1 (by simp)) (by simp)
  | x :: a, y :: b, ha, hb, h => by
    obtain ⟨ha1, ha2⟩ := List.pairwise_cons.1 ha
    obtain ⟨hb1, hb2⟩ := List.pairwise_cons.1 hb
    have hxy : x = y := by
      rcases List.mem_cons.1 ((h x).1 (by simp)) with e | e
      · exact e
      · rcases List.mem_cons.1 ((h y).2 (by simp)) with e' | e'
        · exact e'.symm
        · have := tr _ _ _ (hb1 x e) (ha1 y e'); rw [irr] at this; cases this
    subst hxy
    have : a = b := pairwise_ext irr tr ha2 hb2 fun z => by
      have hz := h z
      simp only [List.mem_cons] at hz
      constructor
      · intro q
        rcases hz.1 (.inr q) with e | e
        · subst e; have := ha1 z q; rw [irr] at this; cases this
        · exact e
      · intro q
        rcases hz.2 (.inr q) with e | e
        · subst e; have := hb1 z q; rw [irr] at this; cases this
        · exact e
    rw [this]
theorem SSet.uniq (o : SOrd lt P) {l a b : List α} (ha : SSet lt P l a) (hb : SSet lt P l b) : a = b := pairwise_ext o.irr o.tr ha.1 hb.1 fun x => (ha.2 x).trans (hb.2 x).symm
/-- The least candidate, the first of the like. -/
def pickMin (lt : α → α → Bool) (cand : α → Bool) (l : List α) : Option α := l.foldl (fun b x => if cand x && b.all (fun y => lt x y) then some x else b) none
theorem pickMin_snoc (cand : α → Bool) (l : List α) (x : α) : pickMin lt cand (l ++ [x]) = if cand x && (pickMin lt cand l).all (fun y => lt x y) then some x else pickMin lt cand l := by
  unfold pickMin; rw [List.foldl_append]; rfl
theorem pickMin_take (cand : α → Bool) (l : List α) (j : Nat) (h : j < l.length) : pickMin lt cand (l.take (j + 1)) = if cand l[j] && (pickMin lt cand (l.take j)).all (fun y => lt l[j] y) then some l[j] else pickMin lt cand (l.take j) := by
  rw [← List.take_append_getElem h, pickMin_snoc]
theorem list_snoc {motive : List α → Prop} (nil : motive []) (snoc : ∀ l x, motive l → motive (l ++ [x])) : ∀ l, motive l := by
  intro l
  have : ∀ r : List α, motive r.reverse := by
    intro r
    induction r with
    | nil => exact nil
    | cons x r ih => rw [List.reverse_cons]; exact snoc _ _ ih
  have := this l.reverse
  rwa [List.reverse_reverse] at this
theorem pickMin_spec (tr : ∀ x y z, lt x y = true → lt y z = true → lt x z = true) (irr : ∀ x, lt x x = false) (cand : α → Bool) (l : List α) :
    (pickMin lt cand l = none → ∀ x ∈ l, cand x = false) ∧ (∀ y, pickMin lt cand l = some y → y ∈ l ∧ cand y = true ∧ ∀ x ∈ l, cand x = true → lt x y = false) := by
  induction l using list_snoc with
  | nil => exact ⟨fun _ x hx => by simp at hx, fun y hy => by simp [pickMin] at hy⟩
  | snoc l x ih =>
    rw [pickMin_snoc]
    by_cases hc : (cand x && (pickMin lt cand l).all (fun y => lt x y)) = true
    · rw [if_pos hc]
      simp only [Bool.and_eq_true] at hc
      refine ⟨fun h => (by cases h), fun y hy => ?_⟩
      cases hy
      refine ⟨by simp, hc.1, fun z hz hcz => ?_⟩
      rcases List.mem_append.1 hz with q | q
      · cases hp : pickMin lt cand l with
        | none => have := ih.1 hp z q; rw [this] at hcz; cases hcz
        | some y0 =>
          have h1 := (ih.2 y0 hp).2.2 z q hcz
          have h2 : lt x y0 = true := by have := hc.2; rw [hp] at this; simpa using this
          cases h3 : lt z x with
          | false => rfl
          | true => have := tr _ _ _ h3 h2; rw [this] at h1; cases h1
      · rw [List.mem_singleton.1 q]; exact irr x
    · rw [if_neg hc]
      refine ⟨fun h z hz => ?_, fun y hy => ?_⟩
      · rcases List.mem_append.1 hz with q | q
        · exact ih.1 h z q
        · rw [List.mem_singleton.1 q]
          cases hcx : cand x with
          | false => rfl
          | true => rw [h, hcx] at hc; simp at hc
      · obtain ⟨h1, h2, h3⟩ := ih.2 y hy
        refine ⟨List.mem_append.2 (.inl h1), h2, fun z hz hcz => ?_⟩
        rcases List.mem_append.1 hz with q | q
        · exact h3 z q hcz
        · rw [List.mem_singleton.1 q] at hcz ⊢
          rw [hcz, hy] at hc
          simpa using hc
/-- What may come behind out. -/
def cnd (lt : α → α → Bool) (P : α → Bool) (out : List α) (x : α) : Bool := P x && out.getLast?.all (fun z => lt z x)
/-- A set that grows by its least candidate. -/
def GInv (lt : α → α → Bool) (P : α → Bool) (l out : List α) : Prop := out.Pairwise (fun x y => lt x y = true) ∧ (∀ x ∈ out, x ∈ l ∧ P x = true) ∧ ∀ x ∈ l, P x = true → cnd lt P out x = false → x ∈ out
theorem GInv.nil (l : List α) : GInv lt P l [] := ⟨List.Pairwise.nil, fun x hx => by simp at hx, fun x _ hp hc => by simp [cnd, hp] at hc⟩
theorem GInv.step (o : SOrd lt P) {l out : List α} {y : α} (h : GInv lt P l out) (hy : pickMin lt (cnd lt P out) l = some y) : GInv lt P l (out ++ [y]) := by
  obtain ⟨h1, h2, h3⟩ := h
  obtain ⟨q1, q2, q3⟩ := (pickMin_spec o.tr o.irr (cnd lt P out) l).2 y hy
  have q2' := q2
  simp only [cnd, Bool.and_eq_true] at q2'
  refine ⟨?_, ?_, ?_⟩
  · rw [List.pairwise_append]
    refine ⟨h1, List.pairwise_singleton _ _, fun a ha b hb => ?_⟩
    rw [List.mem_singleton.1 hb]
    obtain ⟨z, hz⟩ : ∃ z, out.getLast? = some z := by
      cases hl : out.getLast? with
      | none => rw [List.getLast?_eq_none_iff] at hl; subst hl; simp at ha
      | some z => exact ⟨z, rfl⟩
    have hzy : lt z y = true := by have := q2'.2; rw [hz] at this; simpa using this
    obtain ⟨pre, rfl⟩ := List.getLast?_eq_some_iff.1 hz
    rcases List.mem_append.1 ha with q | q
    · exact o.tr _ _ _ ((List.pairwise_append.1 h1).2.2 a q z (by simp)) hzy
    · rw [List.mem_singleton.1 q]; exact hzy
  · intro x hx
    rcases List.mem_append.1 hx with q | q
    · exact h2 x q
    · rw [List.mem_singleton.1 q]; exact ⟨q1, q2'.1⟩
  · intro x hx hp hc
    have hyx : lt y x = false := by simpa [cnd, hp] using hc
    cases hcx : cnd lt P out x with
    | false => exact List.mem_append.2 (.inl (h3 x hx hp hcx))
    | true =>
      have hxy := q3 x hx hcx
      rcases o.tri x y hp q2'.1 with q | q | q
      · rw [q] at hxy; cases hxy
      · rw [q]; simp
      · rw [q] at hyx; cases hyx
theorem GInv.done (o : SOrd lt P) {l out : List α} (h : GInv lt P l out) (hn : pickMin lt (cnd lt P out) l = none) : SSet lt P l out := by
  obtain ⟨h1, h2, h3⟩ := h
  exact ⟨h1, fun x => ⟨h2 x, fun ⟨q1, q2⟩ => h3 x q1 q2 ((pickMin_spec o.tr o.irr _ _).1 hn x q1)⟩⟩
theorem filter_len_le (p q : α → Bool) (l : List α) (h : ∀ x ∈ l, p x = true → q x = true) : (l.filter p).length ≤ (l.filter q).length := by
  induction l with
  | nil => simp
  | cons x l ih =>
    have i := ih fun y hy => h y (List.mem_cons_of_mem _ hy)
    have hx := h x (by simp)
    simp only [List.filter_cons]
    split
    · rename_i hp; rw [if_pos (hx hp)]; simp; omega
    · split <;> simp <;> omega
theorem filter_len_lt (p q : α → Bool) : ∀ (l : List α), (∀ x ∈ l, p x = true → q x = true) → ∀ y ∈ l, q y = true → p y = false → (l.filter p).length < (l.filter q).length
  | [], _, y, hy, _, _ => by simp at hy
  | x :: l, h, y, hy, h1, h2 => by
    have h' : ∀ z ∈ l, p z = true → q z = true := fun z hz => h z (List.mem_cons_of_mem _ hz)
    have hle := filter_len_le p q l h'
    simp only [List.filter_cons]
    rcases List.mem_cons.1 hy with rfl | hm
    · rw [if_pos h1, if_neg (by rw [h2]; simp)]; simp; omega
    · have ih := filter_len_lt p q l h' y hm h1 h2
      have hx := h x (by simp)
      split
      · rename_i hp; rw [if_pos (hx hp)]; simp; omega
      · split <;> simp <;> omega
/-- How many may come yet. -/
def left (lt : α → α → Bool) (P : α → Bool) (l out : List α) : Nat := (l.filter (cnd lt P out)).length
theorem left_step (o : SOrd lt P) {l out : List α} {y : α} (hy : pickMin lt (cnd lt P out) l = some y) : left lt P l (out ++ [y]) < left lt P l out := by
  obtain ⟨q1, q2, q3⟩ := (pickMin_spec o.tr o.irr (cnd lt P out) l).2 y hy
  refine filter_len_lt _ _ l (fun x hx hc => ?_) y q1 q2 (by simp [cnd, o.irr])
  simp only [cnd, Bool.and_eq_true, List.getLast?_append, List.getLast?_singleton, Option.some_or, Option.all_some] at hc q2 ⊢
  refine ⟨hc.1, ?_⟩
  cases hl : out.getLast? with
  | none => rfl
  | some z => rw [hl] at q2; simp only [Option.all_some] at q2 ⊢; exact o.tr _ _ _ q2.2 hc.2
theorem SSet.len {l out : List α} (irr : ∀ x, lt x x = false) (h : SSet lt P l out) : out.length ≤ l.length := by
  have hnd : out.Nodup := h.1.imp fun {a b} hab e => by subst e; rw [irr] at hab; cases hab
  exact (List.Nodup.length_le_of_subset hnd fun x hx => ((h.2 x).1 hx).1)
theorem GInv.len {l out : List α} (irr : ∀ x, lt x x = false) (h : GInv lt P l out) : out.length ≤ l.length := by
  have hnd : out.Nodup := h.1.imp fun {a b} hab e => by subst e; rw [irr] at hab; cases hab
  exact (List.Nodup.length_le_of_subset hnd fun x hx => (h.2.1 x hx).1)
end
end Go.Proofs.YtekngjkjgmplpaaGreat

namespace Go.Proofs.YtekngjkjgmplpaaGreat
set_option linter.unusedSimpArgs false
set_option linter.unusedVariables false
open Go
section
variable {α : Type} [Inhabited α] [DecidableEq α] {lt : α → α → Bool} {P : α → Bool}
theorem compact_inv (tr : ∀ x y z, lt x y = true → lt y z = true → lt x z = true) (irr : ∀ x, lt x x = false) (xs : List α) (tri : ∀ x ∈ xs, ∀ y ∈ xs, lt x y = true ∨ x = y ∨ lt y x = true)
    (hs : xs.Pairwise (fun x y => lt y x = false)) : ∀ m, m ≤ xs.length → (Lib.compactUpTo xs.toArray m).Pairwise (fun x y => lt x y = true) ∧ (∀ x, x ∈ Lib.compactUpTo xs.toArray m ↔ x ∈ xs.take m) ∧ (0 < m → (Lib.compactUpTo xs.toArray m).getLast? = xs[m - 1]?) := by
  intro m
  induction m with
  | zero => intro _; exact ⟨by simp [Lib.compactUpTo], by simp [Lib.compactUpTo], by omega⟩
  | succ m ih =>
    intro hm
    obtain ⟨h1, h2, h3⟩ := ih (by omega)
    have hx : xs.toArray[m]! = xs[m] := by simp [show m < xs.length by omega]
    have ht : xs.take (m + 1) = xs.take m ++ [xs[m]] := (List.take_append_getElem (by omega)).symm
    rw [Lib.compactUpTo_succ, ht]
    by_cases hk : Lib.keeps xs.toArray m = true
    · rw [if_pos hk, hx]
      refine ⟨?_, fun x => ?_, fun _ => ?_⟩
      · rw [List.pairwise_append]
        refine ⟨h1, List.pairwise_singleton _ _, fun a ha b hb => ?_⟩
        rw [List.mem_singleton.1 hb]
        have hm0 : 0 < m := by
          rcases Nat.eq_zero_or_pos m with q | q
          · subst q; simp [Lib.compactUpTo] at ha
          · exact q
        have hl := h3 hm0
        rw [List.getElem?_eq_getElem (by omega)] at hl
        have hne : xs[m] ≠ xs[m - 1] := by
          simp only [Lib.keeps, decide_eq_true_eq] at hk
          rcases hk with q | q
          · omega
          · have e1 : xs.toArray[m - 1]! = xs[m - 1] := by simp [show m - 1 < xs.length by omega]
            rw [hx, e1] at q; exact q
        have hlt : lt xs[m - 1] xs[m] = true := by
          have hns := List.pairwise_iff_getElem.1 hs (m - 1) m (by omega) (by omega) (by omega)
          rcases tri xs[m - 1] (List.getElem_mem _) xs[m] (List.getElem_mem _) with q | q | q
          · exact q
          · exact absurd q.symm hne
          · rw [q] at hns; cases hns
        obtain ⟨pre, hpre⟩ := List.getLast?_eq_some_iff.1 hl
        rw [hpre] at ha h1
        rcases List.mem_append.1 ha with q | q
        · exact tr _ _ _ ((List.pairwise_append.1 h1).2.2 a q _ (by simp)) hlt
        · rw [List.mem_singleton.1 q]; exact hlt
      · rw [List.mem_append, List.mem_append, h2]
      · simp [show m < xs.length by omega]
    · have hk' : Lib.keeps xs.toArray m = false := by simpa using hk
      rw [if_neg hk, List.append_nil]
      simp only [Lib.keeps, decide_eq_false_iff_not, not_or, Decidable.not_not] at hk'
      obtain ⟨hm0, he⟩ := hk'
      have e1 : xs.toArray[m - 1]! = xs[m - 1] := by simp [show m - 1 < xs.length by omega]
      rw [hx, e1] at he
      refine ⟨h1, fun x => ?_, fun _ => ?_⟩
      · rw [h2, List.mem_append]
        refine ⟨.inl, fun q => ?_⟩
        rcases q with q | q
        · exact q
        · rw [List.mem_singleton.1 q, he]
          rw [List.mem_take_iff_getElem]
          exact ⟨m - 1, by omega, rfl⟩
      · rw [h3 (by omega), Nat.add_sub_cancel, List.getElem?_eq_getElem (by omega), List.getElem?_eq_getElem (by omega), he]
theorem compact_set (o : SOrd lt P) (xs l : List α) (hP : ∀ x, x ∈ xs ↔ x ∈ l ∧ P x = true) (hs : xs.Pairwise (fun x y => lt y x = false)) : SSet lt P l (Lib.compact xs) := by
  obtain ⟨h1, h2, _⟩ := compact_inv o.tr o.irr xs (fun x hx y hy => o.tri x y ((hP x).1 hx).2 ((hP y).1 hy).2) hs xs.length (Nat.le_refl _)
  refine ⟨h1, fun x => ?_⟩
  rw [show Lib.compact xs = Lib.compactUpTo xs.toArray xs.length from rfl, h2, List.take_length, hP]
end
end Go.Proofs.YtekngjkjgmplpaaGreat

namespace Go.Proofs.YtekngjkjgmplpaaGreat
set_option linter.unusedSimpArgs false
set_option linter.unusedVariables false
open Go Go.RowKit
/-- A letter; a sign of a name. -/
def ltr (c : UInt8) : Bool := decide (97 ≤ c.toNat) && decide (c.toNat ≤ 122)
def sgn (c : UInt8) : Bool := ltr c || (decide (48 ≤ c.toNat) && decide (c.toNat ≤ 57)) || decide (c.toNat = 45)
/-- A right name. -/
def nameR : List UInt8 → Bool
  | [] => false
  | c :: s => decide (s.length + 1 ≤ 16) && ltr c && (c :: s).all sgn
end Go.Proofs.YtekngjkjgmplpaaGreat

namespace Go.Proofs.YtekngjkjgmplpaaGreat
set_option linter.unusedSimpArgs false
set_option linter.unusedVariables false
open Go Go.RowKit
theorem ba_get (l : List UInt8) (j : Nat) (h : j < (⟨l.toArray⟩ : ByteArray).size) : (⟨l.toArray⟩ : ByteArray)[j] = l[j]'(by simpa [ByteArray.size] using h) := by
  simp [ByteArray.getElem_eq_getElem_data]
set_option maxRecDepth 100000 in
set_option maxHeartbeats 1000000 in
theorem refRight_any (s : List UInt8) (W : World) (hs : s.length ≤ 1000000000) : Calls Tryz.prog 29 #[S s] W fun e w' => e = .returned (.bool (nameR s)) ∧ Ext W w' := by
  unfold S
  cases s with
  | nil =>
    go_enter Tryz.func29, Tryz.ntmps29
    go_wp2_with fail
    go_ret
    exact ⟨rfl, Ext.refl _⟩
  | cons c s =>
    have hsz : (⟨(c :: s).toArray⟩ : ByteArray).size = s.length + 1 := by simp [ByteArray.size]
    have hg0 : ∀ h, (⟨(c :: s).toArray⟩ : ByteArray)[0]'h = c := fun h => ba_get _ _ h
    have hlen : (c :: s).length = s.length + 1 := rfl
    have HL := Lib.hid (show nameR (c :: s) = (decide (s.length + 1 ≤ 16) && ltr c && (c :: s).all sgn) from rfl)
    by_cases h16 : s.length + 1 ≤ 16
    · by_cases hc1 : 97 ≤ c.toNat
      · by_cases hc2 : c.toNat ≤ 122
        · have hb1 : decide ((c.toNat : Int) < 97) = false := by simp; omega
          have hb2 : decide (122 < (c.toNat : Int)) = false := by simp; omega
          have HN : Hid (nameR (c :: s) = (c :: s).all sgn) := Lib.hid (by rw [HL.out]; simp [h16, ltr, hc1, hc2])
          rw [HN.out]
          generalize hA : (c :: s).all sgn = A at *
          have HA := Lib.hid hA
          clear HN HL hc1 hc2 hA
          go_enter Tryz.func29, Tryz.ntmps29
          go_wp2_with fail
          clear hb1 hb2 hg0
          generalize hS : c :: s = S at *
          clear hS
          have hA := HA.out
          subst hA
          clear HA
          go_loopw [3] (fun i wr => ∃ j : Nat, j ≤ S.length ∧ i = .int .i64 (j : Int) ∧ Hid ((S.take j).all sgn = true) ∧ Ext W wr) (fun i _ => S.length - (intOf i).toNat)
          case atStart => exact ⟨0, by omega, rfl, Lib.hid (by simp), Ext.refl _⟩
          case round =>
            obtain ⟨j, hj, rfl, HT, hx⟩ := hrel
            have HX := Lib.hid hx
            clear hx
            by_cases hjn : j < S.length
            · have hgj : ∀ h, (⟨S.toArray⟩ : ByteArray)[j]'h = S[j] := fun h => ba_get _ _ h
              have hts : S.take (j + 1) = S.take j ++ [S[j]] := (List.take_append_getElem hjn).symm
              have hall : S.all sgn = (S.take j ++ S[j] :: S.drop (j + 1)).all sgn := by rw [← List.drop_eq_getElem_cons hjn, List.take_append_drop]
              obtain ⟨x, hxj⟩ : ∃ x, S[j] = x := ⟨_, rfl⟩
              rw [hxj] at hts hall
              have hgx : ∀ h, S[j]'h = x := fun _ => hxj
              have hgy : ∀ h, (⟨S.toArray⟩ : ByteArray)[j]'h = x := fun h => (ba_get _ _ h).trans hxj
              clear hxj hgj
              have HX2 := Lib.hid (And.intro hts hall)
              clear hts hall
              have HOK : sgn x = true → Hid ((S.take (j + 1)).all sgn = true) := fun h => Lib.hid (by rw [HX2.out.1, List.all_append, HT.out]; simp [h])
              have HNO : sgn x = false → Hid (S.all sgn = false) := fun h => Lib.hid (by rw [HX2.out.2, List.all_append, List.all_cons, h]; simp)
              have hsg : sgn x = decide ((97 ≤ x.toNat ∧ x.toNat ≤ 122) ∨ (48 ≤ x.toNat ∧ x.toNat ≤ 57) ∨ x.toNat = 45) := by unfold sgn ltr; simp [Bool.or_assoc]
              have H3 := Lib.hid (And.intro HOK (And.intro HNO hsg))
              clear HOK HNO hsg HX2 HT
              go_wp2_with fail
              all_goals (try simp only [bne_eq_false_iff_eq, bne_iff_ne, ne_eq] at *)
              all_goals first
                | exact ⟨⟨j + 1, by omega, by go_num, H3.out.1 (by rw [H3.out.2.2]; simp; omega), HX.out⟩, by simp [intOf]; omega⟩
                | (go_ret; exact ⟨by rw [(H3.out.2.1 (by rw [H3.out.2.2]; simp; omega)).out]; rfl, HX.out⟩)
            · obtain rfl : j = S.length := by omega
              have e : S.all sgn = true := by have := HT.out; rwa [List.take_length] at this
              have HE := Lib.hid e
              clear e
              go_wp2_with fail
              go_ret
              exact ⟨by rw [HE.out]; rfl, HX.out⟩
        · have hb1 : decide ((c.toNat : Int) < 97) = false := by simp; omega
          have hb2 : decide (122 < (c.toNat : Int)) = true := by simp; omega
          have HN : Hid (nameR (c :: s) = false) := Lib.hid (by rw [HL.out]; simp [ltr, hc2])
          clear HL hc1 hc2
          go_enter Tryz.func29, Tryz.ntmps29
          go_wp2_with fail
          go_ret
          exact ⟨by rw [HN.out]; rfl, Ext.refl _⟩
      · have hb1 : decide ((c.toNat : Int) < 97) = true := by simp; omega
        have HN : Hid (nameR (c :: s) = false) := Lib.hid (by rw [HL.out]; simp [ltr, hc1])
        clear HL hc1
        go_enter Tryz.func29, Tryz.ntmps29
        go_wp2_with fail
        go_ret
        exact ⟨by rw [HN.out]; rfl, Ext.refl _⟩
    · have HN : Hid (nameR (c :: s) = false) := Lib.hid (by rw [HL.out]; simp [h16])
      clear HL
      go_enter Tryz.func29, Tryz.ntmps29
      go_wp2_with fail
      go_ret
      exact ⟨by rw [HN.out]; rfl, Ext.refl _⟩
end Go.Proofs.YtekngjkjgmplpaaGreat

namespace Go.Proofs.YtekngjkjgmplpaaGreat
set_option linter.unusedSimpArgs false
set_option linter.unusedVariables false
open Go Go.RowKit
def strLt (x y : List UInt8) : Bool := Op.bytesLess x y
theorem strLt_eq (x y : List UInt8) : strLt x y = decide (x < y) := bytesLess_eq x y
theorem strOrd (P : List UInt8 → Bool) : SOrd strLt P where
  irr x := by rw [strLt_eq]; simp [List.lt_irrefl]
  tr x y z h1 h2 := by simp only [strLt_eq, decide_eq_true_eq] at *; exact List.lt_trans h1 h2
  tri x y _ _ := by
    simp only [strLt_eq, decide_eq_true_eq]
    rcases Decidable.em (x < y) with h | h
    · exact .inl h
    · rcases Decidable.em (y < x) with h' | h'
      · exact .inr (.inr h')
      · exact .inr (.inl (List.le_antisymm (List.not_lt.1 h') (List.not_lt.1 h)))
theorem strLt_asymm {x y : List UInt8} (h : strLt x y = true) : Op.bytesLess y x = false ∧ (y == x) = false := by
  constructor
  · cases hq : Op.bytesLess y x with
    | false => rfl
    | true => have := (strOrd (fun _ => true)).tr _ _ _ h hq; rw [(strOrd (fun _ => true)).irr] at this; cases this
  · cases hq : (y == x) with
    | false => rfl
    | true => have e : y = x := by simpa using hq
              rw [e, (strOrd (fun _ => true)).irr] at h; cases h
end Go.Proofs.YtekngjkjgmplpaaGreat

namespace Go.Proofs.YtekngjkjgmplpaaGreat
set_option linter.unusedSimpArgs false
set_option linter.unusedVariables false
open Go Go.RowKit Go.Sort Go.Lib
section
variable {fr al : Nat → Prop} {w0 w : World} {L : List It}
end
end Go.Proofs.YtekngjkjgmplpaaGreat

namespace Go.Proofs.YtekngjkjgmplpaaGreat
set_option linter.unusedSimpArgs false
set_option linter.unusedVariables false
open Go Go.RowKit
def lettersB : List UInt8 := [97, 98, 99, 100, 101, 102, 103, 104, 105, 106, 107, 108, 109, 110, 111, 112, 113, 114, 115, 116, 117, 118, 119, 120, 121, 122]
def signsB : List UInt8 := lettersB ++ [48, 49, 50, 51, 52, 53, 54, 55, 56, 57, 45]
theorem ix_letters : ∀ n : Nat, n < 256 → (decide (0 ≤ Lib.indexByte lettersB n.toUInt8)) = ltr n.toUInt8 := by decide +kernel
theorem ix_signs : ∀ n : Nat, n < 256 → (decide (Lib.indexByte signsB n.toUInt8 < 0)) = !sgn n.toUInt8 := by decide +kernel
theorem ix_letter (c : UInt8) : (decide (0 ≤ Lib.indexByte lettersB c)) = ltr c := by
  have := ix_letters c.toNat c.toNat_lt
  simpa using this
theorem ix_sign (c : UInt8) : (decide (Lib.indexByte signsB c < 0)) = !sgn c := by
  have := ix_signs c.toNat c.toNat_lt
  simpa using this
theorem signIx (c : UInt8) (w : World) : Calls Tryz.prog 97 #[.string ⟨signsB.toArray⟩, .int .u8 (c.toNat : Int)] w fun e w' => ∃ v : Int, e = .returned (.int .i64 v) ∧ decide (v < 0) = !sgn c ∧ w = w' :=
  (Tryz.strings_IndexByte ⟨signsB.toArray⟩ _ w).mono fun e w' ⟨h1, h2⟩ => ⟨_, h1, by simpa using ix_sign c, h2.symm⟩
theorem letterIx (c : UInt8) (w : World) : Calls Tryz.prog 97 #[.string ⟨lettersB.toArray⟩, .int .u8 (c.toNat : Int)] w fun e w' => ∃ v : Int, e = .returned (.int .i64 v) ∧ decide (0 ≤ v) = ltr c ∧ w = w' :=
  (Tryz.strings_IndexByte ⟨lettersB.toArray⟩ _ w).mono fun e w' ⟨h1, h2⟩ => ⟨_, h1, by simpa using ix_letter c, h2.symm⟩
set_option maxRecDepth 100000 in
set_option maxHeartbeats 1000000 in
theorem only_any (s : List UInt8) (W : World) (hs : s.length ≤ 100000) : Calls Tryz.prog 98 #[S s] W fun e w' => e = .returned (.bool (s.all sgn)) ∧ Ext W w' := by
  have st := Own.startOld W
  unfold S
  (try simp only [nsl, Value.cells, unB] at st)
  (try clear hc); have hc := st.facts; (try simp only [nfl, nft, Nat.reduceAdd] at hc)
  go_enter Tryz.func98, Tryz.ntmps98
  go_wp2_with ((((with_reducible refine wl_convert ?_ (fun K hK => ?_)); rfl; refine owp_sb (o := ⟨some 6, _, _, _, _, _⟩) rfl st rfl Tryz.underlying9 Tryz.underlying26 Tryz.underlying5 ?_ ?_; (simp only [maxLen]; omega); (clear st; intro A6 c6 w hc6 st))); (try simp only [nsl, Value.cells, unB] at st); (try clear hc); have hc := st.facts; (try simp only [nfl, nft, Nat.reduceAdd] at hc))
  go_loopw [8] (fun i wr => ∃ j : Nat, j ≤ s.length ∧ i = .int .i64 (j : Int) ∧ Hid ((s.take j).all sgn = true) ∧ Own (fun _ => False) (fun _ => True) W [oldI W, byI A6 s.length s] wr) (fun i _ => s.length - (intOf i).toNat)
  case atStart => exact ⟨0, by omega, rfl, Lib.hid (by simp), st⟩
  case round =>
    obtain ⟨j, hj, rfl, HT, st'⟩ := hrel
    clear st hc
    have st := st'
    clear st'
    by_cases hjn : j < s.length
    · obtain ⟨b, off, ha, hq, hjl, hcell⟩ := (st.by (i := 1) get1).at hjn
      clear hq
      subst ha
      have hts : s.take (j + 1) = s.take j ++ [s[j]] := (List.take_append_getElem hjl).symm
      have hall : s.all sgn = (s.take j ++ s[j] :: s.drop (j + 1)).all sgn := by rw [← List.drop_eq_getElem_cons hjl, List.take_append_drop]
      generalize s[j] = x at *
      have HX := Lib.hid (And.intro hts hall)
      have hix := ix_sign x
      clear hts hall
      go_wp2_with fail
      refine (signIx x _).mono ?_
      rintro en w' ⟨v, rfl, hv, rfl⟩
      clear hix
      by_cases hsx : sgn x = true
      · have hv0 : decide (v < 0) = false := by rw [hv, hsx]; rfl
        have hv1 : ¬ v < 0 := by simpa using hv0
        clear hv
        go_wp2_with fail
        exact ⟨⟨j + 1, by omega, by go_num, Lib.hid (by rw [HX.out.1, List.all_append, HT.out]; simp [hsx]), st⟩, by simp [intOf]; omega⟩
      · have hsx' : sgn x = false := by simpa using hsx
        have hv0 : decide (v < 0) = true := by rw [hv, hsx']; rfl
        have hv1 : v < 0 := by simpa using hv0
        clear hv
        have HF : Hid (s.all sgn = false) := Lib.hid (by rw [HX.out.2, List.all_append, List.all_cons, hsx']; simp)
        go_wp2_with fail
        go_ret
        exact ⟨by rw [HF.out]; rfl, st.ext0⟩
    · obtain rfl : j = s.length := by omega
      have e : s.all sgn = true := by have := HT.out; rwa [List.take_length] at this
      have HE := Lib.hid e
      clear e
      go_wp2_with fail
      go_ret
      exact ⟨by rw [HE.out]; rfl, st.ext0⟩
set_option maxRecDepth 100000 in
set_option maxHeartbeats 1000000 in
theorem right_any (s : List UInt8) (W : World) (hs : s.length ≤ 100000) : Calls Tryz.prog 63 #[S s] W fun e w' => e = .returned (.bool (nameR s)) ∧ Ext W w' := by
  unfold S
  cases s with
  | nil =>
    go_enter Tryz.func63, Tryz.ntmps63
    go_wp2_with fail
    go_ret
    exact ⟨rfl, Ext.refl _⟩
  | cons c s =>
    have hsz : (⟨(c :: s).toArray⟩ : ByteArray).size = s.length + 1 := by simp [ByteArray.size]
    have hg0 : (⟨(c :: s).toArray⟩ : ByteArray)[0]? = some c := rfl
    simp only [List.length_cons] at hs
    by_cases h16 : s.length + 1 ≤ 16
    · skip
      go_enter Tryz.func63, Tryz.ntmps63
      go_wp2_with fail
      refine (letterIx c W).mono ?_
      rintro en w' ⟨v, rfl, hv, rfl⟩
      by_cases hl : ltr c = true
      · have hv0 : decide (0 ≤ v) = true := by rw [hv, hl]
        have hv1 : 0 ≤ v := by simpa using hv0
        clear hv
        go_wp2_with fail
        refine (only_any (c :: s) W (by simp; omega)).mono ?_
        rintro en w ⟨rfl, hx⟩
        have HX := Lib.hid hx
        clear hx
        have HN : Hid (nameR (c :: s) = (c :: s).all sgn) := Lib.hid (by unfold nameR; simp [h16, hl])
        generalize (c :: s).all sgn = q at *
        go_wp2_with fail
        go_ret
        exact ⟨by rw [HN.out]; rfl, HX.out⟩
      · have hl' : ltr c = false := by simpa using hl
        have hv0 : decide (0 ≤ v) = false := by rw [hv, hl']
        have hv1 : ¬ 0 ≤ v := by simpa using hv0
        have HN : Hid (nameR (c :: s) = false) := Lib.hid (by unfold nameR; simp [hl'])
        clear hv
        go_wp2_with fail
        go_ret
        exact ⟨by rw [HN.out]; rfl, Ext.refl _⟩
    · skip
      go_enter Tryz.func63, Tryz.ntmps63
      have HN : Hid (nameR (c :: s) = false) := Lib.hid (by unfold nameR; simp [h16])
      go_wp2_with fail
      go_ret
      exact ⟨by rw [HN.out]; rfl, Ext.refl _⟩
end Go.Proofs.YtekngjkjgmplpaaGreat

namespace Go.Proofs.YtekngjkjgmplpaaGreat
set_option linter.unusedSimpArgs false
set_option linter.unusedVariables false
open Go Go.RowKit
/-- The set of the right names of a list. -/
@[irreducible] def nameSet (l : List (List UInt8)) : List (List UInt8) := Lib.compact ((l.filter nameR).mergeSort fun x y => decide (x ≤ y))
/-- A new slice of strings. -/
def NewStr (W w' : World) (a : Option Addr) (c : Nat) (xs : List (List UInt8)) : Prop := FreshI W w' (rowI 9 1 (.slice a xs.length c) xs.length (cellsL xs))
theorem NewStr.fl {W w' : World} {a : Option Addr} {c : Nat} {xs : List (List UInt8)} (h : NewStr W w' a c xs) : (xs.length ≤ c ∧ c ≤ maxLen) ∧ Fl w' a xs.length xs := FreshI.fl h
end Go.Proofs.YtekngjkjgmplpaaGreat

namespace Go.Proofs.YtekngjkjgmplpaaGreat
set_option linter.unusedSimpArgs false
set_option linter.unusedVariables false
open Go Go.RowKit
/-- A slice of slices. -/
def slsR {α : Type} [Flt α] : World → Nat → Nat → List α → Prop := fun w b o x => ∃ a n c, w.cell? ⟨b, o, none⟩ = some (.slice a n c) ∧ Fl w a n x
instance slsR_stb {α : Type} [Flt α] : Stb (slsR (α := α)) := ⟨fun _ _ _ _ _ hx ⟨a, n, c, h1, h2⟩ => ⟨a, n, c, hx.cell h1, h2.ext hx⟩⟩
end Go.Proofs.YtekngjkjgmplpaaGreat

namespace Go.Proofs.YtekngjkjgmplpaaGreat
set_option linter.unusedSimpArgs false
set_option linter.unusedVariables false
open Go Go.RowKit
theorem wl_clear {P : Program} {Q : Exit → Act → World → Prop} {a : Act} {w : World} {ops : Array Oper} {rest : List Oper} {d : Option Tmp} {x : Operand} {t : TypeId} {ty : TypeId} {pos : String} {af : Array Edge} {gd : Option (Nat × Bool)} (hg : Region.wanted ⟨d, .call { callee := .builtin .clear, args := #[x], argTypes := #[t] }, ty, pos, af, gd⟩ (yielded ops a.tmps) = true)
    (h : ∀ K : Act → World → Prop, (∀ a w, wpList P ops Q rest a w → K a w) → Oper.wp P ⟨d, .call { callee := .builtin .clear, args := #[x], argTypes := #[t] }, ty, pos, af, gd⟩ a w K Q) : wpList P ops Q (⟨d, .call { callee := .builtin .clear, args := #[x], argTypes := #[t] }, ty, pos, af, gd⟩ :: rest) a w := wpl_at hg h
/-- Where the first one is that p lets. -/
def IxIs {α : Type} (p : α → Bool) (xs : List α) (v : Int) : Prop := (v = -1 ∧ ∀ x ∈ xs, p x = false) ∨ ∃ (j : Nat) (y : α), v = (j : Int) ∧ j < xs.length ∧ xs[j]? = some y ∧ p y = true ∧ ∀ x ∈ xs.take j, p x = false
end Go.Proofs.YtekngjkjgmplpaaGreat

namespace Go.Proofs.YtekngjkjgmplpaaGreat
set_option linter.unusedSimpArgs false
set_option linter.unusedVariables false
open Go Go.RowKit
end Go.Proofs.YtekngjkjgmplpaaGreat

namespace Go.Proofs.YtekngjkjgmplpaaGreat
set_option linter.unusedSimpArgs false
set_option linter.unusedVariables false
open Go Go.RowKit
theorem nameR_len {s : List UInt8} (h : nameR s = true) : 1 ≤ s.length ∧ s.length ≤ 16 := by
  cases s with
  | nil => simp [nameR] at h
  | cons c s => simp [nameR] at h; simp; omega
set_option maxRecDepth 100000 in
set_option maxHeartbeats 1000000 in
theorem namePut_yes {fr al : Nat → Prop} {w : World} {p : Nat} {xs : List UInt8} (st : Own fr al w [penI p xs] w) (s : List UInt8) (hr : nameR s = true) (hl : xs.length ≤ 10000000) :
    Calls Tryz.prog 68 #[.pointer (some ⟨p, 0, none⟩), S s] w fun e w' => e = .returned (.bool true) ∧ Own fr al w [penI p (xs ++ (numB s.length ++ s))] w' := by
  have hsl := nameR_len hr
  have HR := Lib.hid hr
  clear hr
  unfold S
  go_enter Tryz.func68, Tryz.ntmps68
  go_wp2_with fail
  refine (right_any s _ (by omega)).mono ?_
  rintro en w ⟨rfl, hx⟩
  replace st := st.ext hx
  clear hx
  (try clear hc); have hc := st.facts; (try simp only [nfl, nft, Nat.reduceAdd] at hc)
  rw [HR.out]
  go_wp2_with ((((with_reducible refine wl_convert ?_ (fun K hK => ?_)); rfl; refine owp_sb (o := ⟨some 14, _, _, _, _, _⟩) rfl st rfl Tryz.underlying9 Tryz.underlying26 Tryz.underlying5 ?_ ?_; (simp only [maxLen]; omega); (clear st; intro A14 c14 w hc14 st))); (try simp only [nsl, Value.cells, unB] at st); (try clear hc); have hc := st.facts; (try simp only [nfl, nft, Nat.reduceAdd] at hc))
  obtain ⟨fr', al', st', back⟩ := st.sub [0, 1] (by decide) (by simp)
  (try simp only [nsl, Value.cells, unB] at st')
  refine (penText_c st' (by omega) (by omega)).mono ?_
  clear st'
  rintro en w ⟨rfl, st'⟩
  replace st := back _ _ (by simp) st'
  clear back st'
  (try simp only [nsl, Value.cells, unB] at st)
  (try clear hc); have hc := st.facts; (try simp only [nfl, nft, Nat.reduceAdd] at hc)
  go_wp2_with fail
  go_ret
  have st' := st.keep [0] (by decide) (by simp)
  exact ⟨rfl, by simpa [pick] using st'⟩
/-- The next name. -/
def rdName (xs : List UInt8) : Except Int (List UInt8 × List UInt8) := match rdText 16 xs with
  | .error e => .error e
  | .ok (s, ys) => if nameR s = true then .ok (s, ys) else .error 30
theorem Own.rdAny {fr al : Nat → Prop} {w0 w : World} {L : List It} (st : Own fr al w0 L w) {i r : Nat} {xs : List UInt8} (hi : L[i]? = some (rdI r xs)) : Own fr al w0 (L.set i (rdAnyI r)) w :=
  st.conv hi fun e s h h3 => ⟨e, s, ⟨h.1, h.2.any⟩, fun _ q => q, fun _ q => .inr q, h3⟩
theorem rdNum_lt {xs : List UInt8} {n : Nat} {ys : List UInt8} (h : rdNum xs = .ok (n, ys)) : ys.length < xs.length := (rdNum_spec h).2
theorem rdText_le {most : Int} {xs bs ys : List UInt8} (h : rdText most xs = .ok (bs, ys)) : bs.length ≤ xs.length ∧ ys.length ≤ xs.length ∧ (bs.length : Int) ≤ most := by
  unfold rdText at h
  cases hr : rdNum xs with
  | error e' => rw [hr] at h; simp at h
  | ok p =>
    obtain ⟨n, zs⟩ := p
    rw [hr] at h
    simp only at h
    have := rdNum_lt hr
    split at h
    · simp at h
    · split at h
      · simp at h
      · simp at h
        obtain ⟨rfl, rfl⟩ := h
        simp
        omega
set_option maxRecDepth 100000 in
set_option maxHeartbeats 1000000 in
theorem nameGet_c {fr al : Nat → Prop} {w : World} {r : Nat} {xs : List UInt8} (st : Own fr al w [rdI r xs] w) (hl : xs.length ≤ 100000) :
    Calls Tryz.prog 86 #[.pointer (some ⟨r, 0, none⟩)] w (RdC fr al w r (rdName xs) fun s v M => v = S s ∧ M = []) := by
  go_enter Tryz.func86, Tryz.ntmps86
  go_wp2_with fail
  have HN : Hid (rdName xs = match rdText 16 xs with | .error e => .error e | .ok (s, ys) => if nameR s = true then .ok (s, ys) else .error 30) := Lib.hid rfl
  obtain ⟨fr', al', st', back⟩ := st.sub [0] (by decide) (by simp)
  (try simp only [nsl, Value.cells, unB] at st')
  refine (text_c st' 16 (by omega)).mono ?_
  clear st'
  intro en w hen
  unfold RdC at hen
  cases hr : rdText 16 xs with
  | error e =>
    rw [hr] at hen
    obtain ⟨rfl, st'⟩ := hen
    replace st := back _ _ (by simp) st'
    clear back st'
    (try simp only [nsl, Value.cells, unB] at st)
    (try clear hc); have hc := st.facts; (try simp only [nfl, nft, Nat.reduceAdd] at hc)
    have e1 : rdName xs = .error e := by rw [HN.out, hr]
    have H1 := Lib.hid e1
    clear e1 hr
    go_wp2_with fail
    refine ⟨rfl, ?_⟩
    unfold RdC
    rw [H1.out]
    exact ⟨rfl, st⟩
  | ok p =>
    obtain ⟨s, ys⟩ := p
    rw [hr] at hen
    obtain ⟨v, M, rfl, ⟨a', c', rfl, hc1, rfl⟩, st'⟩ := hen
    replace st := back _ _ (by simp) st'
    clear back st'
    (try simp only [nsl, Value.cells, unB] at st)
    (try clear hc); have hc := st.facts; (try simp only [nfl, nft, Nat.reduceAdd] at hc)
    have hle := rdText_le hr
    have HR := Lib.hid hr
    clear hr
    go_wp2_with ((((with_reducible refine wl_convert ?_ (fun K hK => ?_)); rfl; (first | (refine owp_bs (o := ⟨some 8, _, _, _, _, _⟩) rfl st 1 get1 rfl Tryz.underlying26 Tryz.underlying5 Tryz.underlying9 ?_)))); (try simp only [nsl, Value.cells, unB] at st); (try clear hc); have hc := st.facts; (try simp only [nfl, nft, Nat.reduceAdd] at hc))
    refine (right_any s _ (by omega)).mono ?_
    rintro en w ⟨rfl, hx⟩
    replace st := st.ext hx
    clear hx
    (try clear hc); have hc := st.facts; (try simp only [nfl, nft, Nat.reduceAdd] at hc)
    by_cases hn : nameR s = true
    · have e1 : rdName xs = .ok (s, ys) := by rw [HN.out, HR.out]; simp [hn]
      have H1 := Lib.hid (And.intro hn e1)
      clear e1 hn
      rw [H1.out.1]
      go_wp2_with fail
      go_ret
      unfold RdC
      rw [H1.out.2]
      have st' := st.keep [0] (by decide) (by simp)
      exact ⟨_, [], rfl, ⟨rfl, rfl⟩, by simpa [pick] using st'⟩
    · have hn' : nameR s = false := by simpa using hn
      have e1 : rdName xs = .error 30 := by rw [HN.out, HR.out]; simp [hn']
      have H1 := Lib.hid (And.intro hn' e1)
      clear e1 hn hn'
      rw [H1.out.1]
      obtain ⟨_, sq, ⟨_, hrd⟩, _⟩ := st.get (i := 0) (I := rdI r ys) get0
      go_wp2_with fail
      refine (fail_any _ r 30 hrd.any (by decide)).mono ?_
      rintro en w' ⟨rfl, rfl⟩
      go_wp2_with fail
      refine ⟨rfl, ?_⟩
      unfold RdC
      rw [H1.out.2]
      have st' := (st.rdAny (i := 0) get0).keep [0] (by decide) (by simp)
      exact ⟨rfl, by simpa [pick] using st'⟩
end Go.Proofs.YtekngjkjgmplpaaGreat

namespace Go.Proofs.YtekngjkjgmplpaaGreat
set_option linter.unusedSimpArgs false
set_option linter.unusedVariables false
open Go Go.RowKit
end Go.Proofs.YtekngjkjgmplpaaGreat

namespace Go.Proofs.YtekngjkjgmplpaaGreat
set_option linter.unusedSimpArgs false
set_option linter.unusedVariables false
open Go Go.RowKit
theorem rdNumF_back (f : Nat) : ∀ (i acc m : Nat) (ys : List UInt8), f + i = 10 → m * 128 ^ i < 9223372036854775808 → (0 < i → 0 < m) → rdNumF f i acc (numF f m ++ ys) = .ok (acc + m * 128 ^ i, ys) := by
  induction f with
  | zero =>
    intro i acc m ys hf hm hi
    exfalso
    obtain rfl : i = 10 := by omega
    have := hi (by omega)
    have : (128 : Nat) ^ 10 ≤ m * 128 ^ 10 := Nat.le_mul_of_pos_left _ this
    have h3 : (128 : Nat) ^ 10 = 1180591620717411303424 := by decide
    omega
  | succ f ih =>
    intro i acc m ys hf hm hi
    have h9 : i ≠ 9 := by
      rintro rfl
      have := hi (by omega)
      have h1 : (128 : Nat) ^ 9 ≤ m * 128 ^ 9 := Nat.le_mul_of_pos_left _ this
      have h3 : (128 : Nat) ^ 9 = 9223372036854775808 := by decide
      omega
    by_cases hlt : 128 ≤ m
    · rw [numF_more _ _ hlt, List.cons_append]
      unfold rdNumF rdNext
      rw [if_neg h9]
      have hc : (UInt8.ofNat (128 + m % 128)).toNat = 128 + m % 128 := by simp; omega
      have hne : UInt8.ofNat (128 + m % 128) ≠ 0 := fun q => by have := congrArg UInt8.toNat q; rw [hc] at this; simp at this
      simp only [hne, false_and, if_false, hc]
      rw [if_neg (by omega), ih (i + 1) _ (m / 128) ys (by omega) ?_ (fun _ => by omega)]
      · congr 2
        have e1 : (128 + m % 128) % 128 = m % 128 := by omega
        rw [e1, Nat.pow_succ, Nat.add_assoc, ← Nat.mul_assoc, Nat.mul_right_comm, ← Nat.add_mul]
        congr 2
        omega
      · rw [Nat.pow_succ, Nat.mul_comm (128 ^ i), ← Nat.mul_assoc]
        exact Nat.lt_of_le_of_lt (Nat.mul_le_mul_right _ (Nat.div_mul_le_self m 128)) hm
    · rw [numF_last _ _ hlt, List.cons_append]
      unfold rdNumF rdNext
      rw [if_neg h9]
      have hc : (UInt8.ofNat m).toNat = m := by simp; omega
      have hne : ¬ (UInt8.ofNat m = 0 ∧ 0 < i) := fun ⟨q, q2⟩ => by have := congrArg UInt8.toNat q; rw [hc] at this; simp at this; have := hi q2; omega
      simp only [hne, if_false, hc]
      rw [if_pos (by omega), Nat.mod_eq_of_lt (by omega)]
      rfl
theorem rdNum_back (n : Nat) (ys : List UInt8) (hn : n < 9223372036854775808) : rdNum (numB n ++ ys) = .ok (n, ys) := by
  have := rdNumF_back 10 0 0 n ys rfl (by simpa using hn) (fun h => by omega)
  simpa [rdNum, numB] using this
theorem rdText_put (most : Nat) (b ys : List UInt8) (hb : b.length ≤ most) (hm : most < 9223372036854775808) : rdText (most : Int) (numB b.length ++ b ++ ys) = .ok (b, ys) := by
  unfold rdText
  rw [List.append_assoc, rdNum_back _ _ (by omega)]
  simp only
  rw [if_neg (by omega), if_neg (by simp)]
  simp
theorem rdNumber_put (most n : Nat) (ys : List UInt8) (hn : n ≤ most) (hm : most < 9223372036854775808) : rdNumber (most : Int) (numB n ++ ys) = .ok (n, ys) := by
  unfold rdNumber
  rw [rdNum_back _ _ (by omega)]
  simp only
  rw [if_neg (by omega)]
end Go.Proofs.YtekngjkjgmplpaaGreat

namespace Go.Proofs.YtekngjkjgmplpaaGreat
set_option linter.unusedSimpArgs false
set_option linter.unusedVariables false
open Go Go.RowKit
section
variable {P : Program} {fn : Func} {R : Ending → World → Prop} {a : Act} {w : World} {p u g : Nat} {ty : TypeId} {d : TypeDesc} {vs : List Value}
theorem bodyPost_cell (h : fn.results = #[.cell p ty]) (hp : a.tmps.getD p undef = .pointer (some ⟨g, 0, none⟩)) (hb : Blk w g vs) (hu : P.underlying ty = some d) (hd : (match d with | .struct _ | .array _ _ => true | _ => false) = true) (hi : (P.info? ty).map (·.size) = some vs.length)
    (hdef : a.defers = []) (hR : R (.returned (.agg vs.toArray)) w) : bodyPost P fn R .ret a w := by
  obtain ⟨t, hb⟩ := hb
  exact bodyPost_ret (results_cell_row h a.tmps w g t vs.toArray (0, 0) d hp hb hu hd (by simpa using hi)) hdef hR
theorem bodyPost_cell2 (h : fn.results = #[.cell p ty, .tmp u]) (hp : a.tmps.getD p undef = .pointer (some ⟨g, 0, none⟩)) (hb : Blk w g vs) (hu : P.underlying ty = some d) (hd : (match d with | .struct _ | .array _ _ => true | _ => false) = true) (hi : (P.info? ty).map (·.size) = some vs.length)
    (hdef : a.defers = []) (hR : R (.returned (.tuple #[.agg vs.toArray, a.tmps.getD u undef])) w) : bodyPost P fn R .ret a w := by
  obtain ⟨t, hb⟩ := hb
  refine bodyPost_ret (v := .tuple #[.agg vs.toArray, a.tmps.getD u undef]) ?_ hdef hR
  rw [results_cell_tmp h]
  rw [hp]
  simp [asAddr, run_loadVar_row w g t ty vs.toArray (0, 0) d hb hu hd (by simpa using hi), Result.andThen]
end
end Go.Proofs.YtekngjkjgmplpaaGreat

namespace Go.Proofs.YtekngjkjgmplpaaGreat
set_option linter.unusedSimpArgs false
set_option linter.unusedVariables false
open Go Go.RowKit
abbrev Role := List UInt8 × List UInt8
instance fltRole : Flt Role := ⟨2, fun r => [S r.1, S r.2], fun _ => rfl, by decide, fun x u hu => by simp at hu; rcases hu with rfl | rfl <;> rfl⟩
theorem fltRole_k : Flt.k Role = 2 := rfl
theorem role_cells (r : Role) : Flt.cells r = [.string ⟨r.1.toArray⟩, .string ⟨r.2.toArray⟩] := rfl
/-- A role as a value. -/
def rV (r : Role) : Value := .agg #[S r.1, S r.2]
def roleR (r : Role) : Bool := nameR r.1 && nameR r.2
def roleB (r : Role) : List UInt8 := (numB r.1.length ++ r.1) ++ (numB r.2.length ++ r.2)
set_option maxRecDepth 100000 in
set_option maxHeartbeats 1000000 in
theorem roleRight_any (r : Role) (W : World) (h1 : r.1.length ≤ 100000) (h2 : r.2.length ≤ 100000) : Calls Tryz.prog 62 #[rV r] W fun e w' => e = .returned (.bool (roleR r)) ∧ Ext W w' := by
  obtain ⟨o, d⟩ := r
  simp only at h1 h2
  have st := Own.startOld W
  unfold rV roleR S
  (try simp only [nsl, Value.cells, unB] at st)
  (try clear hc); have hc := st.facts; (try simp only [nfl, nft, Nat.reduceAdd] at hc)
  go_enter Tryz.func62, Tryz.ntmps62
  go_wp2_with ((((with_reducible refine wl_box ?_ (fun K hK => ?_)); rfl; refine owp_box (o := ⟨some 1, _, _, _, _, _⟩) rfl st ?_; apply Exists.intro; refine ⟨?_, ?_⟩; (focus (go_simp; try rfl)); (clear st; intro b1 w hb st; clear hb))); (try simp only [nsl, Value.cells, unB] at st); (try clear hc); have hc := st.facts; (try simp only [nfl, nft, Nat.reduceAdd] at hc))
  refine (right_any o _ h1).mono ?_
  rintro en w ⟨rfl, hx⟩
  replace st := st.ext hx
  clear hx
  (try clear hc); have hc := st.facts; (try simp only [nfl, nft, Nat.reduceAdd] at hc)
  cases hr : nameR o with
  | true =>
    go_wp2_with fail
    refine (right_any d _ h2).mono ?_
    rintro en w ⟨rfl, hx⟩
    replace st := st.ext hx
    clear hx
    (try clear hc); have hc := st.facts; (try simp only [nfl, nft, Nat.reduceAdd] at hc)
    go_wp2_with fail
    go_ret
    exact ⟨by simp [hr], st.ext0⟩
  | false =>
    go_wp2_with fail
    go_ret
    exact ⟨by simp [hr], st.ext0⟩
set_option maxRecDepth 100000 in
set_option maxHeartbeats 1000000 in
theorem refRoleRight_any (r : Role) (W : World) (h1 : r.1.length ≤ 1000000000) (h2 : r.2.length ≤ 1000000000) : Calls Tryz.prog 54 #[rV r] W fun e w' => e = .returned (.bool (roleR r)) ∧ Ext W w' := by
  obtain ⟨o, d⟩ := r
  simp only at h1 h2
  have st := Own.startOld W
  unfold rV roleR S
  (try simp only [nsl, Value.cells, unB] at st)
  (try clear hc); have hc := st.facts; (try simp only [nfl, nft, Nat.reduceAdd] at hc)
  go_enter Tryz.func54, Tryz.ntmps54
  go_wp2_with ((((with_reducible refine wl_box ?_ (fun K hK => ?_)); rfl; refine owp_box (o := ⟨some 1, _, _, _, _, _⟩) rfl st ?_; apply Exists.intro; refine ⟨?_, ?_⟩; (focus (go_simp; try rfl)); (clear st; intro b1 w hb st; clear hb))); (try simp only [nsl, Value.cells, unB] at st); (try clear hc); have hc := st.facts; (try simp only [nfl, nft, Nat.reduceAdd] at hc))
  refine (refRight_any o _ h1).mono ?_
  rintro en w ⟨rfl, hx⟩
  replace st := st.ext hx
  clear hx
  (try clear hc); have hc := st.facts; (try simp only [nfl, nft, Nat.reduceAdd] at hc)
  cases hr : nameR o with
  | true =>
    go_wp2_with fail
    refine (refRight_any d _ h2).mono ?_
    rintro en w ⟨rfl, hx⟩
    replace st := st.ext hx
    clear hx
    (try clear hc); have hc := st.facts; (try simp only [nfl, nft, Nat.reduceAdd] at hc)
    go_wp2_with fail
    go_ret
    exact ⟨by simp [hr], st.ext0⟩
  | false =>
    go_wp2_with fail
    go_ret
    exact ⟨by simp [hr], st.ext0⟩
set_option maxRecDepth 100000 in
set_option maxHeartbeats 1000000 in
theorem rolePut_yes {fr al : Nat → Prop} {w : World} {p : Nat} {xs : List UInt8} (st : Own fr al w [penI p xs] w) (r : Role) (hr : roleR r = true) (hl : xs.length ≤ 9000000) :
    Calls Tryz.prog 67 #[.pointer (some ⟨p, 0, none⟩), rV r] w fun e w' => e = .returned (.bool true) ∧ Own fr al w [penI p (xs ++ roleB r)] w' := by
  obtain ⟨o, d⟩ := r
  have hr' : nameR o = true ∧ nameR d = true := by simpa [roleR] using hr
  have HR := Lib.hid hr'
  have hl1 := nameR_len hr'.1
  have hl2 := nameR_len hr'.2
  clear hr hr'
  unfold rV S
  go_enter Tryz.func67, Tryz.ntmps67
  go_wp2_with ((((with_reducible refine wl_box ?_ (fun K hK => ?_)); rfl; refine owp_box (o := ⟨some 3, _, _, _, _, _⟩) rfl st ?_; apply Exists.intro; refine ⟨?_, ?_⟩; (focus (go_simp; try rfl)); (clear st; intro b3 w hb st; clear hb))); (try simp only [nsl, Value.cells, unB] at st); (try clear hc); have hc := st.facts; (try simp only [nfl, nft, Nat.reduceAdd] at hc))
  refine (roleRight_any (o, d) _ (by simp only; omega) (by simp only; omega)).mono ?_
  rintro en w ⟨rfl, hx⟩
  replace st := st.ext hx
  clear hx
  (try clear hc); have hc := st.facts; (try simp only [nfl, nft, Nat.reduceAdd] at hc)
  rw [show roleR (o, d) = true from by simp [roleR, HR.out.1, HR.out.2]]
  go_wp2_with fail
  obtain ⟨fr', al', st', back⟩ := st.sub [0] (by decide) (by simp)
  (try simp only [nsl, Value.cells, unB] at st')
  refine (namePut_yes st' o HR.out.1 (by omega)).mono ?_
  clear st'
  rintro en w ⟨rfl, st'⟩
  replace st := back _ _ (by simp) st'
  clear back st'
  (try simp only [nsl, Value.cells, unB] at st)
  (try clear hc); have hc := st.facts; (try simp only [nfl, nft, Nat.reduceAdd] at hc)
  go_wp2_with fail
  obtain ⟨fr', al', st', back⟩ := st.sub [0] (by decide) (by simp)
  (try simp only [nsl, Value.cells, unB] at st')
  refine (namePut_yes st' d HR.out.2 (by have := numF_len 10 o.length; simp [numB]; omega)).mono ?_
  clear st'
  rintro en w ⟨rfl, st'⟩
  replace st := back _ _ (by simp) st'
  clear back st'
  (try simp only [nsl, Value.cells, unB] at st)
  (try clear hc); have hc := st.facts; (try simp only [nfl, nft, Nat.reduceAdd] at hc)
  go_wp2_with fail
  go_ret
  have st' := st.keep [0] (by decide) (by simp)
  exact ⟨rfl, by simpa [pick, roleB] using st'⟩
/-- The next role. -/
def rdRole (xs : List UInt8) : Except Int (Role × List UInt8) := match rdName xs with
  | .error e => .error e
  | .ok (o, ys) => match rdName ys with
    | .error e => .error e
    | .ok (d, zs) => .ok ((o, d), zs)
theorem rdName_le {xs s ys : List UInt8} (h : rdName xs = .ok (s, ys)) : ys.length ≤ xs.length ∧ nameR s = true := by
  unfold rdName at h
  cases hr : rdText 16 xs with
  | error e => rw [hr] at h; simp at h
  | ok p =>
    obtain ⟨s', ys'⟩ := p
    rw [hr] at h
    simp only at h
    split at h
    · simp at h; obtain ⟨rfl, rfl⟩ := h; exact ⟨(rdText_le hr).2.1, by assumption⟩
    · simp at h
theorem rdName_er {xs : List UInt8} {e : Int} (h : rdName xs = .error e) : e ≠ 0 := by
  unfold rdName at h
  cases hr : rdText 16 xs with
  | error e2 => rw [hr] at h; simp at h; subst h; exact rdText_er hr
  | ok p =>
    obtain ⟨s', ys'⟩ := p
    rw [hr] at h
    simp only at h
    split at h
    · simp at h
    · simp at h; subst h; decide
set_option maxRecDepth 100000 in
set_option maxHeartbeats 1000000 in
theorem roleGet_c {fr al : Nat → Prop} {w : World} {r : Nat} {xs : List UInt8} (st : Own fr al w [rdI r xs] w) (hl : xs.length ≤ 100000) :
    Calls Tryz.prog 85 #[.pointer (some ⟨r, 0, none⟩)] w (RdC fr al w r (rdRole xs) fun s v M => v = rV s ∧ M = []) := by
  go_enter Tryz.func85, Tryz.ntmps85
  go_wp2_with ((((with_reducible refine wl_alloc ?_ (fun K hK => ?_)); rfl; refine owp_alloc (o := ⟨some 2, _, _, _, _, _⟩) rfl st ?_; apply Exists.intro; apply Exists.intro; refine ⟨?_, ?_⟩; (focus (first | (go_simp; done) | (go_simp; rfl))); (clear st; intro b2 w hb st; clear hb))); (try simp only [nsl, Value.cells, unB] at st); (try clear hc); have hc := st.facts; (try simp only [nfl, nft, Nat.reduceAdd] at hc))
  have HN : Hid (rdRole xs = match rdName xs with | .error e => .error e | .ok (o, ys) => match rdName ys with | .error e => .error e | .ok (d, zs) => .ok ((o, d), zs)) := Lib.hid rfl
  obtain ⟨fr', al', st', back⟩ := st.sub [0] (by decide) (by simp)
  (try simp only [nsl, Value.cells, unB] at st')
  refine (nameGet_c st' hl).mono ?_
  clear st'
  intro en w hen
  unfold RdC at hen
  cases hr : rdName xs with
  | error e =>
    rw [hr] at hen
    obtain ⟨rfl, st'⟩ := hen
    replace st := back _ _ (by simp) st'
    clear back st'
    (try simp only [nsl, Value.cells, unB] at st)
    (try clear hc); have hc := st.facts; (try simp only [nfl, nft, Nat.reduceAdd] at hc)
    have H1 : Hid (rdRole xs = .error e) := Lib.hid (by rw [HN.out, hr])
    clear hr
    go_wp2_with fail
    refine ⟨rfl, ?_⟩
    unfold RdC
    rw [H1.out]
    have st' := st.keep [0] (by decide) (by simp)
    exact ⟨rfl, by simpa [pick] using st'⟩
  | ok p =>
    obtain ⟨o, ys⟩ := p
    rw [hr] at hen
    obtain ⟨v, M, rfl, ⟨rfl, rfl⟩, st'⟩ := hen
    replace st := back _ _ (by simp) st'
    clear back st'
    (try simp only [nsl, Value.cells, unB] at st)
    (try clear hc); have hc := st.facts; (try simp only [nfl, nft, Nat.reduceAdd] at hc)
    have hle := (rdName_le hr).1
    have HR := Lib.hid hr
    clear hr
    unfold S
    go_wp2_with fail
    obtain ⟨fr', al', st', back⟩ := st.sub [0] (by decide) (by simp)
    (try simp only [nsl, Value.cells, unB] at st')
    refine (nameGet_c st' (by omega)).mono ?_
    clear st'
    intro en w hen
    unfold RdC at hen
    cases hr : rdName ys with
    | error e =>
      rw [hr] at hen
      obtain ⟨rfl, st'⟩ := hen
      replace st := back _ _ (by simp) st'
      clear back st'
      (try simp only [nsl, Value.cells, unB] at st)
      (try clear hc); have hc := st.facts; (try simp only [nfl, nft, Nat.reduceAdd] at hc)
      have H1 : Hid (rdRole xs = .error e) := Lib.hid (by rw [HN.out, HR.out]; simp only; rw [hr])
      clear hr
      go_wp2_with fail
      refine ⟨rfl, ?_⟩
      unfold RdC
      rw [H1.out]
      have st' := st.keep [0] (by decide) (by simp)
      exact ⟨rfl, by simpa [pick] using st'⟩
    | ok p =>
      obtain ⟨d, zs⟩ := p
      rw [hr] at hen
      obtain ⟨v, M, rfl, ⟨rfl, rfl⟩, st'⟩ := hen
      replace st := back _ _ (by simp) st'
      clear back st'
      (try simp only [nsl, Value.cells, unB] at st)
      (try clear hc); have hc := st.facts; (try simp only [nfl, nft, Nat.reduceAdd] at hc)
      have H1 : Hid (rdRole xs = .ok ((o, d), zs)) := Lib.hid (by rw [HN.out, HR.out]; simp only; rw [hr])
      clear hr
      unfold S
      go_wp2_with ((((with_reducible refine wl_store ?_ (fun K hK => ?_)); rfl; refine owp_store rfl st ?_; apply Exists.intro; apply Exists.intro; refine ⟨?_, ?_, ?_⟩; (focus (go_simp; try rfl)); (focus (go_simp; try rfl)); (with_reducible refine ⟨1, _, _, _, _, get1, rfl, rfl, ?_, ?_, ?_, ?_⟩); (kernel_rfl); (simp [Value.cells]); (rfl); (clear st; intro w st))); (try simp only [nsl, Value.cells, unB] at st); (try clear hc); have hc := st.facts; (try simp only [nfl, nft, Nat.reduceAdd] at hc))
      (try simp only [Exit.inBlock, Exit.then])
      refine bodyPost_cell rfl rfl (st.blk (i := 1) get1) Tryz.underlying45 rfl (by kernel_rfl) rfl ?_
      unfold RdC
      rw [H1.out]
      have st' := st.keep [0] (by decide) (by simp)
      exact ⟨_, [], rfl, ⟨rfl, rfl⟩, by simpa [pick] using st'⟩
set_option maxRecDepth 100000 in
set_option maxHeartbeats 1000000 in
theorem refRoleBytes_any (r : Role) (W : World) (h1 : r.1.length ≤ 100000) (h2 : r.2.length ≤ 100000) : Calls Tryz.prog 37 #[rV r] W fun e w' => e = .returned (S (roleB r)) ∧ Ext W w' := by
  have happ := ba_append
  obtain ⟨o, d⟩ := r
  simp only at h1 h2
  have hn1 : (numB o.length).length ≤ 10 := numF_len 10 o.length
  have hn2 : (numB d.length).length ≤ 10 := numF_len 10 d.length
  have st := Own.startOld W
  unfold rV roleB S
  simp only
  (try simp only [nsl, Value.cells, unB] at st)
  (try clear hc); have hc := st.facts; (try simp only [nfl, nft, Nat.reduceAdd] at hc)
  go_enter Tryz.func37, Tryz.ntmps37
  go_wp2_with ((((with_reducible refine wl_box ?_ (fun K hK => ?_)); rfl; refine owp_box (o := ⟨some 1, _, _, _, _, _⟩) rfl st ?_; apply Exists.intro; refine ⟨?_, ?_⟩; (focus (go_simp; try rfl)); (clear st; intro b1 w hb st; clear hb))); (try simp only [nsl, Value.cells, unB] at st); (try clear hc); have hc := st.facts; (try simp only [nfl, nft, Nat.reduceAdd] at hc))
  refine Rg4.wp_region4 (Rel := Ext) #[0, 1, 3, 0, 8, 31, 63, 127]
    [(2, .val (.string ⟨(numB o.length ++ o).toArray⟩)), (5, .val (.string ⟨(numB d.length ++ d).toArray⟩))] [] [1, 4] (fun _ => True) [0, 1, 2, 3, 4, 5, 6, 7] (by kernel_rfl) (by kernel_rfl) (by kernel_rfl) (by kernel_rfl) Ext.refl (fun _ _ _ => Ext.trans) (show Rg4.PB _ by repeat (first | with_reducible exact Rg4.pb_body | with_reducible exact Rg4.pb_bodyD rfl | with_reducible refine Rg4.pb_then ?_ | with_reducible refine Rg4.pb_inBlock ?_ | with_reducible refine Rg4.pb_noGoto ?_)) (trivial) ?_
  replace st := st.drew
  change Rg4.wp4 _ _ _ _ _ _ _ _ _ (World.drew _) _ _
  generalize World.drew _ = w at st ⊢
  (try clear hc); have hc := st.facts; (try simp only [nfl, nft, Nat.reduceAdd] at hc)
  (refine Rg4.w4_any (Rg4.want_none rfl) rfl ?_; apply Exists.intro; refine ⟨fun w' => ?_, ?_⟩; (focus (first | (go_simp; done) | (go_simp; first | rfl | (rw [if_neg] <;> first | rfl | omega) | (rw [if_pos] <;> first | rfl | omega)))); (try simp only [Rg4.nrm]))
  (refine Rg4.w4_read (Rg4.want_none rfl) rfl rfl ?_; apply Exists.intro; refine ⟨fun w' hw' hcl' => ?_, ?_⟩; focus (have st' := st.ext hw'; have hc' := st'.facts; (try simp only [nfl, nft, Nat.reduceAdd] at hc'); (focus (first | (go_simp; done) | (go_simp; first | rfl | (rw [if_neg] <;> first | rfl | omega) | (rw [if_pos] <;> first | rfl | omega))))); (try simp only [Rg4.nrm]))
  refine Rg4.w4_some (Rg4.want_none rfl) rfl (fun w' hw' hcl' _ => ?_) ?_
  · refine Rg.relAt_call (by go_simp; exact ⟨rfl, rfl⟩) ?_
    refine (refText_any o _ (by omega)).mono ?_
    rintro en w'' ⟨rfl, hx⟩
    exact ⟨_, rfl, hx, trivial, rfl⟩
  rintro v ⟨_, _, _, rfl⟩
  (try simp only [Rg4.nrm])
  (refine Rg4.w4_any (Rg4.want_none rfl) rfl ?_; apply Exists.intro; refine ⟨fun w' => ?_, ?_⟩; (focus (first | (go_simp; done) | (go_simp; first | rfl | (rw [if_neg] <;> first | rfl | omega) | (rw [if_pos] <;> first | rfl | omega)))); (try simp only [Rg4.nrm]))
  (refine Rg4.w4_read (Rg4.want_none rfl) rfl rfl ?_; apply Exists.intro; refine ⟨fun w' hw' hcl' => ?_, ?_⟩; focus (have st' := st.ext hw'; have hc' := st'.facts; (try simp only [nfl, nft, Nat.reduceAdd] at hc'); (focus (first | (go_simp; done) | (go_simp; first | rfl | (rw [if_neg] <;> first | rfl | omega) | (rw [if_pos] <;> first | rfl | omega))))); (try simp only [Rg4.nrm]))
  refine Rg4.w4_some (Rg4.want_none rfl) rfl (fun w' hw' hcl' _ => ?_) ?_
  · refine Rg.relAt_call (by go_simp; exact ⟨rfl, rfl⟩) ?_
    refine (refText_any d _ (by omega)).mono ?_
    rintro en w'' ⟨rfl, hx⟩
    exact ⟨_, rfl, hx, trivial, rfl⟩
  rintro v ⟨_, _, _, rfl⟩
  (try simp only [Rg4.nrm])
  iterate 2 (refine Rg4.w4_any (Rg4.want_none rfl) rfl ?_; apply Exists.intro; refine ⟨fun w' => ?_, ?_⟩; (focus (first | (go_simp; done) | (go_simp; first | rfl | (rw [if_neg] <;> first | rfl | omega) | (rw [if_pos] <;> first | rfl | omega)))); (try simp only [Rg4.nrm]))
  refine Rg4.w4_nil (fun w' hw' hcl' _ => ?_); replace st := st.ext hw'; clear hw' hcl'; (try clear hc); have hc := st.facts; (try simp only [nfl, nft, Nat.reduceAdd] at hc)
  go_wp2_with fail
  go_ret
  exact ⟨by simp, st.ext0⟩
end Go.Proofs.YtekngjkjgmplpaaGreat

namespace Go.Proofs.YtekngjkjgmplpaaGreat
set_option linter.unusedSimpArgs false
set_option linter.unusedVariables false
open Go Go.RowKit
def roleLt (a b : Role) : Bool := strLt a.1 b.1 || (a.1 == b.1 && strLt a.2 b.2)
theorem strLt_irr (x : List UInt8) : strLt x x = false := (strOrd (fun _ => true)).irr x
theorem strLt_tr {x y z : List UInt8} (h : strLt x y = true) (k : strLt y z = true) : strLt x z = true := (strOrd (fun _ => true)).tr _ _ _ h k
theorem strLt_tri (x y : List UInt8) : strLt x y = true ∨ x = y ∨ strLt y x = true := (strOrd (fun _ => true)).tri x y rfl rfl
theorem roleOrd (P : Role → Bool) : SOrd roleLt P where
  irr x := by simp [roleLt, strLt_irr]
  tr x y z h1 h2 := by
    simp only [roleLt, Bool.or_eq_true, Bool.and_eq_true, beq_iff_eq] at *
    rcases h1 with h1 | ⟨h1, h1'⟩ <;> rcases h2 with h2 | ⟨h2, h2'⟩
    · exact .inl (strLt_tr h1 h2)
    · exact .inl (h2 ▸ h1)
    · exact .inl (h1 ▸ h2)
    · exact .inr ⟨h1.trans h2, strLt_tr h1' h2'⟩
  tri x y _ _ := by
    simp only [roleLt, Bool.or_eq_true, Bool.and_eq_true, beq_iff_eq]
    rcases strLt_tri x.1 y.1 with h | h | h
    · exact .inl (.inl h)
    · rcases strLt_tri x.2 y.2 with k | k | k
      · exact .inl (.inr ⟨h, k⟩)
      · exact .inr (.inl (Prod.ext h k))
      · exact .inr (.inr (.inr ⟨h.symm, k⟩))
    · exact .inr (.inr (.inl h))
/-- What Compare tells. -/
def roleCmp (a b : Role) : Int := if roleLt a b = true then -1 else if roleLt b a = true then 1 else 0
theorem cmpBytes_eq : ∀ (a b : List UInt8), Lib.compareBytes a b = if strLt a b = true then -1 else if strLt b a = true then 1 else 0
  | [], [] => by simp [Lib.compareBytes, strLt, Op.bytesLess]
  | [], _ :: _ => by simp [Lib.compareBytes, strLt, Op.bytesLess]
  | _ :: _, [] => by simp [Lib.compareBytes, strLt, Op.bytesLess]
  | a :: s, b :: t => by
    have ih := cmpBytes_eq s t
    simp only [strLt] at ih
    simp only [Lib.compareBytes, strLt, Op.bytesLess]
    by_cases h1 : a < b
    · simp [h1]
    · by_cases h2 : b < a
      · have hab : (a == b) = false := by
          cases hq : a == b with
          | false => rfl
          | true => have e : a = b := by simpa using hq
                    subst e; exact absurd h2 h1
        simp [h1, h2, hab]
      · have e : a = b := by
          apply UInt8.toNat_inj.1
          have q1 : ¬ a.toNat < b.toNat := fun q => h1 (by simpa [UInt8.lt_iff_toNat_lt] using q)
          have q2 : ¬ b.toNat < a.toNat := fun q => h2 (by simpa [UInt8.lt_iff_toNat_lt] using q)
          omega
        subst e
        simp [h1, ih]
        rfl
set_option maxRecDepth 100000 in
set_option maxHeartbeats 1000000 in
theorem refRoleLess_any (a b : Role) (W : World) : Calls Tryz.prog 55 #[rV a, rV b] W fun e w' => e = .returned (.bool (roleLt a b)) ∧ Ext W w' := by
  obtain ⟨o, d⟩ := a
  obtain ⟨o', d'⟩ := b
  have st := Own.startOld W
  unfold rV roleLt S strLt
  simp only
  (try simp only [nsl, Value.cells, unB] at st)
  (try clear hc); have hc := st.facts; (try simp only [nfl, nft, Nat.reduceAdd] at hc)
  cases h1 : Op.bytesLess o o' with
  | true =>
    go_enter Tryz.func55, Tryz.ntmps55
    go_wp2_with ((first
          | ((with_reducible refine wl_box ?_ (fun K hK => ?_)); rfl; refine owp_box (o := ⟨some 2, _, _, _, _, _⟩) rfl st ?_; apply Exists.intro; refine ⟨?_, ?_⟩; (focus (go_simp; try rfl)); (clear st; intro b2 w hb st; clear hb))
          | ((with_reducible refine wl_box ?_ (fun K hK => ?_)); rfl; refine owp_box (o := ⟨some 3, _, _, _, _, _⟩) rfl st ?_; apply Exists.intro; refine ⟨?_, ?_⟩; (focus (go_simp; try rfl)); (clear st; intro b3 w hb st; clear hb))); (try simp only [nsl, Value.cells, unB] at st); (try clear hc); have hc := st.facts; (try simp only [nfl, nft, Nat.reduceAdd] at hc))
    go_ret
    exact ⟨by simp [h1], st.ext0⟩
  | false =>
    cases h2 : (o == o') with
    | true =>
      go_enter Tryz.func55, Tryz.ntmps55
      go_wp2_with ((first
            | ((with_reducible refine wl_box ?_ (fun K hK => ?_)); rfl; refine owp_box (o := ⟨some 2, _, _, _, _, _⟩) rfl st ?_; apply Exists.intro; refine ⟨?_, ?_⟩; (focus (go_simp; try rfl)); (clear st; intro b2 w hb st; clear hb))
            | ((with_reducible refine wl_box ?_ (fun K hK => ?_)); rfl; refine owp_box (o := ⟨some 3, _, _, _, _, _⟩) rfl st ?_; apply Exists.intro; refine ⟨?_, ?_⟩; (focus (go_simp; try rfl)); (clear st; intro b3 w hb st; clear hb))); (try simp only [nsl, Value.cells, unB] at st); (try clear hc); have hc := st.facts; (try simp only [nfl, nft, Nat.reduceAdd] at hc))
      go_ret
      exact ⟨by simp [h1, h2], st.ext0⟩
    | false =>
      go_enter Tryz.func55, Tryz.ntmps55
      go_wp2_with ((first
            | ((with_reducible refine wl_box ?_ (fun K hK => ?_)); rfl; refine owp_box (o := ⟨some 2, _, _, _, _, _⟩) rfl st ?_; apply Exists.intro; refine ⟨?_, ?_⟩; (focus (go_simp; try rfl)); (clear st; intro b2 w hb st; clear hb))
            | ((with_reducible refine wl_box ?_ (fun K hK => ?_)); rfl; refine owp_box (o := ⟨some 3, _, _, _, _, _⟩) rfl st ?_; apply Exists.intro; refine ⟨?_, ?_⟩; (focus (go_simp; try rfl)); (clear st; intro b3 w hb st; clear hb))); (try simp only [nsl, Value.cells, unB] at st); (try clear hc); have hc := st.facts; (try simp only [nfl, nft, Nat.reduceAdd] at hc))
      go_ret
      exact ⟨by simp [h1, h2], st.ext0⟩
def or2 (x y : Int) : Int := if x = 0 then y else x
set_option maxRecDepth 100000 in
set_option maxHeartbeats 1000000 in
theorem cmpOr2_any (b k : Nat) (x y : Int) (W : World) (h0 : W.cell? ⟨b, 0, none⟩ = some (.int .i64 x)) (h1 : W.cell? ⟨b, 1, none⟩ = some (.int .i64 y)) :
    Calls Tryz.prog 99 #[.slice (some ⟨b, 0, none⟩) 2 k] W fun e w' => e = .returned (.int .i64 (or2 x y)) ∧ Ext W w' := by
  have H := Lib.hid (And.intro h0 h1)
  clear h0 h1
  have st := Own.startOld W
  (try simp only [nsl, Value.cells, unB] at st)
  (try clear hc); have hc := st.facts; (try simp only [nfl, nft, Nat.reduceAdd] at hc)
  go_enter Tryz.func99, Tryz.ntmps99
  go_wp2_with fail
  go_loopg [8] 2 (fun k i wr => ∃ (j : Nat), j ≤ 2 ∧ k = 2 - j ∧ i = .int .i64 (j : Int) ∧ Hid ((0 < j → x = 0) ∧ (1 < j → y = 0)) ∧ Own (fun _ => False) (fun _ => True) W [oldI W] wr)
  case atStart => exact ⟨0, by omega, by omega, rfl, Lib.hid ⟨by omega, by omega⟩, st⟩
  case round =>
    obtain ⟨j, hj, rfl, rfl, HT, st'⟩ := hrel
    clear st hc
    have st := st'
    clear st'
    have r0 := st.oldCell (i := 0) get0 H.out.1
    have r1 := st.oldCell (i := 0) get0 H.out.2
    match j, hj with
    | 0, _ =>
      by_cases hx : x = 0
      · subst hx
        go_wp2_with fail
        go_roundg 1
        case measure => omega
        case rel => exact ⟨1, by omega, by omega, by first | rfl | trivial | go_num, Lib.hid (by simp), st⟩
      · have hb : (x != 0) = true := by simpa using hx
        have HX := Lib.hid hx
        clear hx
        go_wp2_with fail
        go_ret
        exact ⟨by rw [show or2 x y = x from if_neg HX.out]; rfl, st.ext0⟩
    | 1, _ =>
      have HX : Hid (x = 0) := Lib.hid (HT.out.1 (by omega))
      by_cases hy : y = 0
      · subst hy
        go_wp2_with fail
        go_roundg 0
        case measure => omega
        case rel => exact ⟨2, by omega, by omega, by first | rfl | trivial | go_num, Lib.hid (by simp [HX.out]), st⟩
      · have hb : (y != 0) = true := by simpa using hy
        clear hy
        go_wp2_with fail
        go_ret
        exact ⟨by rw [show or2 x y = y from if_pos HX.out]; rfl, st.ext0⟩
    | 2, _ =>
      have HX : Hid (x = 0 ∧ y = 0) := Lib.hid ⟨HT.out.1 (by omega), HT.out.2 (by omega)⟩
      go_wp2_with fail
      go_ret
      exact ⟨by rw [show or2 x y = 0 from (if_pos HX.out.1).trans HX.out.2]; rfl, st.ext0⟩
    | j + 3, hj => omega
def cmp2 (x y : List UInt8) : Int := if strLt x y = true then -1 else if strLt y x = true then 1 else 0
theorem strCompare_any (a b : List UInt8) (W : World) : Calls Tryz.prog 100 #[.string ⟨a.toArray⟩, .string ⟨b.toArray⟩] W fun e w' => e = .returned (.int .i64 (cmp2 a b)) ∧ Ext W w' := by
  refine (Tryz.strings_Compare ⟨a.toArray⟩ ⟨b.toArray⟩ W).mono ?_
  rintro e w' ⟨rfl, rfl⟩
  exact ⟨by rw [show cmp2 a b = Lib.compareBytes a b from (cmpBytes_eq a b).symm], Ext.refl _⟩
theorem roleCmp_or (o d o' d' : List UInt8) : or2 (cmp2 o o') (cmp2 d d') = roleCmp (o, d) (o', d') := by
  unfold roleCmp roleLt or2 cmp2
  simp only
  rcases strLt_tri o o' with h | h | h
  · have h2 : strLt o' o = false := (strLt_asymm h).1
    simp [h]
  · subst h; simp [strLt_irr]
  · have h2 : strLt o o' = false := (strLt_asymm h).1
    have h3 : (o == o') = false := by have := (strLt_asymm h).2; exact this
    have h4 : (o' == o) = false := by cases hq : o' == o with
      | false => rfl
      | true => have e : o' = o := by simpa using hq
                subst e; rw [strLt_irr] at h; cases h
    simp [h, h2, h3]
set_option maxRecDepth 100000 in
set_option maxHeartbeats 1000000 in
theorem roleCompare_any (a b : Role) (W : World) : Calls Tryz.prog 64 #[rV a, rV b] W fun e w' => e = .returned (.int .i64 (roleCmp a b)) ∧ Ext W w' := by
  obtain ⟨o, d⟩ := a
  obtain ⟨o', d'⟩ := b
  have st := Own.startOld W
  have HO := Lib.hid (roleCmp_or o d o' d')
  unfold rV S
  simp only
  (try simp only [nsl, Value.cells, unB] at st)
  (try clear hc); have hc := st.facts; (try simp only [nfl, nft, Nat.reduceAdd] at hc)
  go_enter Tryz.func64, Tryz.ntmps64
  go_wp2_with ((first
        | ((with_reducible refine wl_box ?_ (fun K hK => ?_)); rfl; refine owp_box (o := ⟨some 2, _, _, _, _, _⟩) rfl st ?_; apply Exists.intro; refine ⟨?_, ?_⟩; (focus (go_simp; try rfl)); (clear st; intro b2 w hb st; clear hb))
        | ((with_reducible refine wl_box ?_ (fun K hK => ?_)); rfl; refine owp_box (o := ⟨some 3, _, _, _, _, _⟩) rfl st ?_; apply Exists.intro; refine ⟨?_, ?_⟩; (focus (go_simp; try rfl)); (clear st; intro b3 w hb st; clear hb))); (try simp only [nsl, Value.cells, unB] at st); (try clear hc); have hc := st.facts; (try simp only [nfl, nft, Nat.reduceAdd] at hc))
  refine Rg4.wp_region4 (Rel := Ext) #[0, 1, 0, 4, 15, 0, 32, 0, 128, 511, 1023, 2047, 4095]
    [(4, .val (.int .i64 (cmp2 o o'))), (9, .val (.int .i64 (cmp2 d d')))] [10, 11] [1, 3, 6, 8] (fun _ => True) [0, 1, 2, 3, 4, 5, 6, 7, 8, 9, 10, 11, 12] (by kernel_rfl) (by kernel_rfl) (by kernel_rfl) (by kernel_rfl) Ext.refl (fun _ _ _ => Ext.trans) (show Rg4.PB _ by repeat (first | with_reducible exact Rg4.pb_body | with_reducible exact Rg4.pb_bodyD rfl | with_reducible refine Rg4.pb_then ?_ | with_reducible refine Rg4.pb_inBlock ?_ | with_reducible refine Rg4.pb_noGoto ?_)) (trivial) ?_
  replace st := st.drew
  change Rg4.wp4 _ _ _ _ _ _ _ _ _ (World.drew _) _ _
  generalize World.drew _ = w at st ⊢
  (try clear hc); have hc := st.facts; (try simp only [nfl, nft, Nat.reduceAdd] at hc)
  (refine Rg4.w4_any (Rg4.want_none rfl) rfl ?_; apply Exists.intro; refine ⟨fun w' => ?_, ?_⟩; (focus (first | (go_simp; done) | (go_simp; first | rfl | (rw [if_neg] <;> first | rfl | omega) | (rw [if_pos] <;> first | rfl | omega)))); (try simp only [Rg4.nrm]))
  (refine Rg4.w4_read (Rg4.want_none rfl) rfl rfl ?_; apply Exists.intro; refine ⟨fun w' hw' hcl' => ?_, ?_⟩; focus (have st' := st.ext hw'; have hc' := st'.facts; (try simp only [nfl, nft, Nat.reduceAdd] at hc'); (focus (first | (go_simp; done) | (go_simp; first | rfl | (rw [if_neg] <;> first | rfl | omega) | (rw [if_pos] <;> first | rfl | omega))))); (try simp only [Rg4.nrm]))
  (refine Rg4.w4_any (Rg4.want_none rfl) rfl ?_; apply Exists.intro; refine ⟨fun w' => ?_, ?_⟩; (focus (first | (go_simp; done) | (go_simp; first | rfl | (rw [if_neg] <;> first | rfl | omega) | (rw [if_pos] <;> first | rfl | omega)))); (try simp only [Rg4.nrm]))
  (refine Rg4.w4_read (Rg4.want_none rfl) rfl rfl ?_; apply Exists.intro; refine ⟨fun w' hw' hcl' => ?_, ?_⟩; focus (have st' := st.ext hw'; have hc' := st'.facts; (try simp only [nfl, nft, Nat.reduceAdd] at hc'); (focus (first | (go_simp; done) | (go_simp; first | rfl | (rw [if_neg] <;> first | rfl | omega) | (rw [if_pos] <;> first | rfl | omega))))); (try simp only [Rg4.nrm]))
  refine Rg4.w4_some (Rg4.want_none rfl) rfl (fun w' hw' hcl' _ => ?_) ?_
  · refine Rg.relAt_call (by go_simp; exact ⟨rfl, rfl⟩) ?_
    refine (strCompare_any o o' _).mono ?_
    rintro en w'' ⟨rfl, hx⟩
    exact ⟨_, rfl, hx, trivial, rfl⟩
  rintro v ⟨_, _, _, rfl⟩
  (try simp only [Rg4.nrm])
  (refine Rg4.w4_any (Rg4.want_none rfl) rfl ?_; apply Exists.intro; refine ⟨fun w' => ?_, ?_⟩; (focus (first | (go_simp; done) | (go_simp; first | rfl | (rw [if_neg] <;> first | rfl | omega) | (rw [if_pos] <;> first | rfl | omega)))); (try simp only [Rg4.nrm]))
  (refine Rg4.w4_read (Rg4.want_none rfl) rfl rfl ?_; apply Exists.intro; refine ⟨fun w' hw' hcl' => ?_, ?_⟩; focus (have st' := st.ext hw'; have hc' := st'.facts; (try simp only [nfl, nft, Nat.reduceAdd] at hc'); (focus (first | (go_simp; done) | (go_simp; first | rfl | (rw [if_neg] <;> first | rfl | omega) | (rw [if_pos] <;> first | rfl | omega))))); (try simp only [Rg4.nrm]))
  (refine Rg4.w4_any (Rg4.want_none rfl) rfl ?_; apply Exists.intro; refine ⟨fun w' => ?_, ?_⟩; (focus (first | (go_simp; done) | (go_simp; first | rfl | (rw [if_neg] <;> first | rfl | omega) | (rw [if_pos] <;> first | rfl | omega)))); (try simp only [Rg4.nrm]))
  (refine Rg4.w4_read (Rg4.want_none rfl) rfl rfl ?_; apply Exists.intro; refine ⟨fun w' hw' hcl' => ?_, ?_⟩; focus (have st' := st.ext hw'; have hc' := st'.facts; (try simp only [nfl, nft, Nat.reduceAdd] at hc'); (focus (first | (go_simp; done) | (go_simp; first | rfl | (rw [if_neg] <;> first | rfl | omega) | (rw [if_pos] <;> first | rfl | omega))))); (try simp only [Rg4.nrm]))
  refine Rg4.w4_some (Rg4.want_none rfl) rfl (fun w' hw' hcl' _ => ?_) ?_
  · refine Rg.relAt_call (by go_simp; exact ⟨rfl, rfl⟩) ?_
    refine (strCompare_any d d' _).mono ?_
    rintro en w'' ⟨rfl, hx⟩
    exact ⟨_, rfl, hx, trivial, rfl⟩
  rintro v ⟨_, _, _, rfl⟩
  (try simp only [Rg4.nrm])
  (refine Rg4.w4_bar (Rg4.want_none rfl) rfl (fun w' hw' hcl' _ K hK => ?_); replace st := st.ext hw'; (refine owp_buildSlice (o := ⟨some 15, _, _, _, _, _⟩) rfl st ?_; apply Exists.intro; apply Exists.intro; apply Exists.intro; apply Exists.intro; refine ⟨?_, ?_⟩; (focus (go_simp; (first | done | exact ⟨⟨rfl, rfl⟩, rfl⟩ | rfl))); (clear st; intro b15 w hb st; clear hb); (try simp only [nsl, Value.cells, unB] at st); (try clear hc); have hc := st.facts; (try simp only [nfl, nft, Nat.reduceAdd] at hc)); refine hK _ _ ⟨trivial, ?_⟩; (try simp only [Rg4.nrm]))
  refine Rg4.w4_bar (Rg4.want_none rfl) rfl (fun w' hw' hcl _ K hK => ?_)
  replace st := st.ext hw'
  clear hw'
  (try clear hc); have hc := st.facts; (try simp only [nfl, nft, Nat.reduceAdd] at hc)
  go_wp2_with fail
  refine (cmpOr2_any b15 2 _ _ _ hc.2.2.1 hc.2.2.2).mono ?_
  rintro en w ⟨rfl, hx⟩
  replace st := st.ext hx
  clear hx
  (try clear hc); have hc := st.facts; (try simp only [nfl, nft, Nat.reduceAdd] at hc)
  rw [HO.out]
  refine hK _ _ ⟨trivial, ?_⟩
  clear hK
  (try simp only [Rg4.nrm])
  (refine Rg4.w4_any (Rg4.want_none rfl) rfl ?_; apply Exists.intro; refine ⟨fun w' => ?_, ?_⟩; (focus (first | (go_simp; done) | (go_simp; first | rfl | (rw [if_neg] <;> first | rfl | omega) | (rw [if_pos] <;> first | rfl | omega)))); (try simp only [Rg4.nrm]))
  refine Rg4.w4_nil (fun w' hw' hcl' _ => ?_); replace st := st.ext hw'; clear hw' hcl'; (try clear hc); have hc := st.facts; (try simp only [nfl, nft, Nat.reduceAdd] at hc)
  go_wp2_with fail
  go_ret
  exact ⟨rfl, st.ext0⟩
end Go.Proofs.YtekngjkjgmplpaaGreat

namespace Go.Proofs.YtekngjkjgmplpaaGreat
set_option linter.unusedSimpArgs false
set_option linter.unusedVariables false
open Go Go.RowKit
end Go.Proofs.YtekngjkjgmplpaaGreat

namespace Go.Proofs.YtekngjkjgmplpaaGreat
set_option linter.unusedSimpArgs false
set_option linter.unusedVariables false
open Go Go.RowKit
@[irreducible] def roleEq (a b : Role) : Bool := decide (a = b)
theorem roleEq_eq (a b : Role) : roleEq a b = decide (a = b) := by unfold roleEq; rfl
@[go_sem high] theorem eqRole (o d o' d' : List UInt8) (w : World) : (Op.equalIn 10000 45 (.agg #[.string ⟨o.toArray⟩, .string ⟨d.toArray⟩]) (.agg #[.string ⟨o'.toArray⟩, .string ⟨d'.toArray⟩])).run Tryz.prog w = .ok (roleEq (o, d) (o', d')) w := by
  have hS : Tryz.prog.underlying 45 = some (.struct (Tryz.prog.fieldsOf 45)) := by kernel_rfl
  rw [show (10000 : Nat) = 9999 + 1 from rfl, run_equalIn_agg w 9999 45 _ _ hS (by kernel_rfl), roleEq_eq]
  simp only [Program.fieldsOf, Tryz.underlying45]
  go_simp
  by_cases h1 : o = o' <;> by_cases h2 : d = d' <;> simp [h1, h2]
theorem Fl.role {w : World} {a : Option Addr} {n : Nat} {xs : List Role} (h : Fl w a n xs) (h0 : 0 < n) : ∃ b off, a = some ⟨b, off, none⟩ ∧ ∀ j x, xs[j]? = some x → w.cell? ⟨b, off + j * 2, none⟩ = some (S x.1) ∧ w.cell? ⟨b, off + j * 2 + 1, none⟩ = some (S x.2) := by
  obtain ⟨b, off, rfl, hc⟩ := h.2 h0
  exact ⟨b, off, rfl, fun j x hj => ⟨hc j x hj 0 _ rfl, hc j x hj 1 _ rfl⟩⟩
set_option maxRecDepth 100000 in
set_option maxHeartbeats 1000000 in
theorem refRoleSame_any (a : Option Addr) (n c : Nat) (l : List Role) (a' : Option Addr) (n' c' : Nat) (l' : List Role) (W : World) (h : Fl W a n l) (h' : Fl W a' n' l') (hn : n ≤ 9000000000000000000) (hn' : n' ≤ 9000000000000000000) :
    Calls Tryz.prog 25 #[.slice a n c, .slice a' n' c'] W fun e w' => e = .returned (.bool (decide (l = l'))) ∧ Ext W w' := by
  have H := Lib.hid h
  have H' := Lib.hid h'
  have HNL := Lib.hid (And.intro h.1 h'.1)
  clear h h'
  have st := Own.startOld W
  (try simp only [nsl, Value.cells, unB] at st)
  (try clear hc); have hc := st.facts; (try simp only [nfl, nft, Nat.reduceAdd] at hc)
  by_cases hnn : n = n'
  · subst hnn
    go_enter Tryz.func25, Tryz.ntmps25
    go_wp2_with fail
    go_loopw [13] (fun i wr => ∃ (j : Nat), j ≤ n ∧ i = .int .i64 (j : Int) ∧ Hid (l.take j = l'.take j) ∧ Own (fun _ => False) (fun _ => True) W [oldI W] wr) (fun i _ => n - (intOf i).toNat)
    case atStart => exact ⟨0, by omega, rfl, Lib.hid (by simp), st⟩
    case round =>
      obtain ⟨j, hj, rfl, HT, st'⟩ := hrel
      clear st hc
      have st := st'
      clear st'
      (try simp only [nsl, Value.cells, unB] at st)
      (try clear hc); have hc := st.facts; (try simp only [nfl, nft, Nat.reduceAdd] at hc)
      by_cases hjn : j < n
      · obtain ⟨b, off, ha, hcell⟩ := H.out.role (by omega)
        obtain ⟨b', off', ha', hcell'⟩ := H'.out.role (by omega)
        have hjl : j < l.length := by have := HNL.out; omega
        have hjl' : j < l'.length := by have := HNL.out; omega
        have HC := Lib.hid (And.intro (hcell j l[j] (List.getElem?_eq_getElem hjl)) (hcell' j l'[j] (List.getElem?_eq_getElem hjl')))
        have hts : l.take (j + 1) = l.take j ++ [l[j]] := (List.take_append_getElem hjl).symm
        have hts' : l'.take (j + 1) = l'.take j ++ [l'[j]] := (List.take_append_getElem hjl').symm
        have hne : l[j] ≠ l'[j] → l ≠ l' := fun h1 h2 => h1 (by subst h2; rfl)
        clear hcell hcell'
        generalize l[j] = x at *
        generalize l'[j] = y at *
        obtain ⟨o, d⟩ := x
        obtain ⟨o', d'⟩ := y
        have HX := Lib.hid (And.intro hts (And.intro hts' hne))
        clear hts hts' hne
        subst ha
        subst ha'
        simp only at HC
        unfold S at HC
        go_wp2_with fail
        refine Rg4.wp_region4_eq #[0, 0, 3, 7, 0, 0, 48, 112, 255] [] [3, 7] (fun _ => True) [0, 1, 2, 3, 4, 5, 6, 7, 8] (by kernel_rfl) (by kernel_rfl) (by kernel_rfl) (by kernel_rfl) (show Rg4.PB _ by repeat (first | with_reducible exact Rg4.pb_body | with_reducible exact Rg4.pb_bodyD rfl | with_reducible refine Rg4.pb_then ?_ | with_reducible refine Rg4.pb_inBlock ?_ | with_reducible refine Rg4.pb_noGoto ?_)) (trivial) ?_
        replace st := st.drew
        change Rg4.wp4 _ _ _ _ _ _ _ _ _ (World.drew _) _ _
        generalize World.drew _ = w at st ⊢
        (try clear hc); have hc := st.facts; (try simp only [nfl, nft, Nat.reduceAdd] at hc)
        iterate 3 (refine Rg4.w4_any (Rg4.want_none rfl) rfl ?_; apply Exists.intro; refine ⟨fun w' => ?_, ?_⟩; (focus (first | (go_simp; done) | (go_simp; first | rfl | (rw [if_neg] <;> first | rfl | omega) | (rw [if_pos] <;> first | rfl | omega)))); (try simp only [Rg4.nrm]))
        (refine Rg4.w4_read (Rg4.want_none rfl) rfl rfl ?_; apply Exists.intro; refine ⟨fun w' hw' hcl' => ?_, ?_⟩; focus (subst hw'; have r0 := st.oldCell (i := 0) get0 HC.out.1.1; have r1 := st.oldCell (i := 0) get0 HC.out.1.2; have r2 := st.oldCell (i := 0) get0 HC.out.2.1; have r3 := st.oldCell (i := 0) get0 HC.out.2.2; (focus (first | (go_simp; done) | (go_simp; first | rfl | (rw [if_neg] <;> first | rfl | omega) | (rw [if_pos] <;> first | rfl | omega))))); (try simp only [Rg4.nrm]))
        iterate 3 (refine Rg4.w4_any (Rg4.want_none rfl) rfl ?_; apply Exists.intro; refine ⟨fun w' => ?_, ?_⟩; (focus (first | (go_simp; done) | (go_simp; first | rfl | (rw [if_neg] <;> first | rfl | omega) | (rw [if_pos] <;> first | rfl | omega)))); (try simp only [Rg4.nrm]))
        (refine Rg4.w4_read (Rg4.want_none rfl) rfl rfl ?_; apply Exists.intro; refine ⟨fun w' hw' hcl' => ?_, ?_⟩; focus (subst hw'; have r0 := st.oldCell (i := 0) get0 HC.out.1.1; have r1 := st.oldCell (i := 0) get0 HC.out.1.2; have r2 := st.oldCell (i := 0) get0 HC.out.2.1; have r3 := st.oldCell (i := 0) get0 HC.out.2.2; (focus (first | (go_simp; done) | (go_simp; first | rfl | (rw [if_neg] <;> first | rfl | omega) | (rw [if_pos] <;> first | rfl | omega))))); (try simp only [Rg4.nrm]))
        (refine Rg4.w4_any (Rg4.want_none rfl) rfl ?_; apply Exists.intro; refine ⟨fun w' => ?_, ?_⟩; (focus (first | (go_simp; done) | (go_simp; first | rfl | (rw [if_neg] <;> first | rfl | omega) | (rw [if_pos] <;> first | rfl | omega)))); (try simp only [Rg4.nrm]))
        refine Rg4.w4_nil (fun w' hw' hcl' _ => ?_); subst hw'; clear hcl'
        cases hxy : roleEq (o, d) (o', d') with
        | true =>
          have hb : (!true) = false := rfl
          have HF : Hid (l.take (j + 1) = l'.take (j + 1)) := Lib.hid (by rw [roleEq_eq, decide_eq_true_eq] at hxy; rw [HX.out.1, HX.out.2.1, HT.out, hxy])
          clear hxy
          simp only [hb]
          go_wp2_with fail
          exact ⟨⟨j + 1, by omega, by go_num, HF, st⟩, by simp [intOf]; omega⟩
        | false =>
          have hb : (!false) = true := rfl
          have HF : Hid (l ≠ l') := Lib.hid (HX.out.2.2 (by rw [roleEq_eq, decide_eq_false_iff_not] at hxy; exact hxy))
          clear hxy
          simp only [hb]
          go_wp2_with fail
          go_ret
          exact ⟨by rw [decide_eq_false HF.out]; rfl, st.ext0⟩
      · obtain rfl : j = n := by omega
        have HF : Hid (l = l') := Lib.hid (by have := HT.out; rw [List.take_of_length_le (by have := HNL.out; omega), List.take_of_length_le (by have := HNL.out; omega)] at this; exact this)
        go_wp2_with fail
        go_ret
        exact ⟨by rw [decide_eq_true HF.out]; rfl, st.ext0⟩
  · have HF : Hid (l ≠ l') := Lib.hid (fun h => hnn (by rw [HNL.out.1, HNL.out.2, h]))
    go_enter Tryz.func25, Tryz.ntmps25
    go_wp2_with fail
    go_ret
    exact ⟨by rw [decide_eq_false HF.out]; rfl, st.ext0⟩
end Go.Proofs.YtekngjkjgmplpaaGreat

namespace Go.Proofs.YtekngjkjgmplpaaGreat
set_option linter.unusedSimpArgs false
set_option linter.unusedVariables false
open Go Go.RowKit
structure CredT where
  k : Int
  h : Role
  w : List UInt8
  b : Role
  c : Role
  e : List UInt8
deriving DecidableEq, Inhabited
def cC (x : CredT) : List Value := [.int .i64 x.k, S x.h.1, S x.h.2, S x.w, S x.b.1, S x.b.2, S x.c.1, S x.c.2, S x.e]
def cV (x : CredT) : Value := .agg #[.int .i64 x.k, S x.h.1, S x.h.2, S x.w, S x.b.1, S x.b.2, S x.c.1, S x.c.2, S x.e]
instance fltCred : Flt CredT := ⟨9, cC, fun _ => rfl, by decide, fun x u hu => by simp [cC] at hu; rcases hu with rfl | rfl | rfl | rfl | rfl | rfl | rfl | rfl | rfl <;> rfl⟩
@[irreducible] def credEq (a b : CredT) : Bool := decide (a = b)
theorem credEq_eq (a b : CredT) : credEq a b = decide (a = b) := by unfold credEq; rfl
@[go_sem] theorem credEq_self (x : CredT) : credEq x x = true := by rw [credEq_eq]; simp
@[go_sem] theorem roleEq_self' (x : Role) : roleEq x x = true := by rw [roleEq_eq]; simp
theorem iteB (p : Prop) [Decidable p] (b : Bool) (W : World) : (if p then Result.ok b W else Result.ok false W) = Result.ok (decide p && b) W := by
  by_cases h : p <;> simp [h]
@[go_sem high] theorem eqCred (k : Int) (ho hd w bo bd co cd e : List UInt8) (k' : Int) (ho' hd' w' bo' bd' co' cd' e' : List UInt8) (W : World) :
    (Op.equalIn 10000 47 (.agg #[.int .i64 k, .string ⟨ho.toArray⟩, .string ⟨hd.toArray⟩, .string ⟨w.toArray⟩, .string ⟨bo.toArray⟩, .string ⟨bd.toArray⟩, .string ⟨co.toArray⟩, .string ⟨cd.toArray⟩, .string ⟨e.toArray⟩])
      (.agg #[.int .i64 k', .string ⟨ho'.toArray⟩, .string ⟨hd'.toArray⟩, .string ⟨w'.toArray⟩, .string ⟨bo'.toArray⟩, .string ⟨bd'.toArray⟩, .string ⟨co'.toArray⟩, .string ⟨cd'.toArray⟩, .string ⟨e'.toArray⟩])).run Tryz.prog W =
      .ok (credEq ⟨k, (ho, hd), w, (bo, bd), (co, cd), e⟩ ⟨k', (ho', hd'), w', (bo', bd'), (co', cd'), e'⟩) W := by
  have hS : Tryz.prog.underlying 47 = some (.struct (Tryz.prog.fieldsOf 47)) := by kernel_rfl
  rw [show (10000 : Nat) = 9999 + 1 from rfl, run_equalIn_agg W 9999 47 _ _ hS (by kernel_rfl), credEq_eq]
  simp only [Program.fieldsOf, Tryz.underlying47]
  go_simp
  simp only [iteB, Bool.and_true, Bool.and_assoc]
def nR : Role := ([], [])
/-- Which credentials are right. -/
def credR (x : CredT) : Bool := roleR x.h && (if x.k = 1 then nameR x.w && roleEq x.b nR && roleEq x.c nR && (x.e == [])
  else (x.w == []) && roleR x.b && (if x.k = 2 then roleEq x.c nR && (x.e == []) else if x.k = 3 then roleEq x.c nR && (x.b.1 == x.h.1) && nameR x.e else decide (x.k = 4) && (x.e == []) && roleR x.c && roleLt x.b x.c))
set_option maxRecDepth 100000 in
set_option maxHeartbeats 1000000 in
theorem refCredRight_any (x : CredT) (W : World) (hl : x.h.1.length ≤ 1000000 ∧ x.h.2.length ≤ 1000000 ∧ x.w.length ≤ 1000000 ∧ x.b.1.length ≤ 1000000 ∧ x.b.2.length ≤ 1000000 ∧ x.c.1.length ≤ 1000000 ∧ x.c.2.length ≤ 1000000 ∧ x.e.length ≤ 1000000) :
    Calls Tryz.prog 17 #[cV x] W fun e w' => e = .returned (.bool (credR x)) ∧ Ext W w' := by
  obtain ⟨k, ⟨ho, hd⟩, nw, ⟨bo, bd⟩, ⟨co, cd⟩, we⟩ := x
  simp only at hl
  obtain ⟨l1, l2, l3, l4, l5, l6, l7, l8⟩ := hl
  have HRH := Lib.hid (refRoleRight_any (ho, hd))
  have HRB := Lib.hid (refRoleRight_any (bo, bd))
  have HRC := Lib.hid (refRoleRight_any (co, cd))
  have HLT := Lib.hid (refRoleLess_any (bo, bd) (co, cd))
  have st := Own.startOld W
  unfold cV rV S at *
  (try simp only [nsl, Value.cells, unB] at st)
  (try clear hc); have hc := st.facts; (try simp only [nfl, nft, Nat.reduceAdd] at hc)
  go_enter Tryz.func17, Tryz.ntmps17
  go_wp2_with ((first
        | ((with_reducible refine wl_box ?_ (fun K hK => ?_)); rfl; refine owp_box (o := ⟨some 1, _, _, _, _, _⟩) rfl st ?_; apply Exists.intro; refine ⟨?_, ?_⟩; (focus (go_simp; try rfl)); (clear st; intro b1 w hb st; clear hb))
        | ((with_reducible refine wl_alloc ?_ (fun K hK => ?_)); rfl; refine owp_alloc (o := ⟨some 3, _, _, _, _, _⟩) rfl st ?_; apply Exists.intro; apply Exists.intro; refine ⟨?_, ?_⟩; (focus (first | (go_simp; done) | (go_simp; rfl))); (clear st; intro b3 w hb st; clear hb))); (try simp only [nsl, Value.cells, unB] at st); (try clear hc); have hc := st.facts; (try simp only [nfl, nft, Nat.reduceAdd] at hc))
  refine (HRH.out _ (by omega) (by omega)).mono ?_
  rintro en w ⟨rfl, hx⟩
  replace st := st.ext hx
  clear hx
  (try clear hc); have hc := st.facts; (try simp only [nfl, nft, Nat.reduceAdd] at hc)
  cases h1 : roleR (ho, hd) with
  | false =>
    have H1 := Lib.hid h1
    clear h1
    go_wp2_with fail
    go_ret
    exact ⟨by simp [credR, H1.out], st.ext0⟩
  | true =>
    have H1 := Lib.hid h1
    clear h1
    by_cases k1 : k = 1
    · subst k1
      go_wp2_with fail
      refine (refRight_any nw _ (by omega)).mono ?_
      rintro en w ⟨rfl, hx⟩
      replace st := st.ext hx
      clear hx
      (try clear hc); have hc := st.facts; (try simp only [nfl, nft, Nat.reduceAdd] at hc)
      cases h2 : nameR nw with
      | false =>
        have H2 := Lib.hid h2
        clear h2
        go_wp2_with fail
        go_ret
        exact ⟨by simp [credR, H1.out, H2.out], st.ext0⟩
      | true =>
        have H2 := Lib.hid h2
        clear h2
        cases h3 : roleEq (bo, bd) ([], []) with
        | false =>
          go_wp2_with fail
          go_ret
          exact ⟨by simp [credR, nR, H1.out, H2.out, h3], st.ext0⟩
        | true =>
          cases h4 : roleEq (co, cd) ([], []) with
          | false =>
            go_wp2_with fail
            go_ret
            exact ⟨by simp [credR, nR, H1.out, H2.out, h3, h4], st.ext0⟩
          | true =>
            go_wp2_with fail
            go_ret
            exact ⟨by simp [credR, nR, H1.out, H2.out, h3, h4], st.ext0⟩
    · have hk1 : (k == 1) = false := by simpa using k1
      have K1 := Lib.hid k1
      clear k1
      cases h2 : (nw == ([] : List UInt8)) with
      | false =>
        have H2 := Lib.hid h2
        have hb : (!(nw == ([] : List UInt8))) = true := by rw [h2]; rfl
        go_wp2_with fail
        go_ret
        exact ⟨by rw [show credR ⟨k, (ho, hd), nw, (bo, bd), (co, cd), we⟩ = false from by unfold credR; simp only; rw [H1.out, H2.out, if_neg K1.out]; rfl]; rfl, st.ext0⟩
      | true =>
        have H2 := Lib.hid h2
        obtain rfl : nw = [] := by simpa using h2
        clear h2
        go_wp2_with fail
        refine (HRB.out _ (by omega) (by omega)).mono ?_
        rintro en w ⟨rfl, hx⟩
        replace st := st.ext hx
        clear hx
        (try clear hc); have hc := st.facts; (try simp only [nfl, nft, Nat.reduceAdd] at hc)
        cases h3 : roleR (bo, bd) with
        | false =>
          have H3 := Lib.hid h3
          clear h3
          go_wp2_with fail
          go_ret
          exact ⟨by rw [show credR ⟨k, (ho, hd), [], (bo, bd), (co, cd), we⟩ = false from by unfold credR; simp only; rw [H1.out, H2.out, H3.out, if_neg K1.out]; rfl]; rfl, st.ext0⟩
        | true =>
          have H3 := Lib.hid h3
          clear h3
          have HE := Lib.hid (show credR ⟨k, (ho, hd), [], (bo, bd), (co, cd), we⟩ = (if k = 2 then roleEq (co, cd) nR && (we == []) else if k = 3 then roleEq (co, cd) nR && (bo == ho) && nameR we else decide (k = 4) && (we == []) && roleR (co, cd) && roleLt (bo, bd) (co, cd)) from by
            unfold credR; simp only; rw [H1.out, H2.out, H3.out, if_neg K1.out]; simp)
          by_cases k2 : k = 2
          · subst k2
            cases h4 : roleEq (co, cd) ([], []) with
            | false =>
              go_wp2_with fail
              go_ret
              exact ⟨by rw [HE.out]; simp [nR, h4], st.ext0⟩
            | true =>
              go_wp2_with fail
              go_ret
              exact ⟨by rw [HE.out]; simp [nR, h4], st.ext0⟩
          · have hk2 : (k == 2) = false := by simpa using k2
            have K2 := Lib.hid k2
            clear k2
            by_cases k3 : k = 3
            · subst k3
              cases h4 : roleEq (co, cd) ([], []) with
              | false =>
                go_wp2_with fail
                go_ret
                exact ⟨by rw [HE.out]; simp [nR, h4], st.ext0⟩
              | true =>
                have H4 := Lib.hid h4
                cases h5 : (bo == ho) with
                | false =>
                  have H5 := Lib.hid h5
                  go_wp2_with fail
                  go_ret
                  exact ⟨by rw [HE.out, H5.out]; simp, st.ext0⟩
                | true =>
                  have H5 := Lib.hid h5
                  go_wp2_with fail
                  refine (refRight_any we _ (by omega)).mono ?_
                  rintro en w ⟨rfl, hx⟩
                  replace st := st.ext hx
                  clear hx
                  (try clear hc); have hc := st.facts; (try simp only [nfl, nft, Nat.reduceAdd] at hc)
                  go_wp2_with fail
                  go_ret
                  exact ⟨by rw [HE.out, H5.out]; simp [nR, H4.out], st.ext0⟩
            · have hk3 : (k == 3) = false := by simpa using k3
              have K3 := Lib.hid k3
              clear k3
              by_cases k4 : k = 4
              · subst k4
                cases h4 : (we == ([] : List UInt8)) with
                | false =>
                  have H4 := Lib.hid h4
                  go_wp2_with fail
                  go_ret
                  exact ⟨by rw [HE.out, H4.out]; simp, st.ext0⟩
                | true =>
                  have H4 := Lib.hid h4
                  obtain rfl : we = [] := by simpa using h4
                  clear h4
                  go_wp2_with fail
                  refine (HRC.out _ (by omega) (by omega)).mono ?_
                  rintro en w ⟨rfl, hx⟩
                  replace st := st.ext hx
                  clear hx
                  (try clear hc); have hc := st.facts; (try simp only [nfl, nft, Nat.reduceAdd] at hc)
                  cases h5 : roleR (co, cd) with
                  | false =>
                    have H5 := Lib.hid h5
                    clear h5
                    go_wp2_with fail
                    go_ret
                    exact ⟨by rw [HE.out, H4.out, H5.out]; simp, st.ext0⟩
                  | true =>
                    have H5 := Lib.hid h5
                    clear h5
                    go_wp2_with fail
                    refine (HLT.out _).mono ?_
                    rintro en w ⟨rfl, hx⟩
                    replace st := st.ext hx
                    clear hx
                    (try clear hc); have hc := st.facts; (try simp only [nfl, nft, Nat.reduceAdd] at hc)
                    go_wp2_with fail
                    go_ret
                    exact ⟨by rw [HE.out, H4.out, H5.out]; simp, st.ext0⟩
              · have hk4 : (k == 4) = false := by simpa using k4
                have K4 := Lib.hid k4
                clear k4
                go_wp2_with fail
                go_ret
                exact ⟨by rw [HE.out, if_neg K2.out, if_neg K3.out, decide_eq_false K4.out]; simp, st.ext0⟩
end Go.Proofs.YtekngjkjgmplpaaGreat

namespace Go.Proofs.YtekngjkjgmplpaaGreat
set_option linter.unusedSimpArgs false
set_option linter.unusedVariables false
open Go Go.RowKit
theorem roleEq_iff (x y : Role) : roleEq x y = true ↔ x = y := by rw [roleEq_eq]; simp
theorem credEq_iff (x y : CredT) : credEq x y = true ↔ x = y := by rw [credEq_eq]; simp
theorem bnil_iff (x : List UInt8) : (x == []) = true ↔ [] = x := by cases x <;> simp
theorem credEq_1 (k : Int) (h : Role) (w : List UInt8) (b c : Role) (e : List UInt8) : credEq ⟨k, h, w, ([], []), ([], []), []⟩ ⟨k, h, w, b, c, e⟩ = (roleEq b nR && roleEq c nR && (e == [])) := by
  rw [Bool.eq_iff_iff, credEq_iff]
  simp only [Bool.and_eq_true, roleEq_iff, bnil_iff, CredT.mk.injEq, nR, true_and, and_assoc]
  exact ⟨fun ⟨h1, h2, h3⟩ => ⟨h1.symm, h2.symm, h3⟩, fun ⟨h1, h2, h3⟩ => ⟨h1.symm, h2.symm, h3⟩⟩
theorem credEq_2 (k : Int) (h : Role) (w : List UInt8) (b c : Role) (e : List UInt8) : credEq ⟨k, h, [], b, ([], []), []⟩ ⟨k, h, w, b, c, e⟩ = ((w == []) && roleEq c nR && (e == [])) := by
  rw [Bool.eq_iff_iff, credEq_iff]
  simp only [Bool.and_eq_true, roleEq_iff, bnil_iff, CredT.mk.injEq, nR, true_and, and_assoc]
  exact ⟨fun ⟨h1, h2, h3⟩ => ⟨h1, h2.symm, h3⟩, fun ⟨h1, h2, h3⟩ => ⟨h1, h2.symm, h3⟩⟩
theorem credEq_3 (k : Int) (h : Role) (w : List UInt8) (b c : Role) (e : List UInt8) : credEq ⟨k, h, [], b, ([], []), e⟩ ⟨k, h, w, b, c, e⟩ = ((w == []) && roleEq c nR) := by
  rw [Bool.eq_iff_iff, credEq_iff]
  simp only [Bool.and_eq_true, roleEq_iff, bnil_iff, CredT.mk.injEq, nR, true_and, and_true]
  exact ⟨fun ⟨h1, h2⟩ => ⟨h1, h2.symm⟩, fun ⟨h1, h2⟩ => ⟨h1, h2.symm⟩⟩
theorem credEq_4 (k : Int) (h : Role) (w : List UInt8) (b c : Role) (e : List UInt8) : credEq ⟨k, h, [], b, c, []⟩ ⟨k, h, w, b, c, e⟩ = ((w == []) && (e == [])) := by
  rw [Bool.eq_iff_iff, credEq_iff]
  simp only [Bool.and_eq_true, bnil_iff, CredT.mk.injEq, true_and]
theorem roleCmp_neg (x y : Role) : decide (roleCmp x y < 0) = roleLt x y := by
  unfold roleCmp
  cases h : roleLt x y with
  | true => simp
  | false => cases h2 : roleLt y x <;> simp
set_option maxRecDepth 100000 in
set_option maxHeartbeats 1000000 in
theorem credRight_any (x : CredT) (W : World) (hl : x.h.1.length ≤ 100000 ∧ x.h.2.length ≤ 100000 ∧ x.w.length ≤ 100000 ∧ x.b.1.length ≤ 100000 ∧ x.b.2.length ≤ 100000 ∧ x.c.1.length ≤ 100000 ∧ x.c.2.length ≤ 100000 ∧ x.e.length ≤ 100000) :
    Calls Tryz.prog 22 #[cV x] W fun e w' => e = .returned (.bool (credR x)) ∧ Ext W w' := by
  obtain ⟨k, ⟨ho, hd⟩, nw, ⟨bo, bd⟩, ⟨co, cd⟩, we⟩ := x
  simp only at hl
  obtain ⟨l1, l2, l3, l4, l5, l6, l7, l8⟩ := hl
  have HRH := Lib.hid (roleRight_any (ho, hd))
  have HRB := Lib.hid (roleRight_any (bo, bd))
  have HRC := Lib.hid (roleRight_any (co, cd))
  have HLT := Lib.hid (roleCompare_any (bo, bd) (co, cd))
  have st := Own.startOld W
  unfold cV rV S at *
  (try simp only [nsl, Value.cells, unB] at st)
  (try clear hc); have hc := st.facts; (try simp only [nfl, nft, Nat.reduceAdd] at hc)
  go_enter Tryz.func22, Tryz.ntmps22
  go_wp2_with ((first
        | ((with_reducible refine wl_box ?_ (fun K hK => ?_)); rfl; refine owp_box (o := ⟨some 1, _, _, _, _, _⟩) rfl st ?_; apply Exists.intro; refine ⟨?_, ?_⟩; (focus (go_simp; try rfl)); (clear st; intro b1 w hb st; clear hb))
        | ((with_reducible refine wl_alloc ?_ (fun K hK => ?_)); rfl; refine owp_alloc (o := ⟨some 3, _, _, _, _, _⟩) rfl st ?_; apply Exists.intro; apply Exists.intro; refine ⟨?_, ?_⟩; (focus (first | (go_simp; done) | (go_simp; rfl))); (clear st; intro b3 w hb st; clear hb))
        | ((with_reducible refine wl_store ?_ (fun K hK => ?_)); rfl; refine owp_store rfl st ?_; apply Exists.intro; apply Exists.intro; refine ⟨?_, ?_, ?_⟩; (focus (go_simp; try rfl)); (focus (go_simp; try rfl)); (with_reducible refine ⟨2, _, _, _, _, get2, rfl, rfl, ?_, ?_, ?_, ?_⟩); (kernel_rfl); (simp [Value.cells]); (rfl); (clear st; intro w st))); (try simp only [nsl, Value.cells, unB] at st); (try clear hc); have hc := st.facts; (try simp only [nfl, nft, Nat.reduceAdd] at hc))
  refine (HRH.out _ (by omega) (by omega)).mono ?_
  rintro en w ⟨rfl, hx⟩
  replace st := st.ext hx
  clear hx
  (try clear hc); have hc := st.facts; (try simp only [nfl, nft, Nat.reduceAdd] at hc)
  by_cases k1 : k = 1
  · subst k1
    cases h1 : roleR (ho, hd) with
    | false =>
      have H1 := Lib.hid h1
      clear h1
      go_wp2_with fail
      refine Rg4.wp_region4 (Rel := Ext) #[0, 1, 0, 4, 12, 28, 60, 124, 3, 383, 1023]
        [(6, .val (.bool false))] [9] [1, 5] (fun _ => True) [0, 1, 2, 3, 4, 5, 6, 7, 8, 9, 10] (by kernel_rfl) (by kernel_rfl) (by kernel_rfl) (by kernel_rfl) Ext.refl (fun _ _ _ => Ext.trans) (show Rg4.PB _ by repeat (first | with_reducible exact Rg4.pb_body | with_reducible exact Rg4.pb_bodyD rfl | with_reducible refine Rg4.pb_then ?_ | with_reducible refine Rg4.pb_inBlock ?_ | with_reducible refine Rg4.pb_noGoto ?_)) (trivial) ?_
      replace st := st.drew
      change Rg4.wp4 _ _ _ _ _ _ _ _ _ (World.drew _) _ _
      generalize World.drew _ = w at st ⊢
      (try clear hc); have hc := st.facts; (try simp only [nfl, nft, Nat.reduceAdd] at hc)
      (refine Rg4.w4_any (Rg4.want_none rfl) rfl ?_; apply Exists.intro; refine ⟨fun w' => ?_, ?_⟩; (focus (first | (go_simp; done) | (go_simp; first | rfl | (rw [if_neg] <;> first | rfl | omega) | (rw [if_pos] <;> first | rfl | omega)))); (try simp only [Rg4.nrm]))
      (refine Rg4.w4_read (Rg4.want_none rfl) rfl rfl ?_; apply Exists.intro; refine ⟨fun w' hw' hcl' => ?_, ?_⟩; focus (have st' := st.ext hw'; have hc' := st'.facts; (try simp only [nfl, nft, Nat.reduceAdd] at hc'); (focus (first | (go_simp; done) | (go_simp; first | rfl | (rw [if_neg] <;> first | rfl | omega) | (rw [if_pos] <;> first | rfl | omega))))); (try simp only [Rg4.nrm]))
      iterate 2 (refine Rg4.w4_any (Rg4.want_none rfl) rfl ?_; apply Exists.intro; refine ⟨fun w' => ?_, ?_⟩; (focus (first | (go_simp; done) | (go_simp; first | rfl | (rw [if_neg] <;> first | rfl | omega) | (rw [if_pos] <;> first | rfl | omega)))); (try simp only [Rg4.nrm]))
      (first | (refine Rg4.w4_any (Rg4.wt rfl rfl rfl) rfl ?_; apply Exists.intro; refine ⟨fun w' => ?_, ?_⟩; (focus (first | (go_simp; done) | (go_simp; first | rfl | (rw [if_neg] <;> first | rfl | omega) | (rw [if_pos] <;> first | rfl | omega)))); (try simp only [Rg4.nrm])) | (refine Rg4.w4_skip (Rg4.uw rfl rfl rfl) ?_; (try simp only [Rg4.nrm])) | (refine Rg4.w4_skip (Rg4.un rfl rfl rfl) ?_; (try simp only [Rg4.nrm])))
      (first | (refine Rg4.w4_read (Rg4.wt rfl rfl rfl) rfl rfl ?_; apply Exists.intro; refine ⟨fun w' hw' hcl' => ?_, ?_⟩; focus (have st' := st.ext hw'; have hc' := st'.facts; (try simp only [nfl, nft, Nat.reduceAdd] at hc'); (focus (first | (go_simp; done) | (go_simp; first | rfl | (rw [if_neg] <;> first | rfl | omega) | (rw [if_pos] <;> first | rfl | omega))))); (try simp only [Rg4.nrm])) | (refine Rg4.w4_skip (Rg4.uw rfl rfl rfl) ?_; (try simp only [Rg4.nrm])) | (refine Rg4.w4_skip (Rg4.un rfl rfl rfl) ?_; (try simp only [Rg4.nrm])))
      first | refine Rg4.w4_skip (Rg4.uw rfl rfl rfl) ?_ | refine Rg4.w4_skip (Rg4.un rfl rfl rfl) ?_
      (try simp only [Rg4.nrm])
      iterate 2 (refine Rg4.w4_any (Rg4.want_none rfl) rfl ?_; apply Exists.intro; refine ⟨fun w' => ?_, ?_⟩; (focus (first | (go_simp; done) | (go_simp; first | rfl | (rw [if_neg] <;> first | rfl | omega) | (rw [if_pos] <;> first | rfl | omega)))); (try simp only [Rg4.nrm]))
      (refine Rg4.w4_bar (Rg4.want_none rfl) rfl (fun w' hw' hcl' _ K hK => ?_); replace st := st.ext hw'; (refine owp_store rfl st ?_; apply Exists.intro; apply Exists.intro; refine ⟨?_, ?_, ?_⟩; (focus (go_simp; try rfl)); (focus (go_simp; try rfl)); (with_reducible refine ⟨2, _, _, _, _, get2, rfl, rfl, ?_, ?_, ?_, ?_⟩); (kernel_rfl); (simp [Value.cells]); (rfl); (clear st; intro w st); (try simp only [nsl, Value.cells, unB] at st); (try clear hc); have hc := st.facts; (try simp only [nfl, nft, Nat.reduceAdd] at hc)); refine hK _ _ ⟨trivial, ?_⟩; (try simp only [Rg4.nrm]))
      (refine Rg4.w4_any (Rg4.want_none rfl) rfl ?_; apply Exists.intro; refine ⟨fun w' => ?_, ?_⟩; (focus (first | (go_simp; done) | (go_simp; first | rfl | (rw [if_neg] <;> first | rfl | omega) | (rw [if_pos] <;> first | rfl | omega)))); (try simp only [Rg4.nrm]))
      refine Rg4.w4_nil (fun w' hw' hcl' _ => ?_); replace st := st.ext hw'; clear hw' hcl'; (try clear hc); have hc := st.facts; (try simp only [nfl, nft, Nat.reduceAdd] at hc)
      go_wp2_with fail
      go_ret
      exact ⟨by simp [credR, H1.out], st.ext0⟩
    | true =>
      have H1 := Lib.hid h1
      clear h1
      cases h2 : nameR nw with
      | false =>
        have H2 := Lib.hid h2
        clear h2
        go_wp2_with fail
        refine Rg4.wp_region4 (Rel := Ext) #[0, 1, 0, 4, 12, 28, 60, 124, 3, 383, 1023]
          [(6, .val (.bool false))] [9] [1, 5] (fun _ => True) [0, 1, 2, 3, 4, 5, 6, 7, 8, 9, 10] (by kernel_rfl) (by kernel_rfl) (by kernel_rfl) (by kernel_rfl) Ext.refl (fun _ _ _ => Ext.trans) (show Rg4.PB _ by repeat (first | with_reducible exact Rg4.pb_body | with_reducible exact Rg4.pb_bodyD rfl | with_reducible refine Rg4.pb_then ?_ | with_reducible refine Rg4.pb_inBlock ?_ | with_reducible refine Rg4.pb_noGoto ?_)) (trivial) ?_
        replace st := st.drew
        change Rg4.wp4 _ _ _ _ _ _ _ _ _ (World.drew _) _ _
        generalize World.drew _ = w at st ⊢
        (try clear hc); have hc := st.facts; (try simp only [nfl, nft, Nat.reduceAdd] at hc)
        (refine Rg4.w4_any (Rg4.want_none rfl) rfl ?_; apply Exists.intro; refine ⟨fun w' => ?_, ?_⟩; (focus (first | (go_simp; done) | (go_simp; first | rfl | (rw [if_neg] <;> first | rfl | omega) | (rw [if_pos] <;> first | rfl | omega)))); (try simp only [Rg4.nrm]))
        (refine Rg4.w4_read (Rg4.want_none rfl) rfl rfl ?_; apply Exists.intro; refine ⟨fun w' hw' hcl' => ?_, ?_⟩; focus (have st' := st.ext hw'; have hc' := st'.facts; (try simp only [nfl, nft, Nat.reduceAdd] at hc'); (focus (first | (go_simp; done) | (go_simp; first | rfl | (rw [if_neg] <;> first | rfl | omega) | (rw [if_pos] <;> first | rfl | omega))))); (try simp only [Rg4.nrm]))
        iterate 2 (refine Rg4.w4_any (Rg4.want_none rfl) rfl ?_; apply Exists.intro; refine ⟨fun w' => ?_, ?_⟩; (focus (first | (go_simp; done) | (go_simp; first | rfl | (rw [if_neg] <;> first | rfl | omega) | (rw [if_pos] <;> first | rfl | omega)))); (try simp only [Rg4.nrm]))
        (first | (refine Rg4.w4_any (Rg4.wt rfl rfl rfl) rfl ?_; apply Exists.intro; refine ⟨fun w' => ?_, ?_⟩; (focus (first | (go_simp; done) | (go_simp; first | rfl | (rw [if_neg] <;> first | rfl | omega) | (rw [if_pos] <;> first | rfl | omega)))); (try simp only [Rg4.nrm])) | (refine Rg4.w4_skip (Rg4.uw rfl rfl rfl) ?_; (try simp only [Rg4.nrm])) | (refine Rg4.w4_skip (Rg4.un rfl rfl rfl) ?_; (try simp only [Rg4.nrm])))
        (first | (refine Rg4.w4_read (Rg4.wt rfl rfl rfl) rfl rfl ?_; apply Exists.intro; refine ⟨fun w' hw' hcl' => ?_, ?_⟩; focus (have st' := st.ext hw'; have hc' := st'.facts; (try simp only [nfl, nft, Nat.reduceAdd] at hc'); (focus (first | (go_simp; done) | (go_simp; first | rfl | (rw [if_neg] <;> first | rfl | omega) | (rw [if_pos] <;> first | rfl | omega))))); (try simp only [Rg4.nrm])) | (refine Rg4.w4_skip (Rg4.uw rfl rfl rfl) ?_; (try simp only [Rg4.nrm])) | (refine Rg4.w4_skip (Rg4.un rfl rfl rfl) ?_; (try simp only [Rg4.nrm])))
        refine Rg4.w4_some (Rg4.want_of 3 20 true rfl rfl rfl) rfl (fun w' hw' hcl' _ => ?_) ?_
        · refine Rg.relAt_call (by go_simp; exact ⟨rfl, rfl⟩) ?_
          refine (right_any nw _ (by omega)).mono ?_
          rintro en w'' ⟨rfl, hx⟩
          exact ⟨_, by rw [H2.out], hx, trivial, rfl⟩
        rintro v ⟨_, _, _, rfl⟩
        (try simp only [Rg4.nrm])
        iterate 2 (refine Rg4.w4_any (Rg4.want_none rfl) rfl ?_; apply Exists.intro; refine ⟨fun w' => ?_, ?_⟩; (focus (first | (go_simp; done) | (go_simp; first | rfl | (rw [if_neg] <;> first | rfl | omega) | (rw [if_pos] <;> first | rfl | omega)))); (try simp only [Rg4.nrm]))
        (refine Rg4.w4_bar (Rg4.want_none rfl) rfl (fun w' hw' hcl' _ K hK => ?_); replace st := st.ext hw'; (refine owp_store rfl st ?_; apply Exists.intro; apply Exists.intro; refine ⟨?_, ?_, ?_⟩; (focus (go_simp; try rfl)); (focus (go_simp; try rfl)); (with_reducible refine ⟨2, _, _, _, _, get2, rfl, rfl, ?_, ?_, ?_, ?_⟩); (kernel_rfl); (simp [Value.cells]); (rfl); (clear st; intro w st); (try simp only [nsl, Value.cells, unB] at st); (try clear hc); have hc := st.facts; (try simp only [nfl, nft, Nat.reduceAdd] at hc)); refine hK _ _ ⟨trivial, ?_⟩; (try simp only [Rg4.nrm]))
        (refine Rg4.w4_any (Rg4.want_none rfl) rfl ?_; apply Exists.intro; refine ⟨fun w' => ?_, ?_⟩; (focus (first | (go_simp; done) | (go_simp; first | rfl | (rw [if_neg] <;> first | rfl | omega) | (rw [if_pos] <;> first | rfl | omega)))); (try simp only [Rg4.nrm]))
        refine Rg4.w4_nil (fun w' hw' hcl' _ => ?_); replace st := st.ext hw'; clear hw' hcl'; (try clear hc); have hc := st.facts; (try simp only [nfl, nft, Nat.reduceAdd] at hc)
        go_wp2_with fail
        go_ret
        exact ⟨by simp [credR, H1.out, H2.out], st.ext0⟩
      | true =>
        have H2 := Lib.hid h2
        clear h2
        go_wp2_with fail
        refine Rg4.wp_region4 (Rel := Ext) #[0, 1, 0, 4, 12, 28, 60, 124, 3, 383, 1023]
          [(6, .val (.bool true))] [9] [1, 5] (fun _ => True) [0, 1, 2, 3, 4, 5, 6, 7, 8, 9, 10] (by kernel_rfl) (by kernel_rfl) (by kernel_rfl) (by kernel_rfl) Ext.refl (fun _ _ _ => Ext.trans) (show Rg4.PB _ by repeat (first | with_reducible exact Rg4.pb_body | with_reducible exact Rg4.pb_bodyD rfl | with_reducible refine Rg4.pb_then ?_ | with_reducible refine Rg4.pb_inBlock ?_ | with_reducible refine Rg4.pb_noGoto ?_)) (trivial) ?_
        replace st := st.drew
        change Rg4.wp4 _ _ _ _ _ _ _ _ _ (World.drew _) _ _
        generalize World.drew _ = w at st ⊢
        (try clear hc); have hc := st.facts; (try simp only [nfl, nft, Nat.reduceAdd] at hc)
        (refine Rg4.w4_any (Rg4.want_none rfl) rfl ?_; apply Exists.intro; refine ⟨fun w' => ?_, ?_⟩; (focus (first | (go_simp; done) | (go_simp; first | rfl | (rw [if_neg] <;> first | rfl | omega) | (rw [if_pos] <;> first | rfl | omega)))); (try simp only [Rg4.nrm]))
        (refine Rg4.w4_read (Rg4.want_none rfl) rfl rfl ?_; apply Exists.intro; refine ⟨fun w' hw' hcl' => ?_, ?_⟩; focus (have st' := st.ext hw'; have hc' := st'.facts; (try simp only [nfl, nft, Nat.reduceAdd] at hc'); (focus (first | (go_simp; done) | (go_simp; first | rfl | (rw [if_neg] <;> first | rfl | omega) | (rw [if_pos] <;> first | rfl | omega))))); (try simp only [Rg4.nrm]))
        iterate 2 (refine Rg4.w4_any (Rg4.want_none rfl) rfl ?_; apply Exists.intro; refine ⟨fun w' => ?_, ?_⟩; (focus (first | (go_simp; done) | (go_simp; first | rfl | (rw [if_neg] <;> first | rfl | omega) | (rw [if_pos] <;> first | rfl | omega)))); (try simp only [Rg4.nrm]))
        (first | (refine Rg4.w4_any (Rg4.wt rfl rfl rfl) rfl ?_; apply Exists.intro; refine ⟨fun w' => ?_, ?_⟩; (focus (first | (go_simp; done) | (go_simp; first | rfl | (rw [if_neg] <;> first | rfl | omega) | (rw [if_pos] <;> first | rfl | omega)))); (try simp only [Rg4.nrm])) | (refine Rg4.w4_skip (Rg4.uw rfl rfl rfl) ?_; (try simp only [Rg4.nrm])) | (refine Rg4.w4_skip (Rg4.un rfl rfl rfl) ?_; (try simp only [Rg4.nrm])))
        (first | (refine Rg4.w4_read (Rg4.wt rfl rfl rfl) rfl rfl ?_; apply Exists.intro; refine ⟨fun w' hw' hcl' => ?_, ?_⟩; focus (have st' := st.ext hw'; have hc' := st'.facts; (try simp only [nfl, nft, Nat.reduceAdd] at hc'); (focus (first | (go_simp; done) | (go_simp; first | rfl | (rw [if_neg] <;> first | rfl | omega) | (rw [if_pos] <;> first | rfl | omega))))); (try simp only [Rg4.nrm])) | (refine Rg4.w4_skip (Rg4.uw rfl rfl rfl) ?_; (try simp only [Rg4.nrm])) | (refine Rg4.w4_skip (Rg4.un rfl rfl rfl) ?_; (try simp only [Rg4.nrm])))
        refine Rg4.w4_some (Rg4.want_of 3 20 true rfl rfl rfl) rfl (fun w' hw' hcl' _ => ?_) ?_
        · refine Rg.relAt_call (by go_simp; exact ⟨rfl, rfl⟩) ?_
          refine (right_any nw _ (by omega)).mono ?_
          rintro en w'' ⟨rfl, hx⟩
          exact ⟨_, by rw [H2.out], hx, trivial, rfl⟩
        rintro v ⟨_, _, _, rfl⟩
        (try simp only [Rg4.nrm])
        iterate 2 (refine Rg4.w4_any (Rg4.want_none rfl) rfl ?_; apply Exists.intro; refine ⟨fun w' => ?_, ?_⟩; (focus (first | (go_simp; done) | (go_simp; first | rfl | (rw [if_neg] <;> first | rfl | omega) | (rw [if_pos] <;> first | rfl | omega)))); (try simp only [Rg4.nrm]))
        (refine Rg4.w4_bar (Rg4.want_none rfl) rfl (fun w' hw' hcl' _ K hK => ?_); replace st := st.ext hw'; (refine owp_store rfl st ?_; apply Exists.intro; apply Exists.intro; refine ⟨?_, ?_, ?_⟩; (focus (go_simp; try rfl)); (focus (go_simp; try rfl)); (with_reducible refine ⟨2, _, _, _, _, get2, rfl, rfl, ?_, ?_, ?_, ?_⟩); (kernel_rfl); (simp [Value.cells]); (rfl); (clear st; intro w st); (try simp only [nsl, Value.cells, unB] at st); (try clear hc); have hc := st.facts; (try simp only [nfl, nft, Nat.reduceAdd] at hc)); refine hK _ _ ⟨trivial, ?_⟩; (try simp only [Rg4.nrm]))
        (refine Rg4.w4_any (Rg4.want_none rfl) rfl ?_; apply Exists.intro; refine ⟨fun w' => ?_, ?_⟩; (focus (first | (go_simp; done) | (go_simp; first | rfl | (rw [if_neg] <;> first | rfl | omega) | (rw [if_pos] <;> first | rfl | omega)))); (try simp only [Rg4.nrm]))
        refine Rg4.w4_nil (fun w' hw' hcl' _ => ?_); replace st := st.ext hw'; clear hw' hcl'; (try clear hc); have hc := st.facts; (try simp only [nfl, nft, Nat.reduceAdd] at hc)
        go_wp2_with fail
        go_ret
        exact ⟨by show Ending.returned (Value.bool (credEq _ _)) = _; rw [credEq_1]; simp [credR, H1.out, H2.out], st.ext0⟩
  · have hk1 : (k == 1) = false := by simpa using k1
    have K1 := Lib.hid k1
    clear k1
    by_cases k2 : k = 2
    · subst k2
      cases h1 : roleR (ho, hd) with
      | false =>
        have H1 := Lib.hid h1
        clear h1
        go_wp2_with fail
        refine Rg4.wp_region4 (Rel := Ext) #[0, 1, 0, 4, 12, 28, 60, 124, 3, 383, 1023]
          [(6, .val (.bool false))] [9] [1, 5] (fun _ => True) [0, 1, 2, 3, 4, 5, 6, 7, 8, 9, 10] (by kernel_rfl) (by kernel_rfl) (by kernel_rfl) (by kernel_rfl) Ext.refl (fun _ _ _ => Ext.trans) (show Rg4.PB _ by repeat (first | with_reducible exact Rg4.pb_body | with_reducible exact Rg4.pb_bodyD rfl | with_reducible refine Rg4.pb_then ?_ | with_reducible refine Rg4.pb_inBlock ?_ | with_reducible refine Rg4.pb_noGoto ?_)) (trivial) ?_
        replace st := st.drew
        change Rg4.wp4 _ _ _ _ _ _ _ _ _ (World.drew _) _ _
        generalize World.drew _ = w at st ⊢
        (try clear hc); have hc := st.facts; (try simp only [nfl, nft, Nat.reduceAdd] at hc)
        (refine Rg4.w4_any (Rg4.want_none rfl) rfl ?_; apply Exists.intro; refine ⟨fun w' => ?_, ?_⟩; (focus (first | (go_simp; done) | (go_simp; first | rfl | (rw [if_neg] <;> first | rfl | omega) | (rw [if_pos] <;> first | rfl | omega)))); (try simp only [Rg4.nrm]))
        (refine Rg4.w4_read (Rg4.want_none rfl) rfl rfl ?_; apply Exists.intro; refine ⟨fun w' hw' hcl' => ?_, ?_⟩; focus (have st' := st.ext hw'; have hc' := st'.facts; (try simp only [nfl, nft, Nat.reduceAdd] at hc'); (focus (first | (go_simp; done) | (go_simp; first | rfl | (rw [if_neg] <;> first | rfl | omega) | (rw [if_pos] <;> first | rfl | omega))))); (try simp only [Rg4.nrm]))
        iterate 2 (refine Rg4.w4_any (Rg4.want_none rfl) rfl ?_; apply Exists.intro; refine ⟨fun w' => ?_, ?_⟩; (focus (first | (go_simp; done) | (go_simp; first | rfl | (rw [if_neg] <;> first | rfl | omega) | (rw [if_pos] <;> first | rfl | omega)))); (try simp only [Rg4.nrm]))
        (first | (refine Rg4.w4_any (Rg4.wt rfl rfl rfl) rfl ?_; apply Exists.intro; refine ⟨fun w' => ?_, ?_⟩; (focus (first | (go_simp; done) | (go_simp; first | rfl | (rw [if_neg] <;> first | rfl | omega) | (rw [if_pos] <;> first | rfl | omega)))); (try simp only [Rg4.nrm])) | (refine Rg4.w4_skip (Rg4.uw rfl rfl rfl) ?_; (try simp only [Rg4.nrm])) | (refine Rg4.w4_skip (Rg4.un rfl rfl rfl) ?_; (try simp only [Rg4.nrm])))
        (first | (refine Rg4.w4_read (Rg4.wt rfl rfl rfl) rfl rfl ?_; apply Exists.intro; refine ⟨fun w' hw' hcl' => ?_, ?_⟩; focus (have st' := st.ext hw'; have hc' := st'.facts; (try simp only [nfl, nft, Nat.reduceAdd] at hc'); (focus (first | (go_simp; done) | (go_simp; first | rfl | (rw [if_neg] <;> first | rfl | omega) | (rw [if_pos] <;> first | rfl | omega))))); (try simp only [Rg4.nrm])) | (refine Rg4.w4_skip (Rg4.uw rfl rfl rfl) ?_; (try simp only [Rg4.nrm])) | (refine Rg4.w4_skip (Rg4.un rfl rfl rfl) ?_; (try simp only [Rg4.nrm])))
        first | refine Rg4.w4_skip (Rg4.uw rfl rfl rfl) ?_ | refine Rg4.w4_skip (Rg4.un rfl rfl rfl) ?_
        (try simp only [Rg4.nrm])
        iterate 2 (refine Rg4.w4_any (Rg4.want_none rfl) rfl ?_; apply Exists.intro; refine ⟨fun w' => ?_, ?_⟩; (focus (first | (go_simp; done) | (go_simp; first | rfl | (rw [if_neg] <;> first | rfl | omega) | (rw [if_pos] <;> first | rfl | omega)))); (try simp only [Rg4.nrm]))
        (refine Rg4.w4_bar (Rg4.want_none rfl) rfl (fun w' hw' hcl' _ K hK => ?_); replace st := st.ext hw'; (refine owp_store rfl st ?_; apply Exists.intro; apply Exists.intro; refine ⟨?_, ?_, ?_⟩; (focus (go_simp; try rfl)); (focus (go_simp; try rfl)); (with_reducible refine ⟨2, _, _, _, _, get2, rfl, rfl, ?_, ?_, ?_, ?_⟩); (kernel_rfl); (simp [Value.cells]); (rfl); (clear st; intro w st); (try simp only [nsl, Value.cells, unB] at st); (try clear hc); have hc := st.facts; (try simp only [nfl, nft, Nat.reduceAdd] at hc)); refine hK _ _ ⟨trivial, ?_⟩; (try simp only [Rg4.nrm]))
        (refine Rg4.w4_any (Rg4.want_none rfl) rfl ?_; apply Exists.intro; refine ⟨fun w' => ?_, ?_⟩; (focus (first | (go_simp; done) | (go_simp; first | rfl | (rw [if_neg] <;> first | rfl | omega) | (rw [if_pos] <;> first | rfl | omega)))); (try simp only [Rg4.nrm]))
        refine Rg4.w4_nil (fun w' hw' hcl' _ => ?_); replace st := st.ext hw'; clear hw' hcl'; (try clear hc); have hc := st.facts; (try simp only [nfl, nft, Nat.reduceAdd] at hc)
        go_wp2_with fail
        go_ret
        exact ⟨by simp [credR, H1.out], st.ext0⟩
      | true =>
        have H1 := Lib.hid h1
        clear h1
        cases h2 : roleR (bo, bd) with
        | false =>
          have H2 := Lib.hid h2
          clear h2
          go_wp2_with fail
          refine Rg4.wp_region4 (Rel := Ext) #[0, 1, 0, 4, 12, 28, 60, 124, 3, 383, 1023]
            [(6, .val (.bool false))] [9] [1, 5] (fun _ => True) [0, 1, 2, 3, 4, 5, 6, 7, 8, 9, 10] (by kernel_rfl) (by kernel_rfl) (by kernel_rfl) (by kernel_rfl) Ext.refl (fun _ _ _ => Ext.trans) (show Rg4.PB _ by repeat (first | with_reducible exact Rg4.pb_body | with_reducible exact Rg4.pb_bodyD rfl | with_reducible refine Rg4.pb_then ?_ | with_reducible refine Rg4.pb_inBlock ?_ | with_reducible refine Rg4.pb_noGoto ?_)) (trivial) ?_
          replace st := st.drew
          change Rg4.wp4 _ _ _ _ _ _ _ _ _ (World.drew _) _ _
          generalize World.drew _ = w at st ⊢
          (try clear hc); have hc := st.facts; (try simp only [nfl, nft, Nat.reduceAdd] at hc)
          (refine Rg4.w4_any (Rg4.want_none rfl) rfl ?_; apply Exists.intro; refine ⟨fun w' => ?_, ?_⟩; (focus (first | (go_simp; done) | (go_simp; first | rfl | (rw [if_neg] <;> first | rfl | omega) | (rw [if_pos] <;> first | rfl | omega)))); (try simp only [Rg4.nrm]))
          (refine Rg4.w4_read (Rg4.want_none rfl) rfl rfl ?_; apply Exists.intro; refine ⟨fun w' hw' hcl' => ?_, ?_⟩; focus (have st' := st.ext hw'; have hc' := st'.facts; (try simp only [nfl, nft, Nat.reduceAdd] at hc'); (focus (first | (go_simp; done) | (go_simp; first | rfl | (rw [if_neg] <;> first | rfl | omega) | (rw [if_pos] <;> first | rfl | omega))))); (try simp only [Rg4.nrm]))
          iterate 2 (refine Rg4.w4_any (Rg4.want_none rfl) rfl ?_; apply Exists.intro; refine ⟨fun w' => ?_, ?_⟩; (focus (first | (go_simp; done) | (go_simp; first | rfl | (rw [if_neg] <;> first | rfl | omega) | (rw [if_pos] <;> first | rfl | omega)))); (try simp only [Rg4.nrm]))
          (first | (refine Rg4.w4_any (Rg4.wt rfl rfl rfl) rfl ?_; apply Exists.intro; refine ⟨fun w' => ?_, ?_⟩; (focus (first | (go_simp; done) | (go_simp; first | rfl | (rw [if_neg] <;> first | rfl | omega) | (rw [if_pos] <;> first | rfl | omega)))); (try simp only [Rg4.nrm])) | (refine Rg4.w4_skip (Rg4.uw rfl rfl rfl) ?_; (try simp only [Rg4.nrm])) | (refine Rg4.w4_skip (Rg4.un rfl rfl rfl) ?_; (try simp only [Rg4.nrm])))
          (first | (refine Rg4.w4_read (Rg4.wt rfl rfl rfl) rfl rfl ?_; apply Exists.intro; refine ⟨fun w' hw' hcl' => ?_, ?_⟩; focus (have st' := st.ext hw'; have hc' := st'.facts; (try simp only [nfl, nft, Nat.reduceAdd] at hc'); (focus (first | (go_simp; done) | (go_simp; first | rfl | (rw [if_neg] <;> first | rfl | omega) | (rw [if_pos] <;> first | rfl | omega))))); (try simp only [Rg4.nrm])) | (refine Rg4.w4_skip (Rg4.uw rfl rfl rfl) ?_; (try simp only [Rg4.nrm])) | (refine Rg4.w4_skip (Rg4.un rfl rfl rfl) ?_; (try simp only [Rg4.nrm])))
          refine Rg4.w4_some (Rg4.want_of 3 31 true rfl rfl rfl) rfl (fun w' hw' hcl' _ => ?_) ?_
          · refine Rg.relAt_call (by go_simp; exact ⟨rfl, rfl⟩) ?_
            refine (HRB.out _ (by omega) (by omega)).mono ?_
            rintro en w'' ⟨rfl, hx⟩
            exact ⟨_, by rw [H2.out], hx, trivial, rfl⟩
          rintro v ⟨_, _, _, rfl⟩
          (try simp only [Rg4.nrm])
          iterate 2 (refine Rg4.w4_any (Rg4.want_none rfl) rfl ?_; apply Exists.intro; refine ⟨fun w' => ?_, ?_⟩; (focus (first | (go_simp; done) | (go_simp; first | rfl | (rw [if_neg] <;> first | rfl | omega) | (rw [if_pos] <;> first | rfl | omega)))); (try simp only [Rg4.nrm]))
          (refine Rg4.w4_bar (Rg4.want_none rfl) rfl (fun w' hw' hcl' _ K hK => ?_); replace st := st.ext hw'; (refine owp_store rfl st ?_; apply Exists.intro; apply Exists.intro; refine ⟨?_, ?_, ?_⟩; (focus (go_simp; try rfl)); (focus (go_simp; try rfl)); (with_reducible refine ⟨2, _, _, _, _, get2, rfl, rfl, ?_, ?_, ?_, ?_⟩); (kernel_rfl); (simp [Value.cells]); (rfl); (clear st; intro w st); (try simp only [nsl, Value.cells, unB] at st); (try clear hc); have hc := st.facts; (try simp only [nfl, nft, Nat.reduceAdd] at hc)); refine hK _ _ ⟨trivial, ?_⟩; (try simp only [Rg4.nrm]))
          (refine Rg4.w4_any (Rg4.want_none rfl) rfl ?_; apply Exists.intro; refine ⟨fun w' => ?_, ?_⟩; (focus (first | (go_simp; done) | (go_simp; first | rfl | (rw [if_neg] <;> first | rfl | omega) | (rw [if_pos] <;> first | rfl | omega)))); (try simp only [Rg4.nrm]))
          refine Rg4.w4_nil (fun w' hw' hcl' _ => ?_); replace st := st.ext hw'; clear hw' hcl'; (try clear hc); have hc := st.facts; (try simp only [nfl, nft, Nat.reduceAdd] at hc)
          go_wp2_with fail
          go_ret
          exact ⟨by simp [credR, H1.out, H2.out], st.ext0⟩
        | true =>
          have H2 := Lib.hid h2
          clear h2
          go_wp2_with fail
          refine Rg4.wp_region4 (Rel := Ext) #[0, 1, 0, 4, 12, 28, 60, 124, 3, 383, 1023]
            [(6, .val (.bool true))] [9] [1, 5] (fun _ => True) [0, 1, 2, 3, 4, 5, 6, 7, 8, 9, 10] (by kernel_rfl) (by kernel_rfl) (by kernel_rfl) (by kernel_rfl) Ext.refl (fun _ _ _ => Ext.trans) (show Rg4.PB _ by repeat (first | with_reducible exact Rg4.pb_body | with_reducible exact Rg4.pb_bodyD rfl | with_reducible refine Rg4.pb_then ?_ | with_reducible refine Rg4.pb_inBlock ?_ | with_reducible refine Rg4.pb_noGoto ?_)) (trivial) ?_
          replace st := st.drew
          change Rg4.wp4 _ _ _ _ _ _ _ _ _ (World.drew _) _ _
          generalize World.drew _ = w at st ⊢
          (try clear hc); have hc := st.facts; (try simp only [nfl, nft, Nat.reduceAdd] at hc)
          (refine Rg4.w4_any (Rg4.want_none rfl) rfl ?_; apply Exists.intro; refine ⟨fun w' => ?_, ?_⟩; (focus (first | (go_simp; done) | (go_simp; first | rfl | (rw [if_neg] <;> first | rfl | omega) | (rw [if_pos] <;> first | rfl | omega)))); (try simp only [Rg4.nrm]))
          (refine Rg4.w4_read (Rg4.want_none rfl) rfl rfl ?_; apply Exists.intro; refine ⟨fun w' hw' hcl' => ?_, ?_⟩; focus (have st' := st.ext hw'; have hc' := st'.facts; (try simp only [nfl, nft, Nat.reduceAdd] at hc'); (focus (first | (go_simp; done) | (go_simp; first | rfl | (rw [if_neg] <;> first | rfl | omega) | (rw [if_pos] <;> first | rfl | omega))))); (try simp only [Rg4.nrm]))
          iterate 2 (refine Rg4.w4_any (Rg4.want_none rfl) rfl ?_; apply Exists.intro; refine ⟨fun w' => ?_, ?_⟩; (focus (first | (go_simp; done) | (go_simp; first | rfl | (rw [if_neg] <;> first | rfl | omega) | (rw [if_pos] <;> first | rfl | omega)))); (try simp only [Rg4.nrm]))
          (first | (refine Rg4.w4_any (Rg4.wt rfl rfl rfl) rfl ?_; apply Exists.intro; refine ⟨fun w' => ?_, ?_⟩; (focus (first | (go_simp; done) | (go_simp; first | rfl | (rw [if_neg] <;> first | rfl | omega) | (rw [if_pos] <;> first | rfl | omega)))); (try simp only [Rg4.nrm])) | (refine Rg4.w4_skip (Rg4.uw rfl rfl rfl) ?_; (try simp only [Rg4.nrm])) | (refine Rg4.w4_skip (Rg4.un rfl rfl rfl) ?_; (try simp only [Rg4.nrm])))
          (first | (refine Rg4.w4_read (Rg4.wt rfl rfl rfl) rfl rfl ?_; apply Exists.intro; refine ⟨fun w' hw' hcl' => ?_, ?_⟩; focus (have st' := st.ext hw'; have hc' := st'.facts; (try simp only [nfl, nft, Nat.reduceAdd] at hc'); (focus (first | (go_simp; done) | (go_simp; first | rfl | (rw [if_neg] <;> first | rfl | omega) | (rw [if_pos] <;> first | rfl | omega))))); (try simp only [Rg4.nrm])) | (refine Rg4.w4_skip (Rg4.uw rfl rfl rfl) ?_; (try simp only [Rg4.nrm])) | (refine Rg4.w4_skip (Rg4.un rfl rfl rfl) ?_; (try simp only [Rg4.nrm])))
          refine Rg4.w4_some (Rg4.want_of 3 31 true rfl rfl rfl) rfl (fun w' hw' hcl' _ => ?_) ?_
          · refine Rg.relAt_call (by go_simp; exact ⟨rfl, rfl⟩) ?_
            refine (HRB.out _ (by omega) (by omega)).mono ?_
            rintro en w'' ⟨rfl, hx⟩
            exact ⟨_, by rw [H2.out], hx, trivial, rfl⟩
          rintro v ⟨_, _, _, rfl⟩
          (try simp only [Rg4.nrm])
          iterate 2 (refine Rg4.w4_any (Rg4.want_none rfl) rfl ?_; apply Exists.intro; refine ⟨fun w' => ?_, ?_⟩; (focus (first | (go_simp; done) | (go_simp; first | rfl | (rw [if_neg] <;> first | rfl | omega) | (rw [if_pos] <;> first | rfl | omega)))); (try simp only [Rg4.nrm]))
          (refine Rg4.w4_bar (Rg4.want_none rfl) rfl (fun w' hw' hcl' _ K hK => ?_); replace st := st.ext hw'; (refine owp_store rfl st ?_; apply Exists.intro; apply Exists.intro; refine ⟨?_, ?_, ?_⟩; (focus (go_simp; try rfl)); (focus (go_simp; try rfl)); (with_reducible refine ⟨2, _, _, _, _, get2, rfl, rfl, ?_, ?_, ?_, ?_⟩); (kernel_rfl); (simp [Value.cells]); (rfl); (clear st; intro w st); (try simp only [nsl, Value.cells, unB] at st); (try clear hc); have hc := st.facts; (try simp only [nfl, nft, Nat.reduceAdd] at hc)); refine hK _ _ ⟨trivial, ?_⟩; (try simp only [Rg4.nrm]))
          (refine Rg4.w4_any (Rg4.want_none rfl) rfl ?_; apply Exists.intro; refine ⟨fun w' => ?_, ?_⟩; (focus (first | (go_simp; done) | (go_simp; first | rfl | (rw [if_neg] <;> first | rfl | omega) | (rw [if_pos] <;> first | rfl | omega)))); (try simp only [Rg4.nrm]))
          refine Rg4.w4_nil (fun w' hw' hcl' _ => ?_); replace st := st.ext hw'; clear hw' hcl'; (try clear hc); have hc := st.facts; (try simp only [nfl, nft, Nat.reduceAdd] at hc)
          go_wp2_with fail
          go_ret
          exact ⟨by show Ending.returned (Value.bool (credEq _ _)) = _; rw [credEq_2]; simp [credR, H1.out, H2.out, Bool.and_assoc], st.ext0⟩
    · have hk2 : (k == 2) = false := by simpa using k2
      have K2 := Lib.hid k2
      clear k2
      by_cases k3 : k = 3
      · subst k3
        cases h1 : roleR (ho, hd) with
        | false =>
          have H1 := Lib.hid h1
          clear h1
          go_wp2_with fail
          refine Rg4.wp_region4_eq #[0, 1, 0, 4, 3, 19, 63, 127] [5, 7] [1] (fun W' => Blk W' b1 [.int .i64 3, .string ⟨ho.toArray⟩, .string ⟨hd.toArray⟩, .string ⟨nw.toArray⟩, .string ⟨bo.toArray⟩, .string ⟨bd.toArray⟩, .string ⟨co.toArray⟩, .string ⟨cd.toArray⟩, .string ⟨we.toArray⟩]) [0, 1, 2, 3, 4, 5, 6, 7] (by kernel_rfl) (by kernel_rfl) (by kernel_rfl) (by kernel_rfl) (show Rg4.PB _ by repeat (first | with_reducible exact Rg4.pb_body | with_reducible exact Rg4.pb_bodyD rfl | with_reducible refine Rg4.pb_then ?_ | with_reducible refine Rg4.pb_inBlock ?_ | with_reducible refine Rg4.pb_noGoto ?_)) (st.drew.blk (i := 1) get1) ?_
          replace st := st.drew
          change Rg4.wp4 _ _ _ _ _ _ _ _ _ (World.drew _) _ _
          generalize World.drew _ = w at st ⊢
          (try clear hc); have hc := st.facts; (try simp only [nfl, nft, Nat.reduceAdd] at hc)
          (refine Rg4.w4_any (Rg4.want_none rfl) rfl ?_; apply Exists.intro; refine ⟨fun w' => ?_, ?_⟩; (focus (first | (go_simp; done) | (go_simp; first | rfl | (rw [if_neg] <;> first | rfl | omega) | (rw [if_pos] <;> first | rfl | omega)))); (try simp only [Rg4.nrm]))
          (refine Rg4.w4_read (Rg4.want_none rfl) rfl rfl ?_; apply Exists.intro; refine ⟨fun w' hw' hcl' => ?_, ?_⟩; focus (subst hw'; (focus (first | (go_simp; done) | (go_simp; first | rfl | (rw [if_neg] <;> first | rfl | omega) | (rw [if_pos] <;> first | rfl | omega))))); (try simp only [Rg4.nrm]))
          (refine Rg4.w4_any (Rg4.want_none rfl) rfl ?_; apply Exists.intro; refine ⟨fun w' => ?_, ?_⟩; (focus (first | (go_simp; done) | (go_simp; first | rfl | (rw [if_neg] <;> first | rfl | omega) | (rw [if_pos] <;> first | rfl | omega)))); (try simp only [Rg4.nrm]))
          (refine Rg4.w4_cl (Rg4.want_none rfl) rfl ?_; apply Exists.intro; refine ⟨fun w' hcl => ?_, ?_⟩; (focus (have q6 := Blk.cell hcl 6; have q7 := Blk.cell hcl 7; have q8 := Blk.cell hcl 8; (try simp at q6 q7 q8); (focus (first | (go_simp; done) | (go_simp; first | rfl | (rw [if_neg] <;> first | rfl | omega) | (rw [if_pos] <;> first | rfl | omega)))))); (try simp only [Rg4.nrm]))
          (refine Rg4.w4_any (Rg4.want_none rfl) rfl ?_; apply Exists.intro; refine ⟨fun w' => ?_, ?_⟩; (focus (first | (go_simp; done) | (go_simp; first | rfl | (rw [if_neg] <;> first | rfl | omega) | (rw [if_pos] <;> first | rfl | omega)))); (try simp only [Rg4.nrm]))
          (refine Rg4.w4_bar (Rg4.want_none rfl) rfl (fun w' hw' hcl' _ K hK => ?_); subst hw'; (refine owp_store rfl st ?_; apply Exists.intro; apply Exists.intro; refine ⟨?_, ?_, ?_⟩; (focus (go_simp; try rfl)); (focus (go_simp; try rfl)); (with_reducible refine ⟨2, _, _, _, _, get2, rfl, rfl, ?_, ?_, ?_, ?_⟩); (kernel_rfl); (simp [Value.cells]); (rfl); (clear st; intro w st); (try simp only [nsl, Value.cells, unB] at st); (try clear hc); have hc := st.facts; (try simp only [nfl, nft, Nat.reduceAdd] at hc)); refine hK _ _ ⟨st.blk (i := 1) get1, ?_⟩; (try simp only [Rg4.nrm]))
          (refine Rg4.w4_any (Rg4.want_none rfl) rfl ?_; apply Exists.intro; refine ⟨fun w' => ?_, ?_⟩; (focus (first | (go_simp; done) | (go_simp; first | rfl | (rw [if_neg] <;> first | rfl | omega) | (rw [if_pos] <;> first | rfl | omega)))); (try simp only [Rg4.nrm]))
          (refine Rg4.w4_bar (Rg4.want_none rfl) rfl (fun w' hw' hcl' _ K hK => ?_); subst hw'; (refine owp_store rfl st ?_; apply Exists.intro; apply Exists.intro; refine ⟨?_, ?_, ?_⟩; (focus (go_simp; try rfl)); (focus (go_simp; try rfl)); (with_reducible refine ⟨2, _, _, _, _, get2, rfl, rfl, ?_, ?_, ?_, ?_⟩); (kernel_rfl); (simp [Value.cells]); (rfl); (clear st; intro w st); (try simp only [nsl, Value.cells, unB] at st); (try clear hc); have hc := st.facts; (try simp only [nfl, nft, Nat.reduceAdd] at hc)); refine hK _ _ ⟨st.blk (i := 1) get1, ?_⟩; (try simp only [Rg4.nrm]))
          refine Rg4.w4_nil (fun w' hw' hcl' _ => ?_); subst hw'; clear hcl'
          go_wp2_with fail
          go_ret
          exact ⟨by simp [credR, H1.out], st.ext0⟩
        | true =>
          have H1 := Lib.hid h1
          clear h1
          go_wp2_with fail
          refine Rg4.wp_region4_eq #[0, 1, 0, 4, 3, 19, 63, 127] [5, 7] [1] (fun W' => Blk W' b1 [.int .i64 3, .string ⟨ho.toArray⟩, .string ⟨hd.toArray⟩, .string ⟨nw.toArray⟩, .string ⟨bo.toArray⟩, .string ⟨bd.toArray⟩, .string ⟨co.toArray⟩, .string ⟨cd.toArray⟩, .string ⟨we.toArray⟩]) [0, 1, 2, 3, 4, 5, 6, 7] (by kernel_rfl) (by kernel_rfl) (by kernel_rfl) (by kernel_rfl) (show Rg4.PB _ by repeat (first | with_reducible exact Rg4.pb_body | with_reducible exact Rg4.pb_bodyD rfl | with_reducible refine Rg4.pb_then ?_ | with_reducible refine Rg4.pb_inBlock ?_ | with_reducible refine Rg4.pb_noGoto ?_)) (st.drew.blk (i := 1) get1) ?_
          replace st := st.drew
          change Rg4.wp4 _ _ _ _ _ _ _ _ _ (World.drew _) _ _
          generalize World.drew _ = w at st ⊢
          (try clear hc); have hc := st.facts; (try simp only [nfl, nft, Nat.reduceAdd] at hc)
          (refine Rg4.w4_any (Rg4.want_none rfl) rfl ?_; apply Exists.intro; refine ⟨fun w' => ?_, ?_⟩; (focus (first | (go_simp; done) | (go_simp; first | rfl | (rw [if_neg] <;> first | rfl | omega) | (rw [if_pos] <;> first | rfl | omega)))); (try simp only [Rg4.nrm]))
          (refine Rg4.w4_read (Rg4.want_none rfl) rfl rfl ?_; apply Exists.intro; refine ⟨fun w' hw' hcl' => ?_, ?_⟩; focus (subst hw'; (focus (first | (go_simp; done) | (go_simp; first | rfl | (rw [if_neg] <;> first | rfl | omega) | (rw [if_pos] <;> first | rfl | omega))))); (try simp only [Rg4.nrm]))
          (refine Rg4.w4_any (Rg4.want_none rfl) rfl ?_; apply Exists.intro; refine ⟨fun w' => ?_, ?_⟩; (focus (first | (go_simp; done) | (go_simp; first | rfl | (rw [if_neg] <;> first | rfl | omega) | (rw [if_pos] <;> first | rfl | omega)))); (try simp only [Rg4.nrm]))
          (refine Rg4.w4_cl (Rg4.want_none rfl) rfl ?_; apply Exists.intro; refine ⟨fun w' hcl => ?_, ?_⟩; (focus (have q6 := Blk.cell hcl 6; have q7 := Blk.cell hcl 7; have q8 := Blk.cell hcl 8; (try simp at q6 q7 q8); (focus (first | (go_simp; done) | (go_simp; first | rfl | (rw [if_neg] <;> first | rfl | omega) | (rw [if_pos] <;> first | rfl | omega)))))); (try simp only [Rg4.nrm]))
          (refine Rg4.w4_any (Rg4.want_none rfl) rfl ?_; apply Exists.intro; refine ⟨fun w' => ?_, ?_⟩; (focus (first | (go_simp; done) | (go_simp; first | rfl | (rw [if_neg] <;> first | rfl | omega) | (rw [if_pos] <;> first | rfl | omega)))); (try simp only [Rg4.nrm]))
          (refine Rg4.w4_bar (Rg4.want_none rfl) rfl (fun w' hw' hcl' _ K hK => ?_); subst hw'; (refine owp_store rfl st ?_; apply Exists.intro; apply Exists.intro; refine ⟨?_, ?_, ?_⟩; (focus (go_simp; try rfl)); (focus (go_simp; try rfl)); (with_reducible refine ⟨2, _, _, _, _, get2, rfl, rfl, ?_, ?_, ?_, ?_⟩); (kernel_rfl); (simp [Value.cells]); (rfl); (clear st; intro w st); (try simp only [nsl, Value.cells, unB] at st); (try clear hc); have hc := st.facts; (try simp only [nfl, nft, Nat.reduceAdd] at hc)); refine hK _ _ ⟨st.blk (i := 1) get1, ?_⟩; (try simp only [Rg4.nrm]))
          (refine Rg4.w4_any (Rg4.want_none rfl) rfl ?_; apply Exists.intro; refine ⟨fun w' => ?_, ?_⟩; (focus (first | (go_simp; done) | (go_simp; first | rfl | (rw [if_neg] <;> first | rfl | omega) | (rw [if_pos] <;> first | rfl | omega)))); (try simp only [Rg4.nrm]))
          (refine Rg4.w4_bar (Rg4.want_none rfl) rfl (fun w' hw' hcl' _ K hK => ?_); subst hw'; (refine owp_store rfl st ?_; apply Exists.intro; apply Exists.intro; refine ⟨?_, ?_, ?_⟩; (focus (go_simp; try rfl)); (focus (go_simp; try rfl)); (with_reducible refine ⟨2, _, _, _, _, get2, rfl, rfl, ?_, ?_, ?_, ?_⟩); (kernel_rfl); (simp [Value.cells]); (rfl); (clear st; intro w st); (try simp only [nsl, Value.cells, unB] at st); (try clear hc); have hc := st.facts; (try simp only [nfl, nft, Nat.reduceAdd] at hc)); refine hK _ _ ⟨st.blk (i := 1) get1, ?_⟩; (try simp only [Rg4.nrm]))
          refine Rg4.w4_nil (fun w' hw' hcl' _ => ?_); subst hw'; clear hcl'
          go_wp2_with fail
          refine (HRB.out _ (by omega) (by omega)).mono ?_
          rintro en w ⟨rfl, hx⟩
          replace st := st.ext hx
          clear hx
          (try clear hc); have hc := st.facts; (try simp only [nfl, nft, Nat.reduceAdd] at hc)
          cases h2 : roleR (bo, bd) with
          | false =>
            have H2 := Lib.hid h2
            clear h2
            go_wp2_with fail
            go_ret
            exact ⟨by simp [credR, H1.out, H2.out], st.ext0⟩
          | true =>
            have H2 := Lib.hid h2
            clear h2
            cases h3 : (bo == ho) with
            | false =>
              have H3 := Lib.hid h3
              go_wp2_with fail
              go_ret
              exact ⟨by simp only [credR, H1.out, H2.out, H3.out]; simp, st.ext0⟩
            | true =>
              have H3 := Lib.hid h3
              go_wp2_with fail
              refine (right_any we _ (by omega)).mono ?_
              rintro en w ⟨rfl, hx⟩
              replace st := st.ext hx
              clear hx
              (try clear hc); have hc := st.facts; (try simp only [nfl, nft, Nat.reduceAdd] at hc)
              cases h4 : nameR we with
              | false =>
                have H4 := Lib.hid h4
                clear h4
                go_wp2_with fail
                go_ret
                exact ⟨by simp [credR, H4.out], st.ext0⟩
              | true =>
                have H4 := Lib.hid h4
                clear h4
                go_wp2_with fail
                go_ret
                exact ⟨by show Ending.returned (Value.bool (credEq _ _)) = _; rw [credEq_3]; simp only [credR, H1.out, H2.out, H3.out, H4.out]; simp, st.ext0⟩
      · have hk3 : (k == 3) = false := by simpa using k3
        have K3 := Lib.hid k3
        clear k3
        by_cases k4 : k = 4
        · subst k4
          cases h1 : roleR (ho, hd) with
          | false =>
            have H1 := Lib.hid h1
            clear h1
            go_wp2_with fail
            refine Rg4.wp_region4_eq #[0, 1, 0, 4, 3, 19, 63, 127] [5, 7] [1] (fun W' => Blk W' b1 [.int .i64 4, .string ⟨ho.toArray⟩, .string ⟨hd.toArray⟩, .string ⟨nw.toArray⟩, .string ⟨bo.toArray⟩, .string ⟨bd.toArray⟩, .string ⟨co.toArray⟩, .string ⟨cd.toArray⟩, .string ⟨we.toArray⟩]) [0, 1, 2, 3, 4, 5, 6, 7] (by kernel_rfl) (by kernel_rfl) (by kernel_rfl) (by kernel_rfl) (show Rg4.PB _ by repeat (first | with_reducible exact Rg4.pb_body | with_reducible exact Rg4.pb_bodyD rfl | with_reducible refine Rg4.pb_then ?_ | with_reducible refine Rg4.pb_inBlock ?_ | with_reducible refine Rg4.pb_noGoto ?_)) (st.drew.blk (i := 1) get1) ?_
            replace st := st.drew
            change Rg4.wp4 _ _ _ _ _ _ _ _ _ (World.drew _) _ _
            generalize World.drew _ = w at st ⊢
            (try clear hc); have hc := st.facts; (try simp only [nfl, nft, Nat.reduceAdd] at hc)
            (refine Rg4.w4_any (Rg4.want_none rfl) rfl ?_; apply Exists.intro; refine ⟨fun w' => ?_, ?_⟩; (focus (first | (go_simp; done) | (go_simp; first | rfl | (rw [if_neg] <;> first | rfl | omega) | (rw [if_pos] <;> first | rfl | omega)))); (try simp only [Rg4.nrm]))
            (refine Rg4.w4_read (Rg4.want_none rfl) rfl rfl ?_; apply Exists.intro; refine ⟨fun w' hw' hcl' => ?_, ?_⟩; focus (subst hw'; (focus (first | (go_simp; done) | (go_simp; first | rfl | (rw [if_neg] <;> first | rfl | omega) | (rw [if_pos] <;> first | rfl | omega))))); (try simp only [Rg4.nrm]))
            (refine Rg4.w4_any (Rg4.want_none rfl) rfl ?_; apply Exists.intro; refine ⟨fun w' => ?_, ?_⟩; (focus (first | (go_simp; done) | (go_simp; first | rfl | (rw [if_neg] <;> first | rfl | omega) | (rw [if_pos] <;> first | rfl | omega)))); (try simp only [Rg4.nrm]))
            (refine Rg4.w4_cl (Rg4.want_none rfl) rfl ?_; apply Exists.intro; refine ⟨fun w' hcl => ?_, ?_⟩; (focus (have q6 := Blk.cell hcl 6; have q7 := Blk.cell hcl 7; have q8 := Blk.cell hcl 8; (try simp at q6 q7 q8); (focus (first | (go_simp; done) | (go_simp; first | rfl | (rw [if_neg] <;> first | rfl | omega) | (rw [if_pos] <;> first | rfl | omega)))))); (try simp only [Rg4.nrm]))
            (refine Rg4.w4_any (Rg4.want_none rfl) rfl ?_; apply Exists.intro; refine ⟨fun w' => ?_, ?_⟩; (focus (first | (go_simp; done) | (go_simp; first | rfl | (rw [if_neg] <;> first | rfl | omega) | (rw [if_pos] <;> first | rfl | omega)))); (try simp only [Rg4.nrm]))
            (refine Rg4.w4_bar (Rg4.want_none rfl) rfl (fun w' hw' hcl' _ K hK => ?_); subst hw'; (refine owp_store rfl st ?_; apply Exists.intro; apply Exists.intro; refine ⟨?_, ?_, ?_⟩; (focus (go_simp; try rfl)); (focus (go_simp; try rfl)); (with_reducible refine ⟨2, _, _, _, _, get2, rfl, rfl, ?_, ?_, ?_, ?_⟩); (kernel_rfl); (simp [Value.cells]); (rfl); (clear st; intro w st); (try simp only [nsl, Value.cells, unB] at st); (try clear hc); have hc := st.facts; (try simp only [nfl, nft, Nat.reduceAdd] at hc)); refine hK _ _ ⟨st.blk (i := 1) get1, ?_⟩; (try simp only [Rg4.nrm]))
            (refine Rg4.w4_any (Rg4.want_none rfl) rfl ?_; apply Exists.intro; refine ⟨fun w' => ?_, ?_⟩; (focus (first | (go_simp; done) | (go_simp; first | rfl | (rw [if_neg] <;> first | rfl | omega) | (rw [if_pos] <;> first | rfl | omega)))); (try simp only [Rg4.nrm]))
            (refine Rg4.w4_bar (Rg4.want_none rfl) rfl (fun w' hw' hcl' _ K hK => ?_); subst hw'; (refine owp_store rfl st ?_; apply Exists.intro; apply Exists.intro; refine ⟨?_, ?_, ?_⟩; (focus (go_simp; try rfl)); (focus (go_simp; try rfl)); (with_reducible refine ⟨2, _, _, _, _, get2, rfl, rfl, ?_, ?_, ?_, ?_⟩); (kernel_rfl); (simp [Value.cells]); (rfl); (clear st; intro w st); (try simp only [nsl, Value.cells, unB] at st); (try clear hc); have hc := st.facts; (try simp only [nfl, nft, Nat.reduceAdd] at hc)); refine hK _ _ ⟨st.blk (i := 1) get1, ?_⟩; (try simp only [Rg4.nrm]))
            refine Rg4.w4_nil (fun w' hw' hcl' _ => ?_); subst hw'; clear hcl'
            go_wp2_with fail
            go_ret
            exact ⟨by simp [credR, H1.out], st.ext0⟩
          | true =>
            have H1 := Lib.hid h1
            clear h1
            go_wp2_with fail
            refine Rg4.wp_region4_eq #[0, 1, 0, 4, 3, 19, 63, 127] [5, 7] [1] (fun W' => Blk W' b1 [.int .i64 4, .string ⟨ho.toArray⟩, .string ⟨hd.toArray⟩, .string ⟨nw.toArray⟩, .string ⟨bo.toArray⟩, .string ⟨bd.toArray⟩, .string ⟨co.toArray⟩, .string ⟨cd.toArray⟩, .string ⟨we.toArray⟩]) [0, 1, 2, 3, 4, 5, 6, 7] (by kernel_rfl) (by kernel_rfl) (by kernel_rfl) (by kernel_rfl) (show Rg4.PB _ by repeat (first | with_reducible exact Rg4.pb_body | with_reducible exact Rg4.pb_bodyD rfl | with_reducible refine Rg4.pb_then ?_ | with_reducible refine Rg4.pb_inBlock ?_ | with_reducible refine Rg4.pb_noGoto ?_)) (st.drew.blk (i := 1) get1) ?_
            replace st := st.drew
            change Rg4.wp4 _ _ _ _ _ _ _ _ _ (World.drew _) _ _
            generalize World.drew _ = w at st ⊢
            (try clear hc); have hc := st.facts; (try simp only [nfl, nft, Nat.reduceAdd] at hc)
            (refine Rg4.w4_any (Rg4.want_none rfl) rfl ?_; apply Exists.intro; refine ⟨fun w' => ?_, ?_⟩; (focus (first | (go_simp; done) | (go_simp; first | rfl | (rw [if_neg] <;> first | rfl | omega) | (rw [if_pos] <;> first | rfl | omega)))); (try simp only [Rg4.nrm]))
            (refine Rg4.w4_read (Rg4.want_none rfl) rfl rfl ?_; apply Exists.intro; refine ⟨fun w' hw' hcl' => ?_, ?_⟩; focus (subst hw'; (focus (first | (go_simp; done) | (go_simp; first | rfl | (rw [if_neg] <;> first | rfl | omega) | (rw [if_pos] <;> first | rfl | omega))))); (try simp only [Rg4.nrm]))
            (refine Rg4.w4_any (Rg4.want_none rfl) rfl ?_; apply Exists.intro; refine ⟨fun w' => ?_, ?_⟩; (focus (first | (go_simp; done) | (go_simp; first | rfl | (rw [if_neg] <;> first | rfl | omega) | (rw [if_pos] <;> first | rfl | omega)))); (try simp only [Rg4.nrm]))
            (refine Rg4.w4_cl (Rg4.want_none rfl) rfl ?_; apply Exists.intro; refine ⟨fun w' hcl => ?_, ?_⟩; (focus (have q6 := Blk.cell hcl 6; have q7 := Blk.cell hcl 7; have q8 := Blk.cell hcl 8; (try simp at q6 q7 q8); (focus (first | (go_simp; done) | (go_simp; first | rfl | (rw [if_neg] <;> first | rfl | omega) | (rw [if_pos] <;> first | rfl | omega)))))); (try simp only [Rg4.nrm]))
            (refine Rg4.w4_any (Rg4.want_none rfl) rfl ?_; apply Exists.intro; refine ⟨fun w' => ?_, ?_⟩; (focus (first | (go_simp; done) | (go_simp; first | rfl | (rw [if_neg] <;> first | rfl | omega) | (rw [if_pos] <;> first | rfl | omega)))); (try simp only [Rg4.nrm]))
            (refine Rg4.w4_bar (Rg4.want_none rfl) rfl (fun w' hw' hcl' _ K hK => ?_); subst hw'; (refine owp_store rfl st ?_; apply Exists.intro; apply Exists.intro; refine ⟨?_, ?_, ?_⟩; (focus (go_simp; try rfl)); (focus (go_simp; try rfl)); (with_reducible refine ⟨2, _, _, _, _, get2, rfl, rfl, ?_, ?_, ?_, ?_⟩); (kernel_rfl); (simp [Value.cells]); (rfl); (clear st; intro w st); (try simp only [nsl, Value.cells, unB] at st); (try clear hc); have hc := st.facts; (try simp only [nfl, nft, Nat.reduceAdd] at hc)); refine hK _ _ ⟨st.blk (i := 1) get1, ?_⟩; (try simp only [Rg4.nrm]))
            (refine Rg4.w4_any (Rg4.want_none rfl) rfl ?_; apply Exists.intro; refine ⟨fun w' => ?_, ?_⟩; (focus (first | (go_simp; done) | (go_simp; first | rfl | (rw [if_neg] <;> first | rfl | omega) | (rw [if_pos] <;> first | rfl | omega)))); (try simp only [Rg4.nrm]))
            (refine Rg4.w4_bar (Rg4.want_none rfl) rfl (fun w' hw' hcl' _ K hK => ?_); subst hw'; (refine owp_store rfl st ?_; apply Exists.intro; apply Exists.intro; refine ⟨?_, ?_, ?_⟩; (focus (go_simp; try rfl)); (focus (go_simp; try rfl)); (with_reducible refine ⟨2, _, _, _, _, get2, rfl, rfl, ?_, ?_, ?_, ?_⟩); (kernel_rfl); (simp [Value.cells]); (rfl); (clear st; intro w st); (try simp only [nsl, Value.cells, unB] at st); (try clear hc); have hc := st.facts; (try simp only [nfl, nft, Nat.reduceAdd] at hc)); refine hK _ _ ⟨st.blk (i := 1) get1, ?_⟩; (try simp only [Rg4.nrm]))
            refine Rg4.w4_nil (fun w' hw' hcl' _ => ?_); subst hw'; clear hcl'
            go_wp2_with fail
            refine (HRB.out _ (by omega) (by omega)).mono ?_
            rintro en w ⟨rfl, hx⟩
            replace st := st.ext hx
            clear hx
            (try clear hc); have hc := st.facts; (try simp only [nfl, nft, Nat.reduceAdd] at hc)
            cases h2 : roleR (bo, bd) with
            | false =>
              have H2 := Lib.hid h2
              clear h2
              go_wp2_with fail
              go_ret
              exact ⟨by simp [credR, H1.out, H2.out], st.ext0⟩
            | true =>
              have H2 := Lib.hid h2
              clear h2
              go_wp2_with fail
              refine (HRC.out _ (by omega) (by omega)).mono ?_
              rintro en w ⟨rfl, hx⟩
              replace st := st.ext hx
              clear hx
              (try clear hc); have hc := st.facts; (try simp only [nfl, nft, Nat.reduceAdd] at hc)
              cases h3 : roleR (co, cd) with
              | false =>
                have H3 := Lib.hid h3
                clear h3
                go_wp2_with fail
                go_ret
                exact ⟨by simp [credR, H1.out, H2.out, H3.out], st.ext0⟩
              | true =>
                have H3 := Lib.hid h3
                clear h3
                go_wp2_with fail
                refine (HLT.out _).mono ?_
                rintro en w ⟨rfl, hx⟩
                replace st := st.ext hx
                clear hx
                (try clear hc); have hc := st.facts; (try simp only [nfl, nft, Nat.reduceAdd] at hc)
                have h4 := roleCmp_neg (bo, bd) (co, cd)
                generalize roleCmp (bo, bd) (co, cd) = cv at *
                cases h5 : roleLt (bo, bd) (co, cd) with
                | false =>
                  have H5 := Lib.hid h5
                  rw [h5] at h4
                  clear h5
                  go_wp2_with fail
                  go_ret
                  exact ⟨by simp [credR, H1.out, H2.out, H3.out, H5.out], st.ext0⟩
                | true =>
                  have H5 := Lib.hid h5
                  rw [h5] at h4
                  clear h5
                  go_wp2_with fail
                  go_ret
                  exact ⟨by show Ending.returned (Value.bool (credEq _ _)) = _; rw [credEq_4]; simp [credR, H1.out, H2.out, H3.out, H5.out], st.ext0⟩
        · have hk4 : (k == 4) = false := by simpa using k4
          have K4 := Lib.hid k4
          clear k4
          go_wp2_with fail
          go_ret
          exact ⟨by simp [credR, K1.out, K2.out, K3.out, K4.out], st.ext0⟩
end Go.Proofs.YtekngjkjgmplpaaGreat

namespace Go.Proofs.YtekngjkjgmplpaaGreat
set_option linter.unusedSimpArgs false
set_option linter.unusedVariables false
open Go Go.RowKit
def credB (x : CredT) : List UInt8 := (numB x.k.toNat ++ roleB x.h) ++ (if x.k = 1 then numB x.w.length ++ x.w else roleB x.b ++ (if x.k = 3 then numB x.e.length ++ x.e else if x.k = 4 then roleB x.c else []))
/-- What is right, kind by kind. -/
theorem credR_cases {x : CredT} (h : credR x = true) : roleR x.h = true ∧ ((x.k = 1 ∧ nameR x.w = true ∧ x.b = nR ∧ x.c = nR ∧ x.e = []) ∨ (x.w = [] ∧ roleR x.b = true ∧ ((x.k = 2 ∧ x.c = nR ∧ x.e = []) ∨ (x.k = 3 ∧ x.c = nR ∧ x.b.1 = x.h.1 ∧ nameR x.e = true) ∨ (x.k = 4 ∧ x.e = [] ∧ roleR x.c = true ∧ roleLt x.b x.c = true)))) := by
  unfold credR at h
  rw [Bool.and_eq_true] at h
  refine ⟨h.1, ?_⟩
  have h := h.2
  by_cases k1 : x.k = 1
  · rw [if_pos k1] at h
    simp only [Bool.and_eq_true, roleEq_iff, beq_iff_eq] at h
    exact .inl ⟨k1, h.1.1.1, h.1.1.2, h.1.2, h.2⟩
  · rw [if_neg k1] at h
    simp only [Bool.and_eq_true, beq_iff_eq] at h
    refine .inr ⟨h.1.1, h.1.2, ?_⟩
    have h := h.2
    by_cases k2 : x.k = 2
    · rw [if_pos k2] at h
      simp only [Bool.and_eq_true, roleEq_iff, beq_iff_eq] at h
      exact .inl ⟨k2, h⟩
    · rw [if_neg k2] at h
      by_cases k3 : x.k = 3
      · rw [if_pos k3] at h
        simp only [Bool.and_eq_true, roleEq_iff, beq_iff_eq] at h
        exact .inr (.inl ⟨k3, h.1.1, h.1.2, h.2⟩)
      · rw [if_neg k3] at h
        simp only [Bool.and_eq_true, decide_eq_true_eq, beq_iff_eq] at h
        exact .inr (.inr ⟨h.1.1.1, h.1.1.2, h.1.2, h.2⟩)
theorem roleR_len {r : Role} (h : roleR r = true) : r.1.length ≤ 16 ∧ r.2.length ≤ 16 := by
  have h2 : nameR r.1 = true ∧ nameR r.2 = true := by simpa [roleR] using h
  exact ⟨(nameR_len h2.1).2, (nameR_len h2.2).2⟩
theorem roleB_len {r : Role} (h : roleR r = true) : (roleB r).length ≤ 60 := by
  have h1 := roleR_len h
  have h2 := numF_len 10 r.1.length
  have h3 := numF_len 10 r.2.length
  simp [roleB, numB]; omega
set_option maxRecDepth 100000 in
set_option maxHeartbeats 1000000 in
theorem refCredBytes_any (x : CredT) (W : World) (hr : credR x = true) :
    Calls Tryz.prog 19 #[cV x] W fun e w' => e = .returned (S (credB x)) ∧ Ext W w' := by
  have happ := ba_append
  obtain ⟨hh, hcs⟩ := credR_cases hr
  obtain ⟨k, ⟨ho, hd⟩, nw, ⟨bo, bd⟩, ⟨co, cd⟩, we⟩ := x
  simp only at hh hcs
  have hl1 := roleR_len hh
  have hb1 := roleB_len hh
  simp only at hl1
  have st := Own.startOld W
  unfold cV S
  (try simp only [nsl, Value.cells, unB] at st)
  (try clear hc); have hc := st.facts; (try simp only [nfl, nft, Nat.reduceAdd] at hc)
  rcases hcs with ⟨rfl, hw, -, -, -⟩ | ⟨-, hbr, ⟨rfl, -, -⟩ | ⟨rfl, -, -, he⟩ | ⟨rfl, -, hcr, -⟩⟩
  · have hl2 := (nameR_len hw).2
    have hb2 : (numB nw.length).length ≤ 10 := numF_len 10 nw.length
    have hb3 : (numB nw.length ++ nw).length ≤ 30 := by simp; omega
    go_enter Tryz.func19, Tryz.ntmps19
    go_wp2_with ((((with_reducible refine wl_box ?_ (fun K hK => ?_)); rfl; refine owp_box (o := ⟨some 1, _, _, _, _, _⟩) rfl st ?_; apply Exists.intro; refine ⟨?_, ?_⟩; (focus (go_simp; try rfl)); (clear st; intro b1 w hb st; clear hb))); (try simp only [nsl, Value.cells, unB] at st); (try clear hc); have hc := st.facts; (try simp only [nfl, nft, Nat.reduceAdd] at hc))
    have hnk : (numB 1).length = 1 := by decide +kernel
    have hnl : (numB 1 ++ roleB (ho, hd)).length ≤ 70 := by simp [hnk]; omega
    refine Rg4.wp_region4 (Rel := Ext) #[0, 1, 3, 0, 8, 31, 63, 127]
      [(2, .val (.string ⟨(numB 1).toArray⟩)), (5, .val (.string ⟨(roleB (ho, hd)).toArray⟩))] [] [1, 4] (fun W' => Blk W' b1 [.int .i64 1, .string ⟨ho.toArray⟩, .string ⟨hd.toArray⟩, .string ⟨nw.toArray⟩, .string ⟨bo.toArray⟩, .string ⟨bd.toArray⟩, .string ⟨co.toArray⟩, .string ⟨cd.toArray⟩, .string ⟨we.toArray⟩]) [0, 1, 2, 3, 4, 5, 6, 7] (by kernel_rfl) (by kernel_rfl) (by kernel_rfl) (by kernel_rfl) Ext.refl (fun _ _ _ => Ext.trans) (show Rg4.PB _ by repeat (first | with_reducible exact Rg4.pb_body | with_reducible exact Rg4.pb_bodyD rfl | with_reducible refine Rg4.pb_then ?_ | with_reducible refine Rg4.pb_inBlock ?_ | with_reducible refine Rg4.pb_noGoto ?_)) (st.drew.blk (i := 1) get1) ?_
    replace st := st.drew
    change Rg4.wp4 _ _ _ _ _ _ _ _ _ (World.drew _) _ _
    generalize World.drew _ = w at st ⊢
    (try clear hc); have hc := st.facts; (try simp only [nfl, nft, Nat.reduceAdd] at hc)
    (refine Rg4.w4_any (Rg4.want_none rfl) rfl ?_; apply Exists.intro; refine ⟨fun w' => ?_, ?_⟩; (focus (first | (go_simp; done) | (go_simp; first | rfl | (rw [if_neg] <;> first | rfl | omega) | (rw [if_pos] <;> first | rfl | omega)))); (try simp only [Rg4.nrm]))
    (refine Rg4.w4_read (Rg4.want_none rfl) rfl rfl ?_; apply Exists.intro; refine ⟨fun w' hw' hcl' => ?_, ?_⟩; focus (have st' := st.ext hw'; have hc' := st'.facts; (try simp only [nfl, nft, Nat.reduceAdd] at hc'); (focus (first | (go_simp; done) | (go_simp; first | rfl | (rw [if_neg] <;> first | rfl | omega) | (rw [if_pos] <;> first | rfl | omega))))); (try simp only [Rg4.nrm]))
    refine Rg4.w4_some (Rg4.want_none rfl) rfl (fun w' hw' hcl' _ => ?_) ?_
    · refine Rg.relAt_call (by go_simp; exact ⟨rfl, rfl⟩) ?_
      refine (refNumber_any 1 _ (by decide)).mono ?_
      rintro en w'' ⟨rfl, hx⟩
      exact ⟨_, rfl, hx, (st.ext (Ext.trans hw' hx)).blk (i := 1) get1, rfl⟩
    rintro v ⟨_, _, _, rfl⟩
    (try simp only [Rg4.nrm])
    (refine Rg4.w4_any (Rg4.want_none rfl) rfl ?_; apply Exists.intro; refine ⟨fun w' => ?_, ?_⟩; (focus (first | (go_simp; done) | (go_simp; first | rfl | (rw [if_neg] <;> first | rfl | omega) | (rw [if_pos] <;> first | rfl | omega)))); (try simp only [Rg4.nrm]))
    (refine Rg4.w4_read (Rg4.want_none rfl) rfl rfl ?_; apply Exists.intro; refine ⟨fun w' hw' hcl' => ?_, ?_⟩; focus (have st' := st.ext hw'; have hc' := st'.facts; (try simp only [nfl, nft, Nat.reduceAdd] at hc'); (focus (first | (go_simp; done) | (go_simp; first | rfl | (rw [if_neg] <;> first | rfl | omega) | (rw [if_pos] <;> first | rfl | omega))))); (try simp only [Rg4.nrm]))
    refine Rg4.w4_some (Rg4.want_none rfl) rfl (fun w' hw' hcl' _ => ?_) ?_
    · refine Rg.relAt_call (by go_simp; exact ⟨rfl, rfl⟩) ?_
      refine (refRoleBytes_any (ho, hd) _ (by simp only; omega) (by simp only; omega)).mono ?_
      rintro en w'' ⟨rfl, hx⟩
      exact ⟨_, rfl, hx, (st.ext (Ext.trans hw' hx)).blk (i := 1) get1, rfl⟩
    rintro v ⟨_, _, _, rfl⟩
    (try simp only [Rg4.nrm])
    iterate 2 (refine Rg4.w4_any (Rg4.want_none rfl) rfl ?_; apply Exists.intro; refine ⟨fun w' => ?_, ?_⟩; (focus (first | (go_simp; done) | (go_simp; first | rfl | (rw [if_neg] <;> first | rfl | omega) | (rw [if_pos] <;> first | rfl | omega)))); (try simp only [Rg4.nrm]))
    refine Rg4.w4_nil (fun w' hw' hcl' _ => ?_); replace st := st.ext hw'; clear hw' hcl'; (try clear hc); have hc := st.facts; (try simp only [nfl, nft, Nat.reduceAdd] at hc)
    go_wp2_with fail
    refine (refText_any nw _ (by omega)).mono ?_
    rintro en w ⟨rfl, hx⟩
    replace st := st.ext hx
    clear hx
    (try clear hc); have hc := st.facts; (try simp only [nfl, nft, Nat.reduceAdd] at hc)
    unfold S
    go_wp2_with fail
    go_ret
    exact ⟨by simp [credB], st.ext0⟩
  · have hl2 := roleR_len hbr
    have hb2 := roleB_len hbr
    simp only at hl2
    go_enter Tryz.func19, Tryz.ntmps19
    go_wp2_with ((((with_reducible refine wl_box ?_ (fun K hK => ?_)); rfl; refine owp_box (o := ⟨some 1, _, _, _, _, _⟩) rfl st ?_; apply Exists.intro; refine ⟨?_, ?_⟩; (focus (go_simp; try rfl)); (clear st; intro b1 w hb st; clear hb))); (try simp only [nsl, Value.cells, unB] at st); (try clear hc); have hc := st.facts; (try simp only [nfl, nft, Nat.reduceAdd] at hc))
    have hnk : (numB 2).length = 1 := by decide +kernel
    have hnl : (numB 2 ++ roleB (ho, hd)).length ≤ 70 := by simp [hnk]; omega
    refine Rg4.wp_region4 (Rel := Ext) #[0, 1, 3, 0, 8, 31, 63, 127]
      [(2, .val (.string ⟨(numB 2).toArray⟩)), (5, .val (.string ⟨(roleB (ho, hd)).toArray⟩))] [] [1, 4] (fun W' => Blk W' b1 [.int .i64 2, .string ⟨ho.toArray⟩, .string ⟨hd.toArray⟩, .string ⟨nw.toArray⟩, .string ⟨bo.toArray⟩, .string ⟨bd.toArray⟩, .string ⟨co.toArray⟩, .string ⟨cd.toArray⟩, .string ⟨we.toArray⟩]) [0, 1, 2, 3, 4, 5, 6, 7] (by kernel_rfl) (by kernel_rfl) (by kernel_rfl) (by kernel_rfl) Ext.refl (fun _ _ _ => Ext.trans) (show Rg4.PB _ by repeat (first | with_reducible exact Rg4.pb_body | with_reducible exact Rg4.pb_bodyD rfl | with_reducible refine Rg4.pb_then ?_ | with_reducible refine Rg4.pb_inBlock ?_ | with_reducible refine Rg4.pb_noGoto ?_)) (st.drew.blk (i := 1) get1) ?_
    replace st := st.drew
    change Rg4.wp4 _ _ _ _ _ _ _ _ _ (World.drew _) _ _
    generalize World.drew _ = w at st ⊢
    (try clear hc); have hc := st.facts; (try simp only [nfl, nft, Nat.reduceAdd] at hc)
    (refine Rg4.w4_any (Rg4.want_none rfl) rfl ?_; apply Exists.intro; refine ⟨fun w' => ?_, ?_⟩; (focus (first | (go_simp; done) | (go_simp; first | rfl | (rw [if_neg] <;> first | rfl | omega) | (rw [if_pos] <;> first | rfl | omega)))); (try simp only [Rg4.nrm]))
    (refine Rg4.w4_read (Rg4.want_none rfl) rfl rfl ?_; apply Exists.intro; refine ⟨fun w' hw' hcl' => ?_, ?_⟩; focus (have st' := st.ext hw'; have hc' := st'.facts; (try simp only [nfl, nft, Nat.reduceAdd] at hc'); (focus (first | (go_simp; done) | (go_simp; first | rfl | (rw [if_neg] <;> first | rfl | omega) | (rw [if_pos] <;> first | rfl | omega))))); (try simp only [Rg4.nrm]))
    refine Rg4.w4_some (Rg4.want_none rfl) rfl (fun w' hw' hcl' _ => ?_) ?_
    · refine Rg.relAt_call (by go_simp; exact ⟨rfl, rfl⟩) ?_
      refine (refNumber_any 2 _ (by decide)).mono ?_
      rintro en w'' ⟨rfl, hx⟩
      exact ⟨_, rfl, hx, (st.ext (Ext.trans hw' hx)).blk (i := 1) get1, rfl⟩
    rintro v ⟨_, _, _, rfl⟩
    (try simp only [Rg4.nrm])
    (refine Rg4.w4_any (Rg4.want_none rfl) rfl ?_; apply Exists.intro; refine ⟨fun w' => ?_, ?_⟩; (focus (first | (go_simp; done) | (go_simp; first | rfl | (rw [if_neg] <;> first | rfl | omega) | (rw [if_pos] <;> first | rfl | omega)))); (try simp only [Rg4.nrm]))
    (refine Rg4.w4_read (Rg4.want_none rfl) rfl rfl ?_; apply Exists.intro; refine ⟨fun w' hw' hcl' => ?_, ?_⟩; focus (have st' := st.ext hw'; have hc' := st'.facts; (try simp only [nfl, nft, Nat.reduceAdd] at hc'); (focus (first | (go_simp; done) | (go_simp; first | rfl | (rw [if_neg] <;> first | rfl | omega) | (rw [if_pos] <;> first | rfl | omega))))); (try simp only [Rg4.nrm]))
    refine Rg4.w4_some (Rg4.want_none rfl) rfl (fun w' hw' hcl' _ => ?_) ?_
    · refine Rg.relAt_call (by go_simp; exact ⟨rfl, rfl⟩) ?_
      refine (refRoleBytes_any (ho, hd) _ (by simp only; omega) (by simp only; omega)).mono ?_
      rintro en w'' ⟨rfl, hx⟩
      exact ⟨_, rfl, hx, (st.ext (Ext.trans hw' hx)).blk (i := 1) get1, rfl⟩
    rintro v ⟨_, _, _, rfl⟩
    (try simp only [Rg4.nrm])
    iterate 2 (refine Rg4.w4_any (Rg4.want_none rfl) rfl ?_; apply Exists.intro; refine ⟨fun w' => ?_, ?_⟩; (focus (first | (go_simp; done) | (go_simp; first | rfl | (rw [if_neg] <;> first | rfl | omega) | (rw [if_pos] <;> first | rfl | omega)))); (try simp only [Rg4.nrm]))
    refine Rg4.w4_nil (fun w' hw' hcl' _ => ?_); replace st := st.ext hw'; clear hw' hcl'; (try clear hc); have hc := st.facts; (try simp only [nfl, nft, Nat.reduceAdd] at hc)
    go_wp2_with fail
    refine (refRoleBytes_any (bo, bd) _ (by simp only; omega) (by simp only; omega)).mono ?_
    rintro en w ⟨rfl, hx⟩
    replace st := st.ext hx
    clear hx
    (try clear hc); have hc := st.facts; (try simp only [nfl, nft, Nat.reduceAdd] at hc)
    unfold S
    go_wp2_with fail
    go_ret
    exact ⟨by simp [credB], st.ext0⟩
  · have hl2 := roleR_len hbr
    have hb2 := roleB_len hbr
    simp only at hl2
    have hl3 := (nameR_len he).2
    have hb3 : (numB we.length).length ≤ 10 := numF_len 10 we.length
    have hb4 : (numB we.length ++ we).length ≤ 30 := by simp; omega
    go_enter Tryz.func19, Tryz.ntmps19
    go_wp2_with ((((with_reducible refine wl_box ?_ (fun K hK => ?_)); rfl; refine owp_box (o := ⟨some 1, _, _, _, _, _⟩) rfl st ?_; apply Exists.intro; refine ⟨?_, ?_⟩; (focus (go_simp; try rfl)); (clear st; intro b1 w hb st; clear hb))); (try simp only [nsl, Value.cells, unB] at st); (try clear hc); have hc := st.facts; (try simp only [nfl, nft, Nat.reduceAdd] at hc))
    have hnk : (numB 3).length = 1 := by decide +kernel
    have hnl : (numB 3 ++ roleB (ho, hd)).length ≤ 70 := by simp [hnk]; omega
    refine Rg4.wp_region4 (Rel := Ext) #[0, 1, 3, 0, 8, 31, 63, 127]
      [(2, .val (.string ⟨(numB 3).toArray⟩)), (5, .val (.string ⟨(roleB (ho, hd)).toArray⟩))] [] [1, 4] (fun W' => Blk W' b1 [.int .i64 3, .string ⟨ho.toArray⟩, .string ⟨hd.toArray⟩, .string ⟨nw.toArray⟩, .string ⟨bo.toArray⟩, .string ⟨bd.toArray⟩, .string ⟨co.toArray⟩, .string ⟨cd.toArray⟩, .string ⟨we.toArray⟩]) [0, 1, 2, 3, 4, 5, 6, 7] (by kernel_rfl) (by kernel_rfl) (by kernel_rfl) (by kernel_rfl) Ext.refl (fun _ _ _ => Ext.trans) (show Rg4.PB _ by repeat (first | with_reducible exact Rg4.pb_body | with_reducible exact Rg4.pb_bodyD rfl | with_reducible refine Rg4.pb_then ?_ | with_reducible refine Rg4.pb_inBlock ?_ | with_reducible refine Rg4.pb_noGoto ?_)) (st.drew.blk (i := 1) get1) ?_
    replace st := st.drew
    change Rg4.wp4 _ _ _ _ _ _ _ _ _ (World.drew _) _ _
    generalize World.drew _ = w at st ⊢
    (try clear hc); have hc := st.facts; (try simp only [nfl, nft, Nat.reduceAdd] at hc)
    (refine Rg4.w4_any (Rg4.want_none rfl) rfl ?_; apply Exists.intro; refine ⟨fun w' => ?_, ?_⟩; (focus (first | (go_simp; done) | (go_simp; first | rfl | (rw [if_neg] <;> first | rfl | omega) | (rw [if_pos] <;> first | rfl | omega)))); (try simp only [Rg4.nrm]))
    (refine Rg4.w4_read (Rg4.want_none rfl) rfl rfl ?_; apply Exists.intro; refine ⟨fun w' hw' hcl' => ?_, ?_⟩; focus (have st' := st.ext hw'; have hc' := st'.facts; (try simp only [nfl, nft, Nat.reduceAdd] at hc'); (focus (first | (go_simp; done) | (go_simp; first | rfl | (rw [if_neg] <;> first | rfl | omega) | (rw [if_pos] <;> first | rfl | omega))))); (try simp only [Rg4.nrm]))
    refine Rg4.w4_some (Rg4.want_none rfl) rfl (fun w' hw' hcl' _ => ?_) ?_
    · refine Rg.relAt_call (by go_simp; exact ⟨rfl, rfl⟩) ?_
      refine (refNumber_any 3 _ (by decide)).mono ?_
      rintro en w'' ⟨rfl, hx⟩
      exact ⟨_, rfl, hx, (st.ext (Ext.trans hw' hx)).blk (i := 1) get1, rfl⟩
    rintro v ⟨_, _, _, rfl⟩
    (try simp only [Rg4.nrm])
    (refine Rg4.w4_any (Rg4.want_none rfl) rfl ?_; apply Exists.intro; refine ⟨fun w' => ?_, ?_⟩; (focus (first | (go_simp; done) | (go_simp; first | rfl | (rw [if_neg] <;> first | rfl | omega) | (rw [if_pos] <;> first | rfl | omega)))); (try simp only [Rg4.nrm]))
    (refine Rg4.w4_read (Rg4.want_none rfl) rfl rfl ?_; apply Exists.intro; refine ⟨fun w' hw' hcl' => ?_, ?_⟩; focus (have st' := st.ext hw'; have hc' := st'.facts; (try simp only [nfl, nft, Nat.reduceAdd] at hc'); (focus (first | (go_simp; done) | (go_simp; first | rfl | (rw [if_neg] <;> first | rfl | omega) | (rw [if_pos] <;> first | rfl | omega))))); (try simp only [Rg4.nrm]))
    refine Rg4.w4_some (Rg4.want_none rfl) rfl (fun w' hw' hcl' _ => ?_) ?_
    · refine Rg.relAt_call (by go_simp; exact ⟨rfl, rfl⟩) ?_
      refine (refRoleBytes_any (ho, hd) _ (by simp only; omega) (by simp only; omega)).mono ?_
      rintro en w'' ⟨rfl, hx⟩
      exact ⟨_, rfl, hx, (st.ext (Ext.trans hw' hx)).blk (i := 1) get1, rfl⟩
    rintro v ⟨_, _, _, rfl⟩
    (try simp only [Rg4.nrm])
    iterate 2 (refine Rg4.w4_any (Rg4.want_none rfl) rfl ?_; apply Exists.intro; refine ⟨fun w' => ?_, ?_⟩; (focus (first | (go_simp; done) | (go_simp; first | rfl | (rw [if_neg] <;> first | rfl | omega) | (rw [if_pos] <;> first | rfl | omega)))); (try simp only [Rg4.nrm]))
    refine Rg4.w4_nil (fun w' hw' hcl' _ => ?_); replace st := st.ext hw'; clear hw' hcl'; (try clear hc); have hc := st.facts; (try simp only [nfl, nft, Nat.reduceAdd] at hc)
    go_wp2_with fail
    refine (refRoleBytes_any (bo, bd) _ (by simp only; omega) (by simp only; omega)).mono ?_
    rintro en w ⟨rfl, hx⟩
    replace st := st.ext hx
    clear hx
    (try clear hc); have hc := st.facts; (try simp only [nfl, nft, Nat.reduceAdd] at hc)
    unfold S
    go_wp2_with fail
    refine (refText_any we _ (by omega)).mono ?_
    rintro en w ⟨rfl, hx⟩
    replace st := st.ext hx
    clear hx
    (try clear hc); have hc := st.facts; (try simp only [nfl, nft, Nat.reduceAdd] at hc)
    unfold S
    go_wp2_with fail
    go_ret
    exact ⟨by simp [credB], st.ext0⟩
  · have hl2 := roleR_len hbr
    have hb2 := roleB_len hbr
    have hl3 := roleR_len hcr
    have hb3 := roleB_len hcr
    simp only at hl2 hl3
    go_enter Tryz.func19, Tryz.ntmps19
    go_wp2_with ((((with_reducible refine wl_box ?_ (fun K hK => ?_)); rfl; refine owp_box (o := ⟨some 1, _, _, _, _, _⟩) rfl st ?_; apply Exists.intro; refine ⟨?_, ?_⟩; (focus (go_simp; try rfl)); (clear st; intro b1 w hb st; clear hb))); (try simp only [nsl, Value.cells, unB] at st); (try clear hc); have hc := st.facts; (try simp only [nfl, nft, Nat.reduceAdd] at hc))
    have hnk : (numB 4).length = 1 := by decide +kernel
    have hnl : (numB 4 ++ roleB (ho, hd)).length ≤ 70 := by simp [hnk]; omega
    refine Rg4.wp_region4 (Rel := Ext) #[0, 1, 3, 0, 8, 31, 63, 127]
      [(2, .val (.string ⟨(numB 4).toArray⟩)), (5, .val (.string ⟨(roleB (ho, hd)).toArray⟩))] [] [1, 4] (fun W' => Blk W' b1 [.int .i64 4, .string ⟨ho.toArray⟩, .string ⟨hd.toArray⟩, .string ⟨nw.toArray⟩, .string ⟨bo.toArray⟩, .string ⟨bd.toArray⟩, .string ⟨co.toArray⟩, .string ⟨cd.toArray⟩, .string ⟨we.toArray⟩]) [0, 1, 2, 3, 4, 5, 6, 7] (by kernel_rfl) (by kernel_rfl) (by kernel_rfl) (by kernel_rfl) Ext.refl (fun _ _ _ => Ext.trans) (show Rg4.PB _ by repeat (first | with_reducible exact Rg4.pb_body | with_reducible exact Rg4.pb_bodyD rfl | with_reducible refine Rg4.pb_then ?_ | with_reducible refine Rg4.pb_inBlock ?_ | with_reducible refine Rg4.pb_noGoto ?_)) (st.drew.blk (i := 1) get1) ?_
    replace st := st.drew
    change Rg4.wp4 _ _ _ _ _ _ _ _ _ (World.drew _) _ _
    generalize World.drew _ = w at st ⊢
    (try clear hc); have hc := st.facts; (try simp only [nfl, nft, Nat.reduceAdd] at hc)
    (refine Rg4.w4_any (Rg4.want_none rfl) rfl ?_; apply Exists.intro; refine ⟨fun w' => ?_, ?_⟩; (focus (first | (go_simp; done) | (go_simp; first | rfl | (rw [if_neg] <;> first | rfl | omega) | (rw [if_pos] <;> first | rfl | omega)))); (try simp only [Rg4.nrm]))
    (refine Rg4.w4_read (Rg4.want_none rfl) rfl rfl ?_; apply Exists.intro; refine ⟨fun w' hw' hcl' => ?_, ?_⟩; focus (have st' := st.ext hw'; have hc' := st'.facts; (try simp only [nfl, nft, Nat.reduceAdd] at hc'); (focus (first | (go_simp; done) | (go_simp; first | rfl | (rw [if_neg] <;> first | rfl | omega) | (rw [if_pos] <;> first | rfl | omega))))); (try simp only [Rg4.nrm]))
    refine Rg4.w4_some (Rg4.want_none rfl) rfl (fun w' hw' hcl' _ => ?_) ?_
    · refine Rg.relAt_call (by go_simp; exact ⟨rfl, rfl⟩) ?_
      refine (refNumber_any 4 _ (by decide)).mono ?_
      rintro en w'' ⟨rfl, hx⟩
      exact ⟨_, rfl, hx, (st.ext (Ext.trans hw' hx)).blk (i := 1) get1, rfl⟩
    rintro v ⟨_, _, _, rfl⟩
    (try simp only [Rg4.nrm])
    (refine Rg4.w4_any (Rg4.want_none rfl) rfl ?_; apply Exists.intro; refine ⟨fun w' => ?_, ?_⟩; (focus (first | (go_simp; done) | (go_simp; first | rfl | (rw [if_neg] <;> first | rfl | omega) | (rw [if_pos] <;> first | rfl | omega)))); (try simp only [Rg4.nrm]))
    (refine Rg4.w4_read (Rg4.want_none rfl) rfl rfl ?_; apply Exists.intro; refine ⟨fun w' hw' hcl' => ?_, ?_⟩; focus (have st' := st.ext hw'; have hc' := st'.facts; (try simp only [nfl, nft, Nat.reduceAdd] at hc'); (focus (first | (go_simp; done) | (go_simp; first | rfl | (rw [if_neg] <;> first | rfl | omega) | (rw [if_pos] <;> first | rfl | omega))))); (try simp only [Rg4.nrm]))
    refine Rg4.w4_some (Rg4.want_none rfl) rfl (fun w' hw' hcl' _ => ?_) ?_
    · refine Rg.relAt_call (by go_simp; exact ⟨rfl, rfl⟩) ?_
      refine (refRoleBytes_any (ho, hd) _ (by simp only; omega) (by simp only; omega)).mono ?_
      rintro en w'' ⟨rfl, hx⟩
      exact ⟨_, rfl, hx, (st.ext (Ext.trans hw' hx)).blk (i := 1) get1, rfl⟩
    rintro v ⟨_, _, _, rfl⟩
    (try simp only [Rg4.nrm])
    iterate 2 (refine Rg4.w4_any (Rg4.want_none rfl) rfl ?_; apply Exists.intro; refine ⟨fun w' => ?_, ?_⟩; (focus (first | (go_simp; done) | (go_simp; first | rfl | (rw [if_neg] <;> first | rfl | omega) | (rw [if_pos] <;> first | rfl | omega)))); (try simp only [Rg4.nrm]))
    refine Rg4.w4_nil (fun w' hw' hcl' _ => ?_); replace st := st.ext hw'; clear hw' hcl'; (try clear hc); have hc := st.facts; (try simp only [nfl, nft, Nat.reduceAdd] at hc)
    go_wp2_with fail
    refine (refRoleBytes_any (bo, bd) _ (by simp only; omega) (by simp only; omega)).mono ?_
    rintro en w ⟨rfl, hx⟩
    replace st := st.ext hx
    clear hx
    (try clear hc); have hc := st.facts; (try simp only [nfl, nft, Nat.reduceAdd] at hc)
    unfold S
    go_wp2_with fail
    refine (refRoleBytes_any (co, cd) _ (by simp only; omega) (by simp only; omega)).mono ?_
    rintro en w ⟨rfl, hx⟩
    replace st := st.ext hx
    clear hx
    (try clear hc); have hc := st.facts; (try simp only [nfl, nft, Nat.reduceAdd] at hc)
    unfold S
    go_wp2_with fail
    go_ret
    exact ⟨by simp [credB], st.ext0⟩
end Go.Proofs.YtekngjkjgmplpaaGreat

namespace Go.Proofs.YtekngjkjgmplpaaGreat
set_option linter.unusedSimpArgs false
set_option linter.unusedVariables false
open Go Go.RowKit
def credBy (x : CredT) : List UInt8 := if credR x = true then credB x else []
/-- Texts of a bounded length. -/
def CredL (n : Nat) (x : CredT) : Prop := x.h.1.length ≤ n ∧ x.h.2.length ≤ n ∧ x.w.length ≤ n ∧ x.b.1.length ≤ n ∧ x.b.2.length ≤ n ∧ x.c.1.length ≤ n ∧ x.c.2.length ≤ n ∧ x.e.length ≤ n
set_option maxRecDepth 100000 in
set_option maxHeartbeats 1000000 in
theorem refCredBy_any (x : CredT) (W : World) (hl : CredL 100000 x) :
    Calls Tryz.prog 69 #[cV x] W fun e w' => e = .returned (S (credBy x)) ∧ Ext W w' := by
  have HR := Lib.hid (fun W => refCredRight_any x W (by unfold CredL at hl; omega))
  have HB := Lib.hid (fun hr W => refCredBytes_any x W hr)
  have HE := Lib.hid (show credBy x = if credR x = true then credB x else [] from rfl)
  generalize credBy x = r at *
  obtain ⟨k, ⟨ho, hd⟩, nw, ⟨bo, bd⟩, ⟨co, cd⟩, we⟩ := x
  clear hl
  have st := Own.startOld W
  unfold cV S at *
  simp only at HR HB
  (try simp only [nsl, Value.cells, unB] at st)
  (try clear hc); have hc := st.facts; (try simp only [nfl, nft, Nat.reduceAdd] at hc)
  go_enter Tryz.func69, Tryz.ntmps69
  go_wp2_with ((((with_reducible refine wl_box ?_ (fun K hK => ?_)); rfl; refine owp_box (o := ⟨some 1, _, _, _, _, _⟩) rfl st ?_; apply Exists.intro; refine ⟨?_, ?_⟩; (focus (go_simp; try rfl)); (clear st; intro b1 w hb st; clear hb))); (try simp only [nsl, Value.cells, unB] at st); (try clear hc); have hc := st.facts; (try simp only [nfl, nft, Nat.reduceAdd] at hc))
  refine (HR.out _).mono ?_
  rintro en w ⟨rfl, hx⟩
  replace st := st.ext hx
  clear hx
  (try clear hc); have hc := st.facts; (try simp only [nfl, nft, Nat.reduceAdd] at hc)
  cases hr : credR ⟨k, (ho, hd), nw, (bo, bd), (co, cd), we⟩ with
  | false =>
    have H := Lib.hid hr
    clear hr
    go_wp2_with fail
    go_ret
    exact ⟨by rw [HE.out, H.out]; rfl, st.ext0⟩
  | true =>
    have H := Lib.hid hr
    clear hr
    go_wp2_with fail
    refine (HB.out H.out _).mono ?_
    rintro en w ⟨rfl, hx⟩
    replace st := st.ext hx
    clear hx
    (try clear hc); have hc := st.facts; (try simp only [nfl, nft, Nat.reduceAdd] at hc)
    go_wp2_with fail
    go_ret
    exact ⟨by rw [HE.out, if_pos H.out]; rfl, st.ext0⟩
set_option maxRecDepth 100000 in
set_option maxHeartbeats 1000000 in
theorem credBytes_any (x : CredT) (W : World) (hl : CredL 100000 x) :
    Calls Tryz.prog 24 #[cV x] W fun e w' => ∃ a n c, e = .returned (.slice a n c) ∧ (n ≤ c ∧ c ≤ maxLen) ∧ By w' a n (credBy x) ∧ Ext W w' := by
  have HR := Lib.hid (fun W => credRight_any x W (by unfold CredL at hl; omega))
  have HE := Lib.hid (show credBy x = if credR x = true then credB x else [] from rfl)
  generalize credBy x = r at *
  cases hr : credR x with
  | false =>
    have H := Lib.hid hr
    obtain ⟨k, ⟨ho, hd⟩, nw, ⟨bo, bd⟩, ⟨co, cd⟩, we⟩ := x
    clear hl hr
    have st := Own.startOld W
    unfold cV S at *
    simp only at HR
    (try simp only [nsl, Value.cells, unB] at st)
    (try clear hc); have hc := st.facts; (try simp only [nfl, nft, Nat.reduceAdd] at hc)
    go_enter Tryz.func24, Tryz.ntmps24
    go_wp2_with ((((with_reducible refine wl_box ?_ (fun K hK => ?_)); rfl; refine owp_box (o := ⟨some 1, _, _, _, _, _⟩) rfl st ?_; apply Exists.intro; refine ⟨?_, ?_⟩; (focus (go_simp; try rfl)); (clear st; intro b1 w hb st; clear hb))); (try simp only [nsl, Value.cells, unB] at st); (try clear hc); have hc := st.facts; (try simp only [nfl, nft, Nat.reduceAdd] at hc))
    refine (HR.out _).mono ?_
    rintro en w ⟨rfl, hx⟩
    replace st := st.ext hx
    clear hx
    (try clear hc); have hc := st.facts; (try simp only [nfl, nft, Nat.reduceAdd] at hc)
    rw [H.out]
    go_wp2_with fail
    go_ret
    exact ⟨none, 0, 0, rfl, ⟨by omega, by simp [maxLen]⟩, by rw [HE.out, H.out]; exact By.nil _ _, st.ext0⟩
  | true =>
    obtain ⟨hh, hcs⟩ := credR_cases hr
    have H := Lib.hid hr
    obtain ⟨k, ⟨ho, hd⟩, nw, ⟨bo, bd⟩, ⟨co, cd⟩, we⟩ := x
    simp only at hh hcs
    have hb1 := roleB_len hh
    have HH := Lib.hid hh
    clear hl hr hh
    have st := Own.startOld W
    unfold cV S at *
    simp only at HR
    (try simp only [nsl, Value.cells, unB] at st)
    (try clear hc); have hc := st.facts; (try simp only [nfl, nft, Nat.reduceAdd] at hc)
    rcases hcs with ⟨rfl, hw, -, -, -⟩ | ⟨-, hbr, ⟨rfl, -, -⟩ | ⟨rfl, -, -, he⟩ | ⟨rfl, -, hcr, -⟩⟩
    · have hl2 := (nameR_len hw).2
      have hb2 : (numB nw.length).length ≤ 10 := numF_len 10 nw.length
      have hnk : (numB 1).length = 1 := by decide +kernel
      have HW := Lib.hid hw
      clear hw
      go_enter Tryz.func24, Tryz.ntmps24
      go_wp2_with ((((with_reducible refine wl_box ?_ (fun K hK => ?_)); rfl; refine owp_box (o := ⟨some 1, _, _, _, _, _⟩) rfl st ?_; apply Exists.intro; refine ⟨?_, ?_⟩; (focus (go_simp; try rfl)); (clear st; intro b1 w hb st; clear hb))); (try simp only [nsl, Value.cells, unB] at st); (try clear hc); have hc := st.facts; (try simp only [nfl, nft, Nat.reduceAdd] at hc))
      refine (HR.out _).mono ?_
      rintro en w ⟨rfl, hx⟩
      replace st := st.ext hx
      clear hx
      (try clear hc); have hc := st.facts; (try simp only [nfl, nft, Nat.reduceAdd] at hc)
      rw [H.out]
      go_wp2_with ((((with_reducible refine wl_box ?_ (fun K hK => ?_)); rfl; refine owp_box (o := ⟨some 8, _, _, _, _, _⟩) rfl st ?_; apply Exists.intro; refine ⟨?_, ?_⟩; (focus (go_simp; try rfl)); (clear st; intro b8 w hb st; clear hb))); (try simp only [nsl, Value.cells, unB] at st); (try clear hc); have hc := st.facts; (try simp only [nfl, nft, Nat.reduceAdd] at hc))
      replace st := st.newPen (i := 2) get2
      (try simp only [nsl, Value.cells, unB] at st)
      (try clear hc); have hc := st.facts; (try simp only [nfl, nft, Nat.reduceAdd] at hc)
      obtain ⟨fr', al', st', back⟩ := st.sub [2] (by decide) (by simp)
      (try simp only [nsl, Value.cells, unB] at st')
      refine (penNumber_c st' 1 (by decide) (by simp)).mono ?_
      clear st'
      rintro en w ⟨rfl, st'⟩
      replace st := back _ _ (by simp) st'
      clear back st'
      (try simp only [nsl, Value.cells, unB] at st)
      (try clear hc); have hc := st.facts; (try simp only [nfl, nft, Nat.reduceAdd] at hc)
      go_wp2_with fail
      (try rw [List.nil_append] at st)
      obtain ⟨fr', al', st', back⟩ := st.sub [2] (by decide) (by simp)
      (try simp only [nsl, Value.cells, unB] at st')
      refine (rolePut_yes st' (ho, hd) HH.out (by omega)).mono ?_
      clear st'
      rintro en w ⟨rfl, st'⟩
      replace st := back _ _ (by simp) st'
      clear back st'
      (try simp only [nsl, Value.cells, unB] at st)
      (try clear hc); have hc := st.facts; (try simp only [nfl, nft, Nat.reduceAdd] at hc)
      go_wp2_with fail
      obtain ⟨fr', al', st', back⟩ := st.sub [2] (by decide) (by simp)
      (try simp only [nsl, Value.cells, unB] at st')
      refine (namePut_yes st' nw HW.out (by simp; omega)).mono ?_
      clear st'
      rintro en w ⟨rfl, st'⟩
      replace st := back _ _ (by simp) st'
      clear back st'
      (try simp only [nsl, Value.cells, unB] at st)
      (try clear hc); have hc := st.facts; (try simp only [nfl, nft, Nat.reduceAdd] at hc)
      obtain ⟨u, hu⟩ : ∃ u, (numB 1 ++ roleB (ho, hd) ++ (numB nw.length ++ nw)) = u := ⟨_, rfl⟩
      rw [hu] at st
      have HU : Hid (r = u) := Lib.hid (by rw [HE.out, if_pos H.out, ← hu]; simp [credB])
      have hul : u.length ≤ 300 := by rw [← hu]; simp; omega
      clear hu
      go_wp2_with fail
      obtain ⟨fr', al', st', back⟩ := st.sub [2] (by decide) (by simp)
      (try simp only [nsl, Value.cells, unB] at st')
      refine (penBytes_c st' (by omega)).mono ?_
      clear st'
      rintro en w ⟨pa, pc, rfl, hpc, st'⟩
      replace st := back _ _ (by simp) st'
      clear back st'
      (try simp only [nsl, Value.cells, unB] at st)
      (try clear hc); have hc := st.facts; (try simp only [nfl, nft, Nat.reduceAdd] at hc)
      go_wp2_with fail
      go_ret
      exact ⟨_, _, _, rfl, hpc, by rw [HU.out]; exact st.by (i := 3) get3, st.ext0⟩
    · have hb2 := roleB_len hbr
      have HW := Lib.hid hbr
      have hnk : (numB 2).length = 1 := by decide +kernel
      clear hbr
      go_enter Tryz.func24, Tryz.ntmps24
      go_wp2_with ((((with_reducible refine wl_box ?_ (fun K hK => ?_)); rfl; refine owp_box (o := ⟨some 1, _, _, _, _, _⟩) rfl st ?_; apply Exists.intro; refine ⟨?_, ?_⟩; (focus (go_simp; try rfl)); (clear st; intro b1 w hb st; clear hb))); (try simp only [nsl, Value.cells, unB] at st); (try clear hc); have hc := st.facts; (try simp only [nfl, nft, Nat.reduceAdd] at hc))
      refine (HR.out _).mono ?_
      rintro en w ⟨rfl, hx⟩
      replace st := st.ext hx
      clear hx
      (try clear hc); have hc := st.facts; (try simp only [nfl, nft, Nat.reduceAdd] at hc)
      rw [H.out]
      go_wp2_with ((((with_reducible refine wl_box ?_ (fun K hK => ?_)); rfl; refine owp_box (o := ⟨some 8, _, _, _, _, _⟩) rfl st ?_; apply Exists.intro; refine ⟨?_, ?_⟩; (focus (go_simp; try rfl)); (clear st; intro b8 w hb st; clear hb))); (try simp only [nsl, Value.cells, unB] at st); (try clear hc); have hc := st.facts; (try simp only [nfl, nft, Nat.reduceAdd] at hc))
      replace st := st.newPen (i := 2) get2
      (try simp only [nsl, Value.cells, unB] at st)
      (try clear hc); have hc := st.facts; (try simp only [nfl, nft, Nat.reduceAdd] at hc)
      obtain ⟨fr', al', st', back⟩ := st.sub [2] (by decide) (by simp)
      (try simp only [nsl, Value.cells, unB] at st')
      refine (penNumber_c st' 2 (by decide) (by simp)).mono ?_
      clear st'
      rintro en w ⟨rfl, st'⟩
      replace st := back _ _ (by simp) st'
      clear back st'
      (try simp only [nsl, Value.cells, unB] at st)
      (try clear hc); have hc := st.facts; (try simp only [nfl, nft, Nat.reduceAdd] at hc)
      go_wp2_with fail
      (try rw [List.nil_append] at st)
      obtain ⟨fr', al', st', back⟩ := st.sub [2] (by decide) (by simp)
      (try simp only [nsl, Value.cells, unB] at st')
      refine (rolePut_yes st' (ho, hd) HH.out (by omega)).mono ?_
      clear st'
      rintro en w ⟨rfl, st'⟩
      replace st := back _ _ (by simp) st'
      clear back st'
      (try simp only [nsl, Value.cells, unB] at st)
      (try clear hc); have hc := st.facts; (try simp only [nfl, nft, Nat.reduceAdd] at hc)
      go_wp2_with fail
      obtain ⟨fr', al', st', back⟩ := st.sub [2] (by decide) (by simp)
      (try simp only [nsl, Value.cells, unB] at st')
      refine (rolePut_yes st' (bo, bd) HW.out (by simp; omega)).mono ?_
      clear st'
      rintro en w ⟨rfl, st'⟩
      replace st := back _ _ (by simp) st'
      clear back st'
      (try simp only [nsl, Value.cells, unB] at st)
      (try clear hc); have hc := st.facts; (try simp only [nfl, nft, Nat.reduceAdd] at hc)
      obtain ⟨u, hu⟩ : ∃ u, (numB 2 ++ roleB (ho, hd) ++ roleB (bo, bd)) = u := ⟨_, rfl⟩
      rw [hu] at st
      have HU : Hid (r = u) := Lib.hid (by rw [HE.out, if_pos H.out, ← hu]; simp [credB])
      have hul : u.length ≤ 300 := by rw [← hu]; simp; omega
      clear hu
      go_wp2_with fail
      obtain ⟨fr', al', st', back⟩ := st.sub [2] (by decide) (by simp)
      (try simp only [nsl, Value.cells, unB] at st')
      refine (penBytes_c st' (by omega)).mono ?_
      clear st'
      rintro en w ⟨pa, pc, rfl, hpc, st'⟩
      replace st := back _ _ (by simp) st'
      clear back st'
      (try simp only [nsl, Value.cells, unB] at st)
      (try clear hc); have hc := st.facts; (try simp only [nfl, nft, Nat.reduceAdd] at hc)
      go_wp2_with fail
      go_ret
      exact ⟨_, _, _, rfl, hpc, by rw [HU.out]; exact st.by (i := 3) get3, st.ext0⟩
    · have hb2 := roleB_len hbr
      have HW := Lib.hid hbr
      have HN := Lib.hid he
      have hl2 := (nameR_len he).2
      have hb3 : (numB we.length).length ≤ 10 := numF_len 10 we.length
      have hnk : (numB 3).length = 1 := by decide +kernel
      clear hbr he
      go_enter Tryz.func24, Tryz.ntmps24
      go_wp2_with ((((with_reducible refine wl_box ?_ (fun K hK => ?_)); rfl; refine owp_box (o := ⟨some 1, _, _, _, _, _⟩) rfl st ?_; apply Exists.intro; refine ⟨?_, ?_⟩; (focus (go_simp; try rfl)); (clear st; intro b1 w hb st; clear hb))); (try simp only [nsl, Value.cells, unB] at st); (try clear hc); have hc := st.facts; (try simp only [nfl, nft, Nat.reduceAdd] at hc))
      refine (HR.out _).mono ?_
      rintro en w ⟨rfl, hx⟩
      replace st := st.ext hx
      clear hx
      (try clear hc); have hc := st.facts; (try simp only [nfl, nft, Nat.reduceAdd] at hc)
      rw [H.out]
      go_wp2_with ((((with_reducible refine wl_box ?_ (fun K hK => ?_)); rfl; refine owp_box (o := ⟨some 8, _, _, _, _, _⟩) rfl st ?_; apply Exists.intro; refine ⟨?_, ?_⟩; (focus (go_simp; try rfl)); (clear st; intro b8 w hb st; clear hb))); (try simp only [nsl, Value.cells, unB] at st); (try clear hc); have hc := st.facts; (try simp only [nfl, nft, Nat.reduceAdd] at hc))
      replace st := st.newPen (i := 2) get2
      (try simp only [nsl, Value.cells, unB] at st)
      (try clear hc); have hc := st.facts; (try simp only [nfl, nft, Nat.reduceAdd] at hc)
      obtain ⟨fr', al', st', back⟩ := st.sub [2] (by decide) (by simp)
      (try simp only [nsl, Value.cells, unB] at st')
      refine (penNumber_c st' 3 (by decide) (by simp)).mono ?_
      clear st'
      rintro en w ⟨rfl, st'⟩
      replace st := back _ _ (by simp) st'
      clear back st'
      (try simp only [nsl, Value.cells, unB] at st)
      (try clear hc); have hc := st.facts; (try simp only [nfl, nft, Nat.reduceAdd] at hc)
      go_wp2_with fail
      (try rw [List.nil_append] at st)
      obtain ⟨fr', al', st', back⟩ := st.sub [2] (by decide) (by simp)
      (try simp only [nsl, Value.cells, unB] at st')
      refine (rolePut_yes st' (ho, hd) HH.out (by omega)).mono ?_
      clear st'
      rintro en w ⟨rfl, st'⟩
      replace st := back _ _ (by simp) st'
      clear back st'
      (try simp only [nsl, Value.cells, unB] at st)
      (try clear hc); have hc := st.facts; (try simp only [nfl, nft, Nat.reduceAdd] at hc)
      go_wp2_with fail
      obtain ⟨fr', al', st', back⟩ := st.sub [2] (by decide) (by simp)
      (try simp only [nsl, Value.cells, unB] at st')
      refine (rolePut_yes st' (bo, bd) HW.out (by simp; omega)).mono ?_
      clear st'
      rintro en w ⟨rfl, st'⟩
      replace st := back _ _ (by simp) st'
      clear back st'
      (try simp only [nsl, Value.cells, unB] at st)
      (try clear hc); have hc := st.facts; (try simp only [nfl, nft, Nat.reduceAdd] at hc)
      go_wp2_with fail
      obtain ⟨fr', al', st', back⟩ := st.sub [2] (by decide) (by simp)
      (try simp only [nsl, Value.cells, unB] at st')
      refine (namePut_yes st' we HN.out (by simp; omega)).mono ?_
      clear st'
      rintro en w ⟨rfl, st'⟩
      replace st := back _ _ (by simp) st'
      clear back st'
      (try simp only [nsl, Value.cells, unB] at st)
      (try clear hc); have hc := st.facts; (try simp only [nfl, nft, Nat.reduceAdd] at hc)
      obtain ⟨u, hu⟩ : ∃ u, (numB 3 ++ roleB (ho, hd) ++ roleB (bo, bd) ++ (numB we.length ++ we)) = u := ⟨_, rfl⟩
      rw [hu] at st
      have HU : Hid (r = u) := Lib.hid (by rw [HE.out, if_pos H.out, ← hu]; simp [credB])
      have hul : u.length ≤ 300 := by rw [← hu]; simp; omega
      clear hu
      go_wp2_with fail
      obtain ⟨fr', al', st', back⟩ := st.sub [2] (by decide) (by simp)
      (try simp only [nsl, Value.cells, unB] at st')
      refine (penBytes_c st' (by omega)).mono ?_
      clear st'
      rintro en w ⟨pa, pc, rfl, hpc, st'⟩
      replace st := back _ _ (by simp) st'
      clear back st'
      (try simp only [nsl, Value.cells, unB] at st)
      (try clear hc); have hc := st.facts; (try simp only [nfl, nft, Nat.reduceAdd] at hc)
      go_wp2_with fail
      go_ret
      exact ⟨_, _, _, rfl, hpc, by rw [HU.out]; exact st.by (i := 3) get3, st.ext0⟩
    · have hb2 := roleB_len hbr
      have hb3 := roleB_len hcr
      have HW := Lib.hid hbr
      have HN := Lib.hid hcr
      have hnk : (numB 4).length = 1 := by decide +kernel
      clear hbr hcr
      go_enter Tryz.func24, Tryz.ntmps24
      go_wp2_with ((((with_reducible refine wl_box ?_ (fun K hK => ?_)); rfl; refine owp_box (o := ⟨some 1, _, _, _, _, _⟩) rfl st ?_; apply Exists.intro; refine ⟨?_, ?_⟩; (focus (go_simp; try rfl)); (clear st; intro b1 w hb st; clear hb))); (try simp only [nsl, Value.cells, unB] at st); (try clear hc); have hc := st.facts; (try simp only [nfl, nft, Nat.reduceAdd] at hc))
      refine (HR.out _).mono ?_
      rintro en w ⟨rfl, hx⟩
      replace st := st.ext hx
      clear hx
      (try clear hc); have hc := st.facts; (try simp only [nfl, nft, Nat.reduceAdd] at hc)
      rw [H.out]
      go_wp2_with ((((with_reducible refine wl_box ?_ (fun K hK => ?_)); rfl; refine owp_box (o := ⟨some 8, _, _, _, _, _⟩) rfl st ?_; apply Exists.intro; refine ⟨?_, ?_⟩; (focus (go_simp; try rfl)); (clear st; intro b8 w hb st; clear hb))); (try simp only [nsl, Value.cells, unB] at st); (try clear hc); have hc := st.facts; (try simp only [nfl, nft, Nat.reduceAdd] at hc))
      replace st := st.newPen (i := 2) get2
      (try simp only [nsl, Value.cells, unB] at st)
      (try clear hc); have hc := st.facts; (try simp only [nfl, nft, Nat.reduceAdd] at hc)
      obtain ⟨fr', al', st', back⟩ := st.sub [2] (by decide) (by simp)
      (try simp only [nsl, Value.cells, unB] at st')
      refine (penNumber_c st' 4 (by decide) (by simp)).mono ?_
      clear st'
      rintro en w ⟨rfl, st'⟩
      replace st := back _ _ (by simp) st'
      clear back st'
      (try simp only [nsl, Value.cells, unB] at st)
      (try clear hc); have hc := st.facts; (try simp only [nfl, nft, Nat.reduceAdd] at hc)
      go_wp2_with fail
      (try rw [List.nil_append] at st)
      obtain ⟨fr', al', st', back⟩ := st.sub [2] (by decide) (by simp)
      (try simp only [nsl, Value.cells, unB] at st')
      refine (rolePut_yes st' (ho, hd) HH.out (by omega)).mono ?_
      clear st'
      rintro en w ⟨rfl, st'⟩
      replace st := back _ _ (by simp) st'
      clear back st'
      (try simp only [nsl, Value.cells, unB] at st)
      (try clear hc); have hc := st.facts; (try simp only [nfl, nft, Nat.reduceAdd] at hc)
      go_wp2_with fail
      obtain ⟨fr', al', st', back⟩ := st.sub [2] (by decide) (by simp)
      (try simp only [nsl, Value.cells, unB] at st')
      refine (rolePut_yes st' (bo, bd) HW.out (by simp; omega)).mono ?_
      clear st'
      rintro en w ⟨rfl, st'⟩
      replace st := back _ _ (by simp) st'
      clear back st'
      (try simp only [nsl, Value.cells, unB] at st)
      (try clear hc); have hc := st.facts; (try simp only [nfl, nft, Nat.reduceAdd] at hc)
      go_wp2_with fail
      obtain ⟨fr', al', st', back⟩ := st.sub [2] (by decide) (by simp)
      (try simp only [nsl, Value.cells, unB] at st')
      refine (rolePut_yes st' (co, cd) HN.out (by simp; omega)).mono ?_
      clear st'
      rintro en w ⟨rfl, st'⟩
      replace st := back _ _ (by simp) st'
      clear back st'
      (try simp only [nsl, Value.cells, unB] at st)
      (try clear hc); have hc := st.facts; (try simp only [nfl, nft, Nat.reduceAdd] at hc)
      obtain ⟨u, hu⟩ : ∃ u, (numB 4 ++ roleB (ho, hd) ++ roleB (bo, bd) ++ roleB (co, cd)) = u := ⟨_, rfl⟩
      rw [hu] at st
      have HU : Hid (r = u) := Lib.hid (by rw [HE.out, if_pos H.out, ← hu]; simp [credB])
      have hul : u.length ≤ 300 := by rw [← hu]; simp; omega
      clear hu
      go_wp2_with fail
      obtain ⟨fr', al', st', back⟩ := st.sub [2] (by decide) (by simp)
      (try simp only [nsl, Value.cells, unB] at st')
      refine (penBytes_c st' (by omega)).mono ?_
      clear st'
      rintro en w ⟨pa, pc, rfl, hpc, st'⟩
      replace st := back _ _ (by simp) st'
      clear back st'
      (try simp only [nsl, Value.cells, unB] at st)
      (try clear hc); have hc := st.facts; (try simp only [nfl, nft, Nat.reduceAdd] at hc)
      go_wp2_with fail
      go_ret
      exact ⟨_, _, _, rfl, hpc, by rw [HU.out]; exact st.by (i := 3) get3, st.ext0⟩
end Go.Proofs.YtekngjkjgmplpaaGreat

namespace Go.Proofs.YtekngjkjgmplpaaGreat
set_option linter.unusedSimpArgs false
set_option linter.unusedVariables false
open Go Go.RowKit
/-- One behind another. -/
def bd {α β : Type} (r : Except Int (α × List UInt8)) (f : α → List UInt8 → Except Int β) : Except Int β := match r with | .error e => .error e | .ok p => f p.1 p.2
theorem bd_er {α β : Type} (e : Int) (f : α → List UInt8 → Except Int β) : bd (.error e) f = .error e := rfl
theorem bd_ok {α β : Type} (x : α) (ys : List UInt8) (f : α → List UInt8 → Except Int β) : bd (.ok (x, ys)) f = f x ys := rfl
def okCr (c : CredT) (ys : List UInt8) : Except Int (CredT × List UInt8) := if credR c = true then .ok (c, ys) else .error 11
/-- The next credential. -/
def rdCred (xs : List UInt8) : Except Int (CredT × List UInt8) :=
  bd (rdNumber 9223372036854775807 xs) fun n ys => if n < 1 ∨ 4 < n then .error 11 else
  bd (rdRole ys) fun h zs => if n = 1 then bd (rdName zs) fun w us => okCr ⟨1, h, w, nR, nR, []⟩ us
    else bd (rdRole zs) fun b us => if n = 2 then okCr ⟨2, h, [], b, nR, []⟩ us else if n = 3 then bd (rdName us) fun e vs => okCr ⟨3, h, [], b, nR, e⟩ vs else bd (rdRole us) fun c vs => okCr ⟨4, h, [], b, c, []⟩ vs
theorem rdRole_le {xs ys : List UInt8} {h : Role} (hr : rdRole xs = .ok (h, ys)) : ys.length ≤ xs.length ∧ roleR h = true := by
  unfold rdRole at hr
  cases h1 : rdName xs with
  | error e => rw [h1] at hr; simp at hr
  | ok p =>
    obtain ⟨o, zs⟩ := p
    rw [h1] at hr
    simp only at hr
    cases h2 : rdName zs with
    | error e => rw [h2] at hr; simp at hr
    | ok q =>
      obtain ⟨d, us⟩ := q
      rw [h2] at hr
      simp at hr
      obtain ⟨rfl, rfl⟩ := hr
      have a1 := rdName_le h1
      have a2 := rdName_le h2
      exact ⟨by omega, by simp [roleR, a1.2, a2.2]⟩
theorem rdNumber_le {most : Int} {xs ys : List UInt8} {n : Nat} (hr : rdNumber most xs = .ok (n, ys)) : ys.length ≤ xs.length := by
  unfold rdNumber at hr
  cases h : rdNum xs with
  | error e => rw [h] at hr; simp at hr
  | ok p =>
    obtain ⟨m, zs⟩ := p
    rw [h] at hr
    simp only at hr
    have := rdNum_lt h
    split at hr
    · simp at hr
    · simp at hr; obtain ⟨rfl, rfl⟩ := hr; omega
set_option maxRecDepth 100000 in
set_option maxHeartbeats 2000000 in
theorem credGet_c {fr al : Nat → Prop} {w : World} {r : Nat} {xs : List UInt8} (st : Own fr al w [rdI r xs] w) (hl : xs.length ≤ 100000) :
    Calls Tryz.prog 51 #[.pointer (some ⟨r, 0, none⟩)] w (RdC fr al w r (rdCred xs) fun s v M => v = cV s ∧ M = []) := by
  go_enter Tryz.func51, Tryz.ntmps51
  go_wp2_with ((((with_reducible refine wl_alloc ?_ (fun K hK => ?_)); rfl; refine owp_alloc (o := ⟨some 2, _, _, _, _, _⟩) rfl st ?_; apply Exists.intro; apply Exists.intro; refine ⟨?_, ?_⟩; (focus (first | (go_simp; done) | (go_simp; rfl))); (clear st; intro b2 w hb st; clear hb))); (try simp only [nsl, Value.cells, unB] at st); (try clear hc); have hc := st.facts; (try simp only [nfl, nft, Nat.reduceAdd] at hc))
  obtain ⟨fr', al', st', back⟩ := st.sub [0] (by decide) (by simp)
  (try simp only [nsl, Value.cells, unB] at st')
  refine (number_c st' 9223372036854775807).mono ?_
  clear st'
  intro en w hen
  unfold RdC at hen
  cases hr : rdNumber 9223372036854775807 xs with
  | error e =>
    rw [hr] at hen
    obtain ⟨rfl, st'⟩ := hen
    replace st := back _ _ (by simp) st'
    clear back st'
    (try simp only [nsl, Value.cells, unB] at st)
    (try clear hc); have hc := st.facts; (try simp only [nfl, nft, Nat.reduceAdd] at hc)
    have H1 : Hid (rdCred xs = .error e) := Lib.hid (by simp [rdCred,  hr, bd])
    clear hr
    go_wp2_with fail
    refine ⟨rfl, ?_⟩
    unfold RdC
    rw [H1.out]
    have st' := st.keep [0] (by decide) (by simp)
    exact ⟨rfl, by simpa [pick] using st'⟩
  | ok p =>
    obtain ⟨n, ys⟩ := p
    rw [hr] at hen
    obtain ⟨v, M, rfl, ⟨rfl, rfl⟩, st'⟩ := hen
    replace st := back _ _ (by simp) st'
    clear back st'
    (try simp only [nsl, Value.cells, unB] at st)
    (try clear hc); have hc := st.facts; (try simp only [nfl, nft, Nat.reduceAdd] at hc)
    have hl0 := rdNumber_le hr
    have HR0 := Lib.hid hr
    clear hr
    match n, HR0 with
    | 0, HR0 =>
      have H1 : Hid (rdCred xs = .error 11) := Lib.hid (by simp [rdCred, HR0.out, bd])
      go_wp2_with ((first
            | ((with_reducible refine wl_alloc ?_ (fun K hK => ?_)); rfl; refine owp_alloc (o := ⟨some 3, _, _, _, _, _⟩) rfl st ?_; apply Exists.intro; apply Exists.intro; refine ⟨?_, ?_⟩; (focus (first | (go_simp; done) | (go_simp; rfl))); (clear st; intro b3 w hb st; clear hb))
            | ((with_reducible refine wl_store ?_ (fun K hK => ?_)); rfl; refine owp_store rfl st ?_; apply Exists.intro; apply Exists.intro; refine ⟨?_, ?_, ?_⟩; (focus (go_simp; try rfl)); (focus (go_simp; try rfl)); (with_reducible refine ⟨2, _, _, _, _, get2, rfl, rfl, ?_, ?_, ?_, ?_⟩); (kernel_rfl); (simp [Value.cells]); (rfl); (clear st; intro w st))); (try simp only [nsl, Value.cells, unB] at st); (try clear hc); have hc := st.facts; (try simp only [nfl, nft, Nat.reduceAdd] at hc))
      obtain ⟨_, sq, ⟨_, hrd⟩, _⟩ := st.get (i := 0) (I := rdI r ys) get0
      have HRD := Lib.hid hrd.any
      clear hrd
      go_wp2_with fail
      refine (fail_any _ r 11 HRD.out (by decide)).mono ?_
      rintro en w' ⟨rfl, rfl⟩
      go_wp2_with fail
      refine ⟨rfl, ?_⟩
      unfold RdC
      rw [H1.out]
      have st' := (st.rdAny (i := 0) get0).keep [0] (by decide) (by simp)
      exact ⟨rfl, by simpa [pick] using st'⟩
    | 1, HR0 =>
      go_wp2_with ((first
            | ((with_reducible refine wl_alloc ?_ (fun K hK => ?_)); rfl; refine owp_alloc (o := ⟨some 3, _, _, _, _, _⟩) rfl st ?_; apply Exists.intro; apply Exists.intro; refine ⟨?_, ?_⟩; (focus (first | (go_simp; done) | (go_simp; rfl))); (clear st; intro b3 w hb st; clear hb))
            | ((with_reducible refine wl_store ?_ (fun K hK => ?_)); rfl; refine owp_store rfl st ?_; apply Exists.intro; apply Exists.intro; refine ⟨?_, ?_, ?_⟩; (focus (go_simp; try rfl)); (focus (go_simp; try rfl)); (with_reducible refine ⟨2, _, _, _, _, get2, rfl, rfl, ?_, ?_, ?_, ?_⟩); (kernel_rfl); (simp [Value.cells]); (rfl); (clear st; intro w st))); (try simp only [nsl, Value.cells, unB] at st); (try clear hc); have hc := st.facts; (try simp only [nfl, nft, Nat.reduceAdd] at hc))
      obtain ⟨fr', al', st', back⟩ := st.sub [0] (by decide) (by simp)
      (try simp only [nsl, Value.cells, unB] at st')
      refine (roleGet_c st' (by omega)).mono ?_
      clear st'
      intro en w hen
      unfold RdC at hen
      cases hr : rdRole ys with
      | error e =>
        rw [hr] at hen
        obtain ⟨rfl, st'⟩ := hen
        replace st := back _ _ (by simp) st'
        clear back st'
        (try simp only [nsl, Value.cells, unB] at st)
        (try clear hc); have hc := st.facts; (try simp only [nfl, nft, Nat.reduceAdd] at hc)
        have H1 : Hid (rdCred xs = .error e) := Lib.hid (by simp [rdCred, HR0.out, hr, bd])
        clear hr
        go_wp2_with fail
        refine ⟨rfl, ?_⟩
        unfold RdC
        rw [H1.out]
        have st' := st.keep [0] (by decide) (by simp)
        exact ⟨rfl, by simpa [pick] using st'⟩
      | ok p =>
        obtain ⟨⟨ho, hd⟩, zs⟩ := p
        rw [hr] at hen
        obtain ⟨v, M, rfl, ⟨rfl, rfl⟩, st'⟩ := hen
        replace st := back _ _ (by simp) st'
        clear back st'
        (try simp only [nsl, Value.cells, unB] at st)
        (try clear hc); have hc := st.facts; (try simp only [nfl, nft, Nat.reduceAdd] at hc)
        have hl1 := rdRole_le hr
        have hl1b := roleR_len hl1.2
        have HR1 := Lib.hid hr
        clear hr
        simp only at hl1b
        unfold rV S
        go_wp2_with ((((with_reducible refine wl_store ?_ (fun K hK => ?_)); rfl; refine owp_store rfl st ?_; apply Exists.intro; apply Exists.intro; refine ⟨?_, ?_, ?_⟩; (focus (go_simp; try rfl)); (focus (go_simp; try rfl)); (with_reducible refine ⟨2, _, _, _, _, get2, rfl, rfl, ?_, ?_, ?_, ?_⟩); (kernel_rfl); (simp [Value.cells]); (rfl); (clear st; intro w st))); (try simp only [nsl, Value.cells, unB] at st); (try clear hc); have hc := st.facts; (try simp only [nfl, nft, Nat.reduceAdd] at hc))
        obtain ⟨fr', al', st', back⟩ := st.sub [0] (by decide) (by simp)
        (try simp only [nsl, Value.cells, unB] at st')
        refine (nameGet_c st' (by omega)).mono ?_
        clear st'
        intro en w hen
        unfold RdC at hen
        cases hr : rdName zs with
        | error e =>
          rw [hr] at hen
          obtain ⟨rfl, st'⟩ := hen
          replace st := back _ _ (by simp) st'
          clear back st'
          (try simp only [nsl, Value.cells, unB] at st)
          (try clear hc); have hc := st.facts; (try simp only [nfl, nft, Nat.reduceAdd] at hc)
          have H1 : Hid (rdCred xs = .error e) := Lib.hid (by simp [rdCred, HR0.out, HR1.out, hr, bd])
          clear hr
          go_wp2_with fail
          refine ⟨rfl, ?_⟩
          unfold RdC
          rw [H1.out]
          have st' := st.keep [0] (by decide) (by simp)
          exact ⟨rfl, by simpa [pick] using st'⟩
        | ok p =>
          obtain ⟨nw, us⟩ := p
          rw [hr] at hen
          obtain ⟨v, M, rfl, ⟨rfl, rfl⟩, st'⟩ := hen
          replace st := back _ _ (by simp) st'
          clear back st'
          (try simp only [nsl, Value.cells, unB] at st)
          (try clear hc); have hc := st.facts; (try simp only [nfl, nft, Nat.reduceAdd] at hc)
          have hl2 := rdName_le hr
          have hl2b := (nameR_len hl2.2).2
          have HR2 := Lib.hid hr
          clear hr
          unfold S
          have HQ := Lib.hid (fun W => credRight_any ⟨1, (ho, hd), nw, ([], []), ([], []), []⟩ W (by simp only [List.length_nil]; omega))
          unfold cV S at HQ
          simp only [nR] at HQ
          go_wp2_with ((((with_reducible refine wl_store ?_ (fun K hK => ?_)); rfl; refine owp_store rfl st ?_; apply Exists.intro; apply Exists.intro; refine ⟨?_, ?_, ?_⟩; (focus (go_simp; try rfl)); (focus (go_simp; try rfl)); (with_reducible refine ⟨2, _, _, _, _, get2, rfl, rfl, ?_, ?_, ?_, ?_⟩); (kernel_rfl); (simp [Value.cells]); (rfl); (clear st; intro w st))); (try simp only [nsl, Value.cells, unB] at st); (try clear hc); have hc := st.facts; (try simp only [nfl, nft, Nat.reduceAdd] at hc))
          refine (HQ.out _).mono ?_
          rintro en w ⟨rfl, hx⟩
          replace st := st.ext hx
          clear hx
          (try clear hc); have hc := st.facts; (try simp only [nfl, nft, Nat.reduceAdd] at hc)
          cases hcr : credR ⟨1, (ho, hd), nw, ([], []), ([], []), []⟩ with
          | true =>
            have H1 : Hid (rdCred xs = .ok (⟨1, (ho, hd), nw, ([], []), ([], []), []⟩, us)) := Lib.hid (by simp [rdCred, HR0.out, HR1.out, HR2.out, bd, okCr, nR, hcr])
            clear hcr HQ
            go_wp2_with ((((with_reducible refine wl_store ?_ (fun K hK => ?_)); rfl; refine owp_store rfl st ?_; apply Exists.intro; apply Exists.intro; refine ⟨?_, ?_, ?_⟩; (focus (go_simp; try rfl)); (focus (go_simp; try rfl)); (with_reducible refine ⟨1, _, _, _, _, get1, rfl, rfl, ?_, ?_, ?_, ?_⟩); (kernel_rfl); (simp [Value.cells]); (rfl); (clear st; intro w st))); (try simp only [nsl, Value.cells, unB] at st); (try clear hc); have hc := st.facts; (try simp only [nfl, nft, Nat.reduceAdd] at hc))
            (try simp only [Exit.inBlock, Exit.then])
            refine bodyPost_cell rfl rfl (st.blk (i := 1) get1) Tryz.underlying47 rfl (by kernel_rfl) rfl ?_
            unfold RdC
            rw [H1.out]
            have st' := st.keep [0] (by decide) (by simp)
            exact ⟨_, [], rfl, ⟨rfl, rfl⟩, by simpa [pick] using st'⟩
          | false =>
            have H1 : Hid (rdCred xs = .error 11) := Lib.hid (by simp [rdCred, HR0.out, HR1.out, HR2.out, bd, okCr, nR, hcr])
            clear hcr HQ
            obtain ⟨_, sq, ⟨_, hrd⟩, _⟩ := st.get (i := 0) (I := rdI r us) get0
            have HRD := Lib.hid hrd.any
            clear hrd
            go_wp2_with fail
            refine (fail_any _ r 11 HRD.out (by decide)).mono ?_
            rintro en w' ⟨rfl, rfl⟩
            go_wp2_with fail
            refine ⟨rfl, ?_⟩
            unfold RdC
            rw [H1.out]
            have st' := (st.rdAny (i := 0) get0).keep [0] (by decide) (by simp)
            exact ⟨rfl, by simpa [pick] using st'⟩
    | 2, HR0 =>
      go_wp2_with ((first
            | ((with_reducible refine wl_alloc ?_ (fun K hK => ?_)); rfl; refine owp_alloc (o := ⟨some 3, _, _, _, _, _⟩) rfl st ?_; apply Exists.intro; apply Exists.intro; refine ⟨?_, ?_⟩; (focus (first | (go_simp; done) | (go_simp; rfl))); (clear st; intro b3 w hb st; clear hb))
            | ((with_reducible refine wl_store ?_ (fun K hK => ?_)); rfl; refine owp_store rfl st ?_; apply Exists.intro; apply Exists.intro; refine ⟨?_, ?_, ?_⟩; (focus (go_simp; try rfl)); (focus (go_simp; try rfl)); (with_reducible refine ⟨2, _, _, _, _, get2, rfl, rfl, ?_, ?_, ?_, ?_⟩); (kernel_rfl); (simp [Value.cells]); (rfl); (clear st; intro w st))); (try simp only [nsl, Value.cells, unB] at st); (try clear hc); have hc := st.facts; (try simp only [nfl, nft, Nat.reduceAdd] at hc))
      obtain ⟨fr', al', st', back⟩ := st.sub [0] (by decide) (by simp)
      (try simp only [nsl, Value.cells, unB] at st')
      refine (roleGet_c st' (by omega)).mono ?_
      clear st'
      intro en w hen
      unfold RdC at hen
      cases hr : rdRole ys with
      | error e =>
        rw [hr] at hen
        obtain ⟨rfl, st'⟩ := hen
        replace st := back _ _ (by simp) st'
        clear back st'
        (try simp only [nsl, Value.cells, unB] at st)
        (try clear hc); have hc := st.facts; (try simp only [nfl, nft, Nat.reduceAdd] at hc)
        have H1 : Hid (rdCred xs = .error e) := Lib.hid (by simp [rdCred, HR0.out, hr, bd])
        clear hr
        go_wp2_with fail
        refine ⟨rfl, ?_⟩
        unfold RdC
        rw [H1.out]
        have st' := st.keep [0] (by decide) (by simp)
        exact ⟨rfl, by simpa [pick] using st'⟩
      | ok p =>
        obtain ⟨⟨ho, hd⟩, zs⟩ := p
        rw [hr] at hen
        obtain ⟨v, M, rfl, ⟨rfl, rfl⟩, st'⟩ := hen
        replace st := back _ _ (by simp) st'
        clear back st'
        (try simp only [nsl, Value.cells, unB] at st)
        (try clear hc); have hc := st.facts; (try simp only [nfl, nft, Nat.reduceAdd] at hc)
        have hl1 := rdRole_le hr
        have hl1b := roleR_len hl1.2
        have HR1 := Lib.hid hr
        clear hr
        simp only at hl1b
        unfold rV S
        go_wp2_with ((((with_reducible refine wl_store ?_ (fun K hK => ?_)); rfl; refine owp_store rfl st ?_; apply Exists.intro; apply Exists.intro; refine ⟨?_, ?_, ?_⟩; (focus (go_simp; try rfl)); (focus (go_simp; try rfl)); (with_reducible refine ⟨2, _, _, _, _, get2, rfl, rfl, ?_, ?_, ?_, ?_⟩); (kernel_rfl); (simp [Value.cells]); (rfl); (clear st; intro w st))); (try simp only [nsl, Value.cells, unB] at st); (try clear hc); have hc := st.facts; (try simp only [nfl, nft, Nat.reduceAdd] at hc))
        obtain ⟨fr', al', st', back⟩ := st.sub [0] (by decide) (by simp)
        (try simp only [nsl, Value.cells, unB] at st')
        refine (roleGet_c st' (by omega)).mono ?_
        clear st'
        intro en w hen
        unfold RdC at hen
        cases hr : rdRole zs with
        | error e =>
          rw [hr] at hen
          obtain ⟨rfl, st'⟩ := hen
          replace st := back _ _ (by simp) st'
          clear back st'
          (try simp only [nsl, Value.cells, unB] at st)
          (try clear hc); have hc := st.facts; (try simp only [nfl, nft, Nat.reduceAdd] at hc)
          have H1 : Hid (rdCred xs = .error e) := Lib.hid (by simp [rdCred, HR0.out, HR1.out, hr, bd])
          clear hr
          go_wp2_with fail
          refine ⟨rfl, ?_⟩
          unfold RdC
          rw [H1.out]
          have st' := st.keep [0] (by decide) (by simp)
          exact ⟨rfl, by simpa [pick] using st'⟩
        | ok p =>
          obtain ⟨⟨bo, bd'⟩, us⟩ := p
          rw [hr] at hen
          obtain ⟨v, M, rfl, ⟨rfl, rfl⟩, st'⟩ := hen
          replace st := back _ _ (by simp) st'
          clear back st'
          (try simp only [nsl, Value.cells, unB] at st)
          (try clear hc); have hc := st.facts; (try simp only [nfl, nft, Nat.reduceAdd] at hc)
          have hl2 := rdRole_le hr
          have hl2b := roleR_len hl2.2
          have HR2 := Lib.hid hr
          clear hr
          simp only at hl2b
          unfold rV S
          have HQ := Lib.hid (fun W => credRight_any ⟨2, (ho, hd), [], (bo, bd'), ([], []), []⟩ W (by simp only [List.length_nil]; omega))
          unfold cV S at HQ
          simp only [nR] at HQ
          go_wp2_with ((((with_reducible refine wl_store ?_ (fun K hK => ?_)); rfl; refine owp_store rfl st ?_; apply Exists.intro; apply Exists.intro; refine ⟨?_, ?_, ?_⟩; (focus (go_simp; try rfl)); (focus (go_simp; try rfl)); (with_reducible refine ⟨2, _, _, _, _, get2, rfl, rfl, ?_, ?_, ?_, ?_⟩); (kernel_rfl); (simp [Value.cells]); (rfl); (clear st; intro w st))); (try simp only [nsl, Value.cells, unB] at st); (try clear hc); have hc := st.facts; (try simp only [nfl, nft, Nat.reduceAdd] at hc))
          refine (HQ.out _).mono ?_
          rintro en w ⟨rfl, hx⟩
          replace st := st.ext hx
          clear hx
          (try clear hc); have hc := st.facts; (try simp only [nfl, nft, Nat.reduceAdd] at hc)
          cases hcr : credR ⟨2, (ho, hd), [], (bo, bd'), ([], []), []⟩ with
          | true =>
            have H1 : Hid (rdCred xs = .ok (⟨2, (ho, hd), [], (bo, bd'), ([], []), []⟩, us)) := Lib.hid (by simp [rdCred, HR0.out, HR1.out, HR2.out, bd, okCr, nR, hcr])
            clear hcr HQ
            go_wp2_with ((((with_reducible refine wl_store ?_ (fun K hK => ?_)); rfl; refine owp_store rfl st ?_; apply Exists.intro; apply Exists.intro; refine ⟨?_, ?_, ?_⟩; (focus (go_simp; try rfl)); (focus (go_simp; try rfl)); (with_reducible refine ⟨1, _, _, _, _, get1, rfl, rfl, ?_, ?_, ?_, ?_⟩); (kernel_rfl); (simp [Value.cells]); (rfl); (clear st; intro w st))); (try simp only [nsl, Value.cells, unB] at st); (try clear hc); have hc := st.facts; (try simp only [nfl, nft, Nat.reduceAdd] at hc))
            (try simp only [Exit.inBlock, Exit.then])
            refine bodyPost_cell rfl rfl (st.blk (i := 1) get1) Tryz.underlying47 rfl (by kernel_rfl) rfl ?_
            unfold RdC
            rw [H1.out]
            have st' := st.keep [0] (by decide) (by simp)
            exact ⟨_, [], rfl, ⟨rfl, rfl⟩, by simpa [pick] using st'⟩
          | false =>
            have H1 : Hid (rdCred xs = .error 11) := Lib.hid (by simp [rdCred, HR0.out, HR1.out, HR2.out, bd, okCr, nR, hcr])
            clear hcr HQ
            obtain ⟨_, sq, ⟨_, hrd⟩, _⟩ := st.get (i := 0) (I := rdI r us) get0
            have HRD := Lib.hid hrd.any
            clear hrd
            go_wp2_with fail
            refine (fail_any _ r 11 HRD.out (by decide)).mono ?_
            rintro en w' ⟨rfl, rfl⟩
            go_wp2_with fail
            refine ⟨rfl, ?_⟩
            unfold RdC
            rw [H1.out]
            have st' := (st.rdAny (i := 0) get0).keep [0] (by decide) (by simp)
            exact ⟨rfl, by simpa [pick] using st'⟩
    | 3, HR0 =>
      go_wp2_with ((first
            | ((with_reducible refine wl_alloc ?_ (fun K hK => ?_)); rfl; refine owp_alloc (o := ⟨some 3, _, _, _, _, _⟩) rfl st ?_; apply Exists.intro; apply Exists.intro; refine ⟨?_, ?_⟩; (focus (first | (go_simp; done) | (go_simp; rfl))); (clear st; intro b3 w hb st; clear hb))
            | ((with_reducible refine wl_store ?_ (fun K hK => ?_)); rfl; refine owp_store rfl st ?_; apply Exists.intro; apply Exists.intro; refine ⟨?_, ?_, ?_⟩; (focus (go_simp; try rfl)); (focus (go_simp; try rfl)); (with_reducible refine ⟨2, _, _, _, _, get2, rfl, rfl, ?_, ?_, ?_, ?_⟩); (kernel_rfl); (simp [Value.cells]); (rfl); (clear st; intro w st))); (try simp only [nsl, Value.cells, unB] at st); (try clear hc); have hc := st.facts; (try simp only [nfl, nft, Nat.reduceAdd] at hc))
      obtain ⟨fr', al', st', back⟩ := st.sub [0] (by decide) (by simp)
      (try simp only [nsl, Value.cells, unB] at st')
      refine (roleGet_c st' (by omega)).mono ?_
      clear st'
      intro en w hen
      unfold RdC at hen
      cases hr : rdRole ys with
      | error e =>
        rw [hr] at hen
        obtain ⟨rfl, st'⟩ := hen
        replace st := back _ _ (by simp) st'
        clear back st'
        (try simp only [nsl, Value.cells, unB] at st)
        (try clear hc); have hc := st.facts; (try simp only [nfl, nft, Nat.reduceAdd] at hc)
        have H1 : Hid (rdCred xs = .error e) := Lib.hid (by simp [rdCred, HR0.out, hr, bd])
        clear hr
        go_wp2_with fail
        refine ⟨rfl, ?_⟩
        unfold RdC
        rw [H1.out]
        have st' := st.keep [0] (by decide) (by simp)
        exact ⟨rfl, by simpa [pick] using st'⟩
      | ok p =>
        obtain ⟨⟨ho, hd⟩, zs⟩ := p
        rw [hr] at hen
        obtain ⟨v, M, rfl, ⟨rfl, rfl⟩, st'⟩ := hen
        replace st := back _ _ (by simp) st'
        clear back st'
        (try simp only [nsl, Value.cells, unB] at st)
        (try clear hc); have hc := st.facts; (try simp only [nfl, nft, Nat.reduceAdd] at hc)
        have hl1 := rdRole_le hr
        have hl1b := roleR_len hl1.2
        have HR1 := Lib.hid hr
        clear hr
        simp only at hl1b
        unfold rV S
        go_wp2_with ((((with_reducible refine wl_store ?_ (fun K hK => ?_)); rfl; refine owp_store rfl st ?_; apply Exists.intro; apply Exists.intro; refine ⟨?_, ?_, ?_⟩; (focus (go_simp; try rfl)); (focus (go_simp; try rfl)); (with_reducible refine ⟨2, _, _, _, _, get2, rfl, rfl, ?_, ?_, ?_, ?_⟩); (kernel_rfl); (simp [Value.cells]); (rfl); (clear st; intro w st))); (try simp only [nsl, Value.cells, unB] at st); (try clear hc); have hc := st.facts; (try simp only [nfl, nft, Nat.reduceAdd] at hc))
        obtain ⟨fr', al', st', back⟩ := st.sub [0] (by decide) (by simp)
        (try simp only [nsl, Value.cells, unB] at st')
        refine (roleGet_c st' (by omega)).mono ?_
        clear st'
        intro en w hen
        unfold RdC at hen
        cases hr : rdRole zs with
        | error e =>
          rw [hr] at hen
          obtain ⟨rfl, st'⟩ := hen
          replace st := back _ _ (by simp) st'
          clear back st'
          (try simp only [nsl, Value.cells, unB] at st)
          (try clear hc); have hc := st.facts; (try simp only [nfl, nft, Nat.reduceAdd] at hc)
          have H1 : Hid (rdCred xs = .error e) := Lib.hid (by simp [rdCred, HR0.out, HR1.out, hr, bd])
          clear hr
          go_wp2_with fail
          refine ⟨rfl, ?_⟩
          unfold RdC
          rw [H1.out]
          have st' := st.keep [0] (by decide) (by simp)
          exact ⟨rfl, by simpa [pick] using st'⟩
        | ok p =>
          obtain ⟨⟨bo, bd'⟩, us⟩ := p
          rw [hr] at hen
          obtain ⟨v, M, rfl, ⟨rfl, rfl⟩, st'⟩ := hen
          replace st := back _ _ (by simp) st'
          clear back st'
          (try simp only [nsl, Value.cells, unB] at st)
          (try clear hc); have hc := st.facts; (try simp only [nfl, nft, Nat.reduceAdd] at hc)
          have hl2 := rdRole_le hr
          have hl2b := roleR_len hl2.2
          have HR2 := Lib.hid hr
          clear hr
          simp only at hl2b
          unfold rV S
          go_wp2_with ((((with_reducible refine wl_store ?_ (fun K hK => ?_)); rfl; refine owp_store rfl st ?_; apply Exists.intro; apply Exists.intro; refine ⟨?_, ?_, ?_⟩; (focus (go_simp; try rfl)); (focus (go_simp; try rfl)); (with_reducible refine ⟨2, _, _, _, _, get2, rfl, rfl, ?_, ?_, ?_, ?_⟩); (kernel_rfl); (simp [Value.cells]); (rfl); (clear st; intro w st))); (try simp only [nsl, Value.cells, unB] at st); (try clear hc); have hc := st.facts; (try simp only [nfl, nft, Nat.reduceAdd] at hc))
          obtain ⟨fr', al', st', back⟩ := st.sub [0] (by decide) (by simp)
          (try simp only [nsl, Value.cells, unB] at st')
          refine (nameGet_c st' (by omega)).mono ?_
          clear st'
          intro en w hen
          unfold RdC at hen
          cases hr : rdName us with
          | error e =>
            rw [hr] at hen
            obtain ⟨rfl, st'⟩ := hen
            replace st := back _ _ (by simp) st'
            clear back st'
            (try simp only [nsl, Value.cells, unB] at st)
            (try clear hc); have hc := st.facts; (try simp only [nfl, nft, Nat.reduceAdd] at hc)
            have H1 : Hid (rdCred xs = .error e) := Lib.hid (by simp [rdCred, HR0.out, HR1.out, HR2.out, hr, bd])
            clear hr
            go_wp2_with fail
            refine ⟨rfl, ?_⟩
            unfold RdC
            rw [H1.out]
            have st' := st.keep [0] (by decide) (by simp)
            exact ⟨rfl, by simpa [pick] using st'⟩
          | ok p =>
            obtain ⟨we, vs⟩ := p
            rw [hr] at hen
            obtain ⟨v, M, rfl, ⟨rfl, rfl⟩, st'⟩ := hen
            replace st := back _ _ (by simp) st'
            clear back st'
            (try simp only [nsl, Value.cells, unB] at st)
            (try clear hc); have hc := st.facts; (try simp only [nfl, nft, Nat.reduceAdd] at hc)
            have hl3 := rdName_le hr
            have hl3b := (nameR_len hl3.2).2
            have HR3 := Lib.hid hr
            clear hr
            unfold S
            have HQ := Lib.hid (fun W => credRight_any ⟨3, (ho, hd), [], (bo, bd'), ([], []), we⟩ W (by simp only [List.length_nil]; omega))
            unfold cV S at HQ
            simp only [nR] at HQ
            go_wp2_with ((((with_reducible refine wl_store ?_ (fun K hK => ?_)); rfl; refine owp_store rfl st ?_; apply Exists.intro; apply Exists.intro; refine ⟨?_, ?_, ?_⟩; (focus (go_simp; try rfl)); (focus (go_simp; try rfl)); (with_reducible refine ⟨2, _, _, _, _, get2, rfl, rfl, ?_, ?_, ?_, ?_⟩); (kernel_rfl); (simp [Value.cells]); (rfl); (clear st; intro w st))); (try simp only [nsl, Value.cells, unB] at st); (try clear hc); have hc := st.facts; (try simp only [nfl, nft, Nat.reduceAdd] at hc))
            refine (HQ.out _).mono ?_
            rintro en w ⟨rfl, hx⟩
            replace st := st.ext hx
            clear hx
            (try clear hc); have hc := st.facts; (try simp only [nfl, nft, Nat.reduceAdd] at hc)
            cases hcr : credR ⟨3, (ho, hd), [], (bo, bd'), ([], []), we⟩ with
            | true =>
              have H1 : Hid (rdCred xs = .ok (⟨3, (ho, hd), [], (bo, bd'), ([], []), we⟩, vs)) := Lib.hid (by simp [rdCred, HR0.out, HR1.out, HR2.out, HR3.out, bd, okCr, nR, hcr])
              clear hcr HQ
              go_wp2_with ((((with_reducible refine wl_store ?_ (fun K hK => ?_)); rfl; refine owp_store rfl st ?_; apply Exists.intro; apply Exists.intro; refine ⟨?_, ?_, ?_⟩; (focus (go_simp; try rfl)); (focus (go_simp; try rfl)); (with_reducible refine ⟨1, _, _, _, _, get1, rfl, rfl, ?_, ?_, ?_, ?_⟩); (kernel_rfl); (simp [Value.cells]); (rfl); (clear st; intro w st))); (try simp only [nsl, Value.cells, unB] at st); (try clear hc); have hc := st.facts; (try simp only [nfl, nft, Nat.reduceAdd] at hc))
              (try simp only [Exit.inBlock, Exit.then])
              refine bodyPost_cell rfl rfl (st.blk (i := 1) get1) Tryz.underlying47 rfl (by kernel_rfl) rfl ?_
              unfold RdC
              rw [H1.out]
              have st' := st.keep [0] (by decide) (by simp)
              exact ⟨_, [], rfl, ⟨rfl, rfl⟩, by simpa [pick] using st'⟩
            | false =>
              have H1 : Hid (rdCred xs = .error 11) := Lib.hid (by simp [rdCred, HR0.out, HR1.out, HR2.out, HR3.out, bd, okCr, nR, hcr])
              clear hcr HQ
              obtain ⟨_, sq, ⟨_, hrd⟩, _⟩ := st.get (i := 0) (I := rdI r vs) get0
              have HRD := Lib.hid hrd.any
              clear hrd
              go_wp2_with fail
              refine (fail_any _ r 11 HRD.out (by decide)).mono ?_
              rintro en w' ⟨rfl, rfl⟩
              go_wp2_with fail
              refine ⟨rfl, ?_⟩
              unfold RdC
              rw [H1.out]
              have st' := (st.rdAny (i := 0) get0).keep [0] (by decide) (by simp)
              exact ⟨rfl, by simpa [pick] using st'⟩
    | 4, HR0 =>
      go_wp2_with ((first
            | ((with_reducible refine wl_alloc ?_ (fun K hK => ?_)); rfl; refine owp_alloc (o := ⟨some 3, _, _, _, _, _⟩) rfl st ?_; apply Exists.intro; apply Exists.intro; refine ⟨?_, ?_⟩; (focus (first | (go_simp; done) | (go_simp; rfl))); (clear st; intro b3 w hb st; clear hb))
            | ((with_reducible refine wl_store ?_ (fun K hK => ?_)); rfl; refine owp_store rfl st ?_; apply Exists.intro; apply Exists.intro; refine ⟨?_, ?_, ?_⟩; (focus (go_simp; try rfl)); (focus (go_simp; try rfl)); (with_reducible refine ⟨2, _, _, _, _, get2, rfl, rfl, ?_, ?_, ?_, ?_⟩); (kernel_rfl); (simp [Value.cells]); (rfl); (clear st; intro w st))); (try simp only [nsl, Value.cells, unB] at st); (try clear hc); have hc := st.facts; (try simp only [nfl, nft, Nat.reduceAdd] at hc))
      obtain ⟨fr', al', st', back⟩ := st.sub [0] (by decide) (by simp)
      (try simp only [nsl, Value.cells, unB] at st')
      refine (roleGet_c st' (by omega)).mono ?_
      clear st'
      intro en w hen
      unfold RdC at hen
      cases hr : rdRole ys with
      | error e =>
        rw [hr] at hen
        obtain ⟨rfl, st'⟩ := hen
        replace st := back _ _ (by simp) st'
        clear back st'
        (try simp only [nsl, Value.cells, unB] at st)
        (try clear hc); have hc := st.facts; (try simp only [nfl, nft, Nat.reduceAdd] at hc)
        have H1 : Hid (rdCred xs = .error e) := Lib.hid (by simp [rdCred, HR0.out, hr, bd])
        clear hr
        go_wp2_with fail
        refine ⟨rfl, ?_⟩
        unfold RdC
        rw [H1.out]
        have st' := st.keep [0] (by decide) (by simp)
        exact ⟨rfl, by simpa [pick] using st'⟩
      | ok p =>
        obtain ⟨⟨ho, hd⟩, zs⟩ := p
        rw [hr] at hen
        obtain ⟨v, M, rfl, ⟨rfl, rfl⟩, st'⟩ := hen
        replace st := back _ _ (by simp) st'
        clear back st'
        (try simp only [nsl, Value.cells, unB] at st)
        (try clear hc); have hc := st.facts; (try simp only [nfl, nft, Nat.reduceAdd] at hc)
        have hl1 := rdRole_le hr
        have hl1b := roleR_len hl1.2
        have HR1 := Lib.hid hr
        clear hr
        simp only at hl1b
        unfold rV S
        go_wp2_with ((((with_reducible refine wl_store ?_ (fun K hK => ?_)); rfl; refine owp_store rfl st ?_; apply Exists.intro; apply Exists.intro; refine ⟨?_, ?_, ?_⟩; (focus (go_simp; try rfl)); (focus (go_simp; try rfl)); (with_reducible refine ⟨2, _, _, _, _, get2, rfl, rfl, ?_, ?_, ?_, ?_⟩); (kernel_rfl); (simp [Value.cells]); (rfl); (clear st; intro w st))); (try simp only [nsl, Value.cells, unB] at st); (try clear hc); have hc := st.facts; (try simp only [nfl, nft, Nat.reduceAdd] at hc))
        obtain ⟨fr', al', st', back⟩ := st.sub [0] (by decide) (by simp)
        (try simp only [nsl, Value.cells, unB] at st')
        refine (roleGet_c st' (by omega)).mono ?_
        clear st'
        intro en w hen
        unfold RdC at hen
        cases hr : rdRole zs with
        | error e =>
          rw [hr] at hen
          obtain ⟨rfl, st'⟩ := hen
          replace st := back _ _ (by simp) st'
          clear back st'
          (try simp only [nsl, Value.cells, unB] at st)
          (try clear hc); have hc := st.facts; (try simp only [nfl, nft, Nat.reduceAdd] at hc)
          have H1 : Hid (rdCred xs = .error e) := Lib.hid (by simp [rdCred, HR0.out, HR1.out, hr, bd])
          clear hr
          go_wp2_with fail
          refine ⟨rfl, ?_⟩
          unfold RdC
          rw [H1.out]
          have st' := st.keep [0] (by decide) (by simp)
          exact ⟨rfl, by simpa [pick] using st'⟩
        | ok p =>
          obtain ⟨⟨bo, bd'⟩, us⟩ := p
          rw [hr] at hen
          obtain ⟨v, M, rfl, ⟨rfl, rfl⟩, st'⟩ := hen
          replace st := back _ _ (by simp) st'
          clear back st'
          (try simp only [nsl, Value.cells, unB] at st)
          (try clear hc); have hc := st.facts; (try simp only [nfl, nft, Nat.reduceAdd] at hc)
          have hl2 := rdRole_le hr
          have hl2b := roleR_len hl2.2
          have HR2 := Lib.hid hr
          clear hr
          simp only at hl2b
          unfold rV S
          go_wp2_with ((((with_reducible refine wl_store ?_ (fun K hK => ?_)); rfl; refine owp_store rfl st ?_; apply Exists.intro; apply Exists.intro; refine ⟨?_, ?_, ?_⟩; (focus (go_simp; try rfl)); (focus (go_simp; try rfl)); (with_reducible refine ⟨2, _, _, _, _, get2, rfl, rfl, ?_, ?_, ?_, ?_⟩); (kernel_rfl); (simp [Value.cells]); (rfl); (clear st; intro w st))); (try simp only [nsl, Value.cells, unB] at st); (try clear hc); have hc := st.facts; (try simp only [nfl, nft, Nat.reduceAdd] at hc))
          obtain ⟨fr', al', st', back⟩ := st.sub [0] (by decide) (by simp)
          (try simp only [nsl, Value.cells, unB] at st')
          refine (roleGet_c st' (by omega)).mono ?_
          clear st'
          intro en w hen
          unfold RdC at hen
          cases hr : rdRole us with
          | error e =>
            rw [hr] at hen
            obtain ⟨rfl, st'⟩ := hen
            replace st := back _ _ (by simp) st'
            clear back st'
            (try simp only [nsl, Value.cells, unB] at st)
            (try clear hc); have hc := st.facts; (try simp only [nfl, nft, Nat.reduceAdd] at hc)
            have H1 : Hid (rdCred xs = .error e) := Lib.hid (by simp [rdCred, HR0.out, HR1.out, HR2.out, hr, bd])
            clear hr
            go_wp2_with fail
            refine ⟨rfl, ?_⟩
            unfold RdC
            rw [H1.out]
            have st' := st.keep [0] (by decide) (by simp)
            exact ⟨rfl, by simpa [pick] using st'⟩
          | ok p =>
            obtain ⟨⟨co, cd⟩, vs⟩ := p
            rw [hr] at hen
            obtain ⟨v, M, rfl, ⟨rfl, rfl⟩, st'⟩ := hen
            replace st := back _ _ (by simp) st'
            clear back st'
            (try simp only [nsl, Value.cells, unB] at st)
            (try clear hc); have hc := st.facts; (try simp only [nfl, nft, Nat.reduceAdd] at hc)
            have hl3 := rdRole_le hr
            have hl3b := roleR_len hl3.2
            have HR3 := Lib.hid hr
            clear hr
            simp only at hl3b
            unfold rV S
            have HQ := Lib.hid (fun W => credRight_any ⟨4, (ho, hd), [], (bo, bd'), (co, cd), []⟩ W (by simp only [List.length_nil]; omega))
            unfold cV S at HQ
            simp only [nR] at HQ
            go_wp2_with ((((with_reducible refine wl_store ?_ (fun K hK => ?_)); rfl; refine owp_store rfl st ?_; apply Exists.intro; apply Exists.intro; refine ⟨?_, ?_, ?_⟩; (focus (go_simp; try rfl)); (focus (go_simp; try rfl)); (with_reducible refine ⟨2, _, _, _, _, get2, rfl, rfl, ?_, ?_, ?_, ?_⟩); (kernel_rfl); (simp [Value.cells]); (rfl); (clear st; intro w st))); (try simp only [nsl, Value.cells, unB] at st); (try clear hc); have hc := st.facts; (try simp only [nfl, nft, Nat.reduceAdd] at hc))
            refine (HQ.out _).mono ?_
            rintro en w ⟨rfl, hx⟩
            replace st := st.ext hx
            clear hx
            (try clear hc); have hc := st.facts; (try simp only [nfl, nft, Nat.reduceAdd] at hc)
            cases hcr : credR ⟨4, (ho, hd), [], (bo, bd'), (co, cd), []⟩ with
            | true =>
              have H1 : Hid (rdCred xs = .ok (⟨4, (ho, hd), [], (bo, bd'), (co, cd), []⟩, vs)) := Lib.hid (by simp [rdCred, HR0.out, HR1.out, HR2.out, HR3.out, bd, okCr, nR, hcr])
              clear hcr HQ
              go_wp2_with ((((with_reducible refine wl_store ?_ (fun K hK => ?_)); rfl; refine owp_store rfl st ?_; apply Exists.intro; apply Exists.intro; refine ⟨?_, ?_, ?_⟩; (focus (go_simp; try rfl)); (focus (go_simp; try rfl)); (with_reducible refine ⟨1, _, _, _, _, get1, rfl, rfl, ?_, ?_, ?_, ?_⟩); (kernel_rfl); (simp [Value.cells]); (rfl); (clear st; intro w st))); (try simp only [nsl, Value.cells, unB] at st); (try clear hc); have hc := st.facts; (try simp only [nfl, nft, Nat.reduceAdd] at hc))
              (try simp only [Exit.inBlock, Exit.then])
              refine bodyPost_cell rfl rfl (st.blk (i := 1) get1) Tryz.underlying47 rfl (by kernel_rfl) rfl ?_
              unfold RdC
              rw [H1.out]
              have st' := st.keep [0] (by decide) (by simp)
              exact ⟨_, [], rfl, ⟨rfl, rfl⟩, by simpa [pick] using st'⟩
            | false =>
              have H1 : Hid (rdCred xs = .error 11) := Lib.hid (by simp [rdCred, HR0.out, HR1.out, HR2.out, HR3.out, bd, okCr, nR, hcr])
              clear hcr HQ
              obtain ⟨_, sq, ⟨_, hrd⟩, _⟩ := st.get (i := 0) (I := rdI r vs) get0
              have HRD := Lib.hid hrd.any
              clear hrd
              go_wp2_with fail
              refine (fail_any _ r 11 HRD.out (by decide)).mono ?_
              rintro en w' ⟨rfl, rfl⟩
              go_wp2_with fail
              refine ⟨rfl, ?_⟩
              unfold RdC
              rw [H1.out]
              have st' := (st.rdAny (i := 0) get0).keep [0] (by decide) (by simp)
              exact ⟨rfl, by simpa [pick] using st'⟩
    | n + 5, HR0 =>
      have H1 : Hid (rdCred xs = .error 11) := Lib.hid (by simp [rdCred, HR0.out, bd])
      go_wp2_with ((first
            | ((with_reducible refine wl_alloc ?_ (fun K hK => ?_)); rfl; refine owp_alloc (o := ⟨some 3, _, _, _, _, _⟩) rfl st ?_; apply Exists.intro; apply Exists.intro; refine ⟨?_, ?_⟩; (focus (first | (go_simp; done) | (go_simp; rfl))); (clear st; intro b3 w hb st; clear hb))
            | ((with_reducible refine wl_store ?_ (fun K hK => ?_)); rfl; refine owp_store rfl st ?_; apply Exists.intro; apply Exists.intro; refine ⟨?_, ?_, ?_⟩; (focus (go_simp; try rfl)); (focus (go_simp; try rfl)); (with_reducible refine ⟨2, _, _, _, _, get2, rfl, rfl, ?_, ?_, ?_, ?_⟩); (kernel_rfl); (simp [Value.cells]); (rfl); (clear st; intro w st))); (try simp only [nsl, Value.cells, unB] at st); (try clear hc); have hc := st.facts; (try simp only [nfl, nft, Nat.reduceAdd] at hc))
      obtain ⟨_, sq, ⟨_, hrd⟩, _⟩ := st.get (i := 0) (I := rdI r ys) get0
      have HRD := Lib.hid hrd.any
      clear hrd
      go_wp2_with fail
      refine (fail_any _ r 11 HRD.out (by decide)).mono ?_
      rintro en w' ⟨rfl, rfl⟩
      go_wp2_with fail
      refine ⟨rfl, ?_⟩
      unfold RdC
      rw [H1.out]
      have st' := (st.rdAny (i := 0) get0).keep [0] (by decide) (by simp)
      exact ⟨rfl, by simpa [pick] using st'⟩
end Go.Proofs.YtekngjkjgmplpaaGreat

namespace Go.Proofs.YtekngjkjgmplpaaGreat
set_option linter.unusedSimpArgs false
set_option linter.unusedVariables false
open Go Go.RowKit
theorem rdName_put (s ys : List UInt8) (h : nameR s = true) : rdName (numB s.length ++ s ++ ys) = .ok (s, ys) := by
  unfold rdName
  rw [show (16 : Int) = ((16 : Nat) : Int) from rfl, rdText_put 16 s ys (nameR_len h).2 (by decide)]
  simp [h]
theorem rdRole_puts (x : Role) (ys : List UInt8) (h : roleR x = true) : rdRole (roleB x ++ ys) = .ok (x, ys) := by
  obtain ⟨o, d⟩ := x
  have hr : nameR o = true ∧ nameR d = true := by simpa [roleR] using h
  unfold rdRole roleB
  simp only
  rw [show numB o.length ++ o ++ (numB d.length ++ d) ++ ys = numB o.length ++ o ++ (numB d.length ++ d ++ ys) by simp, rdName_put o _ hr.1]
  simp only
  rw [rdName_put d ys hr.2]
end Go.Proofs.YtekngjkjgmplpaaGreat

namespace Go.Proofs.YtekngjkjgmplpaaGreat
set_option linter.unusedSimpArgs false
set_option linter.unusedVariables false
open Go Go.RowKit
theorem rdRole_err {xs : List UInt8} {e : Int} (h : rdRole xs = .error e) : e ≠ 0 := by
  unfold rdRole at h
  cases hr : rdName xs with
  | error e2 => rw [hr] at h; simp at h; subst h; exact rdName_er hr
  | ok p =>
    obtain ⟨o, ys⟩ := p
    rw [hr] at h; simp only at h
    cases hr2 : rdName ys with
    | error e2 => rw [hr2] at h; simp at h; subst h; exact rdName_er hr2
    | ok p => rw [hr2] at h; simp at h
theorem rdCred_er {xs : List UInt8} {e : Int} (h : rdCred xs = .error e) : e ≠ 0 := by
  have fin : ∀ {c ys}, okCr c ys = .error e → e ≠ 0 := fun {c ys} h => by
    unfold okCr at h; split at h
    · cases h
    · cases h; decide
  unfold rdCred at h
  cases h0 : rdNumber 9223372036854775807 xs with
  | error e0 => rw [h0, bd_er] at h; cases h; exact rdNumber_er h0
  | ok p =>
    obtain ⟨n, ys⟩ := p
    rw [h0, bd_ok] at h
    split at h
    · cases h; decide
    · cases h1 : rdRole ys with
      | error e0 => rw [h1, bd_er] at h; cases h; exact rdRole_err h1
      | ok p =>
        obtain ⟨hh, zs⟩ := p
        rw [h1, bd_ok] at h
        split at h
        · cases h2 : rdName zs with
          | error e0 => rw [h2, bd_er] at h; cases h; exact rdName_er h2
          | ok p => obtain ⟨w, us⟩ := p; rw [h2, bd_ok] at h; exact fin h
        · cases h2 : rdRole zs with
          | error e0 => rw [h2, bd_er] at h; cases h; exact rdRole_err h2
          | ok p =>
            obtain ⟨b, us⟩ := p
            rw [h2, bd_ok] at h
            split at h
            · exact fin h
            · split at h
              · cases h3 : rdName us with
                | error e0 => rw [h3, bd_er] at h; cases h; exact rdName_er h3
                | ok p => obtain ⟨w, us⟩ := p; rw [h3, bd_ok] at h; exact fin h
              · cases h3 : rdRole us with
                | error e0 => rw [h3, bd_er] at h; cases h; exact rdRole_err h3
                | ok p => obtain ⟨w, us⟩ := p; rw [h3, bd_ok] at h; exact fin h
theorem rdNumber_leM {most : Int} {xs ys : List UInt8} {n : Nat} (hr : rdNumber most xs = .ok (n, ys)) : ys.length ≤ xs.length ∧ (n : Int) ≤ most := by
  unfold rdNumber at hr
  cases h : rdNum xs with
  | error e => rw [h] at hr; simp at hr
  | ok p =>
    obtain ⟨m, zs⟩ := p
    rw [h] at hr
    simp only at hr
    have := rdNum_lt h
    split at hr
    · simp at hr
    · simp at hr; obtain ⟨rfl, rfl⟩ := hr; omega
theorem rdCred_le2 {xs ys : List UInt8} {x : CredT} (h : rdCred xs = .ok (x, ys)) : ys.length ≤ xs.length ∧ credR x = true := by
  have fin : ∀ {c us}, okCr c us = .ok (x, ys) → us = ys ∧ credR x = true := fun {c us} h => by
    unfold okCr at h; split at h
    · cases h; exact ⟨rfl, by assumption⟩
    · cases h
  unfold rdCred at h
  cases h0 : rdNumber 9223372036854775807 xs with
  | error e0 => rw [h0, bd_er] at h; cases h
  | ok p =>
    obtain ⟨n, us⟩ := p
    have l0 := rdNumber_le h0
    rw [h0, bd_ok] at h
    split at h
    · cases h
    · cases h1 : rdRole us with
      | error e0 => rw [h1, bd_er] at h; cases h
      | ok p =>
        obtain ⟨hh, zs⟩ := p
        have l1 := (rdRole_le h1).1
        rw [h1, bd_ok] at h
        split at h
        · cases h2 : rdName zs with
          | error e0 => rw [h2, bd_er] at h; cases h
          | ok p => obtain ⟨w, vs⟩ := p; have l2 := (rdName_le h2).1; rw [h2, bd_ok] at h; obtain ⟨rfl, q⟩ := fin h; exact ⟨by omega, q⟩
        · cases h2 : rdRole zs with
          | error e0 => rw [h2, bd_er] at h; cases h
          | ok p =>
            obtain ⟨b, vs⟩ := p
            have l2 := (rdRole_le h2).1
            rw [h2, bd_ok] at h
            split at h
            · obtain ⟨rfl, q⟩ := fin h; exact ⟨by omega, q⟩
            · split at h
              · cases h3 : rdName vs with
                | error e0 => rw [h3, bd_er] at h; cases h
                | ok p => obtain ⟨w, ts⟩ := p; have l3 := (rdName_le h3).1; rw [h3, bd_ok] at h; obtain ⟨rfl, q⟩ := fin h; exact ⟨by omega, q⟩
              · cases h3 : rdRole vs with
                | error e0 => rw [h3, bd_er] at h; cases h
                | ok p => obtain ⟨w, ts⟩ := p; have l3 := (rdRole_le h3).1; rw [h3, bd_ok] at h; obtain ⟨rfl, q⟩ := fin h; exact ⟨by omega, q⟩
end Go.Proofs.YtekngjkjgmplpaaGreat

namespace Go.Proofs.YtekngjkjgmplpaaGreat
set_option linter.unusedSimpArgs false
set_option linter.unusedVariables false
open Go Go.RowKit
def CLen (x : CredT) : Prop := x.h.1.length ≤ 1000000 ∧ x.h.2.length ≤ 1000000 ∧ x.w.length ≤ 1000000 ∧ x.b.1.length ≤ 1000000 ∧ x.b.2.length ≤ 1000000 ∧ x.c.1.length ≤ 1000000 ∧ x.c.2.length ≤ 1000000 ∧ x.e.length ≤ 1000000
def CLenS (x : CredT) : Prop := x.h.1.length ≤ 100000 ∧ x.h.2.length ≤ 100000 ∧ x.w.length ≤ 100000 ∧ x.b.1.length ≤ 100000 ∧ x.b.2.length ≤ 100000 ∧ x.c.1.length ≤ 100000 ∧ x.c.2.length ≤ 100000 ∧ x.e.length ≤ 100000
theorem CLenS.big {x : CredT} (h : CLenS x) : CLen x := by unfold CLenS at h; unfold CLen; omega
theorem CLenS.L {x : CredT} (h : CLenS x) : CredL 100000 x := by unfold CLenS at h; unfold CredL; omega
theorem credR_L {x : CredT} (h : credR x = true) : CredL 100000 x := by
  obtain ⟨h1, hc⟩ := credR_cases h
  have a1 := roleR_len h1
  obtain ⟨k, hh, w, b, c, e⟩ := x
  simp only at h1 hc a1
  unfold CredL
  rcases hc with ⟨rfl, q1, rfl, rfl, rfl⟩ | ⟨rfl, q2, ⟨rfl, rfl, rfl⟩ | ⟨rfl, rfl, _, q5⟩ | ⟨rfl, rfl, q5, _⟩⟩
  · have := nameR_len q1
    simp only [nR, List.length_nil]; omega
  · have := roleR_len q2
    simp only [nR, List.length_nil]; omega
  · have := roleR_len q2
    have := nameR_len q5
    simp only [nR, List.length_nil]; omega
  · have := roleR_len q2
    have := roleR_len q5
    simp only [List.length_nil]; omega
theorem credR_S {x : CredT} (h : credR x = true) : CLenS x := by
  have := credR_L h
  unfold CredL at this
  unfold CLenS
  omega
theorem credB_len2 {x : CredT} (h : credR x = true) : (credB x).length ≤ 300 := by
  obtain ⟨hh, hc⟩ := credR_cases h
  obtain ⟨k, hd, nw, b, c, e⟩ := x
  simp only at hh hc
  have b1 := roleB_len hh
  rcases hc with ⟨rfl, hw, -, -, -⟩ | ⟨-, hbr, ⟨rfl, -, -⟩ | ⟨rfl, -, -, he⟩ | ⟨rfl, -, hcr, -⟩⟩
  · have := (nameR_len hw).2
    have : (numB nw.length).length ≤ 10 := numF_len 10 nw.length
    have : (numB 1).length = 1 := by decide +kernel
    simp [credB]; omega
  · have := roleB_len hbr
    have : (numB 2).length = 1 := by decide +kernel
    simp [credB]; omega
  · have := roleB_len hbr
    have := (nameR_len he).2
    have : (numB e.length).length ≤ 10 := numF_len 10 e.length
    have : (numB 3).length = 1 := by decide +kernel
    simp [credB]; omega
  · have := roleB_len hbr
    have := roleB_len hcr
    have : (numB 4).length = 1 := by decide +kernel
    simp [credB]; omega
end Go.Proofs.YtekngjkjgmplpaaGreat

namespace Go.Proofs.YtekngjkjgmplpaaGreat
set_option linter.unusedSimpArgs false
set_option linter.unusedVariables false
open Go Go.RowKit
def flI {α : Type} [Flt α] (a : Option Addr) (n : Nat) (xs : List α) : It where
  P _ s w := Fl w a n xs ∧ (0 < n → ∀ ad, a = some ad → s ad.block)
  st := by
    rintro e s w w' ⟨h1, h2⟩ hag
    refine ⟨⟨h1.1, fun h0 => ?_⟩, h2⟩
    obtain ⟨b, off, rfl, hc⟩ := h1.2 h0
    refine ⟨b, off, rfl, fun i x hi j v hj => ?_⟩
    rw [World.cell?_of_block (w := w) (hag b (.inr (h2 h0 _ rfl)))]
    exact hc i x hi j v hj
  facts _ := True
  ok := fun _ => trivial
section
variable {fr al : Nat → Prop} {w0 w : World} {L : List It} {α : Type} [Flt α]
theorem Own.flAt (st : Own fr al w0 L w) {i n : Nat} {a : Option Addr} {xs : List α} (hi : L[i]? = some (flI a n xs)) : Fl w a n xs := let ⟨_, _, h, _⟩ := st.get hi; h.1
theorem Own.rowToFl (st : Own fr al w0 L w) {i n c : Nat} {E : TypeId} {a : Option Addr} {xs : List α} (hi : L[i]? = some (rowI E (Flt.k α) (.slice a n c) n (cellsL xs))) : Own fr al w0 (L.set i (flI a n xs)) w :=
  st.conv hi fun e s ⟨h1, h2⟩ h3 => ⟨fun _ => False, fun k => e k, ⟨by
    obtain ⟨a', c', hv, _, h4⟩ := row_fl h1
    injection hv with q1 _ q3
    subst q1 q3
    exact h4, fun h0 ad had => by
    refine h2 _ ?_
    rw [had]; rfl⟩, fun _ q => q.elim, fun k hk => .inl hk, fun _ q => q.elim⟩
end
theorem rowFl' {α : Type} [Flt α] {fr al : Nat → Prop} {w0 w : World} {L : List It} (st : Own fr al w0 L w) {i n c : Nat} {a : Option Addr} {E : TypeId} {xs : List α} (hi : L[i]? = some (rowI E (Flt.k α) (.slice a n c) n (cellsL xs))) : (n ≤ c ∧ c ≤ maxLen) ∧ Fl w a n xs := by
  obtain ⟨a', c', hv, h2, h3⟩ := st.rowFl hi
  injection hv with q1 q2 q3
  subst q1 q3
  exact ⟨h2, h3⟩
/-- n of them, one behind another. -/
def rdN {α : Type} (f : List UInt8 → Except Int (α × List UInt8)) : Nat → List UInt8 → Except Int (List α × List UInt8)
  | 0, xs => .ok ([], xs)
  | n + 1, xs => match f xs with | .error e => .error e | .ok (x, ys) => match rdN f n ys with | .error e => .error e | .ok (l, zs) => .ok (x :: l, zs)
def addN {α : Type} (out : List α) (r : Except Int (List α × List UInt8)) : Except Int (List α × List UInt8) := match r with | .error e => .error e | .ok (l, zs) => .ok (out ++ l, zs)
section
variable {α : Type} (f : List UInt8 → Except Int (α × List UInt8))
theorem addN_nil (r : Except Int (List α × List UInt8)) : addN [] r = r := by
  cases r with
  | error e => rfl
  | ok p => rfl
theorem addN_end (out : List α) (ys : List UInt8) : addN out (rdN f 0 ys) = .ok (out, ys) := by simp [rdN, addN]
theorem addN_er (out : List α) (k : Nat) {ys : List UInt8} {e : Int} (h : f ys = .error e) : addN out (rdN f (k + 1) ys) = .error e := by simp [rdN, addN, h]
theorem addN_ok (out : List α) (k : Nat) {ys zs : List UInt8} {x : α} (h : f ys = .ok (x, zs)) : addN out (rdN f (k + 1) ys) = addN (out ++ [x]) (rdN f k zs) := by
  simp only [rdN, h]
  cases rdN f k zs with
  | error e => rfl
  | ok p => simp [addN]
theorem rdN_er {k : Nat} {xs : List UInt8} {e : Int} (hf : ∀ xs e, f xs = .error e → e ≠ 0) (h : rdN f k xs = .error e) : e ≠ 0 := by
  induction k generalizing xs e with
  | zero => simp [rdN] at h
  | succ k ih =>
    unfold rdN at h
    cases h1 : f xs with
    | error e2 => rw [h1] at h; simp at h; subst h; exact hf _ _ h1
    | ok p =>
      obtain ⟨x, zs⟩ := p
      rw [h1] at h
      simp only at h
      cases h2 : rdN f k zs with
      | error e2 => rw [h2] at h; simp at h; subst h; exact ih h2
      | ok q => rw [h2] at h; cases h
theorem rdN_put (g : α → List UInt8) (l : List α) (ys : List UInt8) (h : ∀ x ∈ l, ∀ ys, f (g x ++ ys) = .ok (x, ys)) : rdN f l.length (l.flatMap g ++ ys) = .ok (l, ys) := by
  induction l with
  | nil => simp [rdN]
  | cons x l ih =>
    simp only [List.length_cons, rdN, List.flatMap_cons, List.append_assoc]
    rw [h x (by simp)]
    simp only
    rw [ih fun y hy => h y (by simp [hy])]
end
end Go.Proofs.YtekngjkjgmplpaaGreat

namespace Go.Proofs.YtekngjkjgmplpaaGreat
set_option linter.unusedSimpArgs false
set_option linter.unusedVariables false
open Go Go.RowKit
/-- A credential and its tag. -/
structure SgnT where
  c : CredT
  a : Option Addr
  n : Nat
  m : Nat
  xs : List UInt8
deriving Inhabited
def sgC (x : SgnT) : List Value := [.int .i64 x.c.k, S x.c.h.1, S x.c.h.2, S x.c.w, S x.c.b.1, S x.c.b.2, S x.c.c.1, S x.c.c.2, S x.c.e, .slice x.a x.n x.m]
def sgV (x : SgnT) : Value := .agg #[.int .i64 x.c.k, S x.c.h.1, S x.c.h.2, S x.c.w, S x.c.b.1, S x.c.b.2, S x.c.c.1, S x.c.c.2, S x.c.e, .slice x.a x.n x.m]
instance fltSgn : Flt SgnT := ⟨10, sgC, fun _ => rfl, by decide, fun x u hu => by simp [sgC] at hu; rcases hu with rfl | rfl | rfl | rfl | rfl | rfl | rfl | rfl | rfl | rfl <;> rfl⟩
def SgOk (W : World) (x : SgnT) : Prop := (x.n ≤ x.m ∧ x.m ≤ maxLen) ∧ By W x.a x.n x.xs
theorem SgOk.ext {W W' : World} {x : SgnT} (h : SgOk W x) (hx : Ext W W') : SgOk W' x := ⟨h.1, h.2.ext hx⟩
theorem Fl.sgn {w : World} {a : Option Addr} {n : Nat} {xs : List SgnT} (h : Fl w a n xs) (h0 : 0 < n) : ∃ b off, a = some ⟨b, off, none⟩ ∧ ∀ j x, xs[j]? = some x → w.cell? ⟨b, off + j * 10, none⟩ = some (.int .i64 x.c.k) ∧ w.cell? ⟨b, off + j * 10 + 1, none⟩ = some (S x.c.h.1) ∧ w.cell? ⟨b, off + j * 10 + 2, none⟩ = some (S x.c.h.2) ∧ w.cell? ⟨b, off + j * 10 + 3, none⟩ = some (S x.c.w) ∧ w.cell? ⟨b, off + j * 10 + 4, none⟩ = some (S x.c.b.1) ∧ w.cell? ⟨b, off + j * 10 + 5, none⟩ = some (S x.c.b.2) ∧ w.cell? ⟨b, off + j * 10 + 6, none⟩ = some (S x.c.c.1) ∧ w.cell? ⟨b, off + j * 10 + 7, none⟩ = some (S x.c.c.2) ∧ w.cell? ⟨b, off + j * 10 + 8, none⟩ = some (S x.c.e) ∧ w.cell? ⟨b, off + j * 10 + 9, none⟩ = some (.slice x.a x.n x.m) := by
  obtain ⟨b, off, rfl, hc⟩ := h.2 h0
  exact ⟨b, off, rfl, fun j x hj => ⟨hc j x hj 0 _ rfl, hc j x hj 1 _ rfl, hc j x hj 2 _ rfl, hc j x hj 3 _ rfl, hc j x hj 4 _ rfl, hc j x hj 5 _ rfl, hc j x hj 6 _ rfl, hc j x hj 7 _ rfl, hc j x hj 8 _ rfl, hc j x hj 9 _ rfl⟩⟩
/-- A message. -/
structure MsgT where
  k : Int
  p : Int
  e : Int
  nm : List UInt8
  wa : Option Addr
  wn : Nat
  wc : Nat
  ws : List Role
  sa : Option Addr
  sn : Nat
  sc : Nat
  ss : List SgnT
deriving Inhabited
def mgC (x : MsgT) : List Value := [.int .i64 x.k, .int .i64 x.p, .int .i64 x.e, S x.nm, .slice x.wa x.wn x.wc, .slice x.sa x.sn x.sc]
def mgV (x : MsgT) : Value := .agg #[.int .i64 x.k, .int .i64 x.p, .int .i64 x.e, S x.nm, .slice x.wa x.wn x.wc, .slice x.sa x.sn x.sc]
instance fltMsg : Flt MsgT := ⟨6, mgC, fun _ => rfl, by decide, fun x u hu => by simp [mgC] at hu; rcases hu with rfl | rfl | rfl | rfl | rfl | rfl <;> rfl⟩
/-- What a message's slices read as. -/
def MgOk (W : World) (x : MsgT) : Prop := ((x.wn ≤ x.wc ∧ x.wc ≤ maxLen) ∧ Fl W x.wa x.wn x.ws) ∧ ((x.sn ≤ x.sc ∧ x.sc ≤ maxLen) ∧ Fl W x.sa x.sn x.ss) ∧ ∀ y ∈ x.ss, SgOk W y
theorem MgOk.ext {W W' : World} {x : MsgT} (h : MgOk W x) (hx : Ext W W') : MgOk W' x := ⟨⟨h.1.1, Arr.ext h.1.2 hx⟩, ⟨h.2.1.1, Arr.ext h.2.1.2 hx⟩, fun y hy => (h.2.2 y hy).ext hx⟩
def sameSg (x y : SgnT) : Bool := credEq x.c y.c && (x.xs == y.xs)
def sameSs : List SgnT → List SgnT → Bool
  | [], [] => true
  | x :: l, y :: m => sameSg x y && sameSs l m
  | [], _ :: _ => false
  | _ :: _, [] => false
def sameMg (x y : MsgT) : Bool := (x.k == y.k) && (x.p == y.p) && (x.e == y.e) && (x.nm == y.nm) && decide (x.ws = y.ws) && sameSs x.ss y.ss
theorem sameSs_step (l m : List SgnT) (j : Nat) (h : j < l.length) (h' : j < m.length) : sameSs (l.drop j) (m.drop j) = (sameSg l[j] m[j] && sameSs (l.drop (j + 1)) (m.drop (j + 1))) := by
  rw [List.drop_eq_getElem_cons h, List.drop_eq_getElem_cons h']; rfl
theorem sameSs_end (l m : List SgnT) (j : Nat) (h : l.length ≤ j) (h' : m.length ≤ j) : sameSs (l.drop j) (m.drop j) = true := by
  rw [List.drop_of_length_le h, List.drop_of_length_le h']; rfl
theorem sameSs_len : ∀ (l m : List SgnT), l.length ≠ m.length → sameSs l m = false
  | [], [], h => absurd rfl h
  | [], _ :: _, _ => rfl
  | _ :: _, [], _ => rfl
  | x :: l, y :: m, h => by unfold sameSs; rw [sameSs_len l m (by simpa using h), Bool.and_false]
end Go.Proofs.YtekngjkjgmplpaaGreat

namespace Go.Proofs.YtekngjkjgmplpaaGreat
set_option linter.unusedSimpArgs false
set_option linter.unusedVariables false
open Go Go.RowKit
def elF (w : World) (b : Nat) : List (Nat × Value) → Prop
  | [] => True
  | p :: l => w.cell? ⟨b, p.1, none⟩ = some p.2 ∧ elF w b l
theorem elF_of {w : World} {b : Nat} : ∀ {l : List (Nat × Value)}, (∀ p ∈ l, w.cell? ⟨b, p.1, none⟩ = some p.2) → elF w b l
  | [], _ => trivial
  | p :: l, h => ⟨h p (by simp), elF_of fun q hq => h q (by simp [hq])⟩
theorem elF_to {w : World} {b : Nat} : ∀ {l : List (Nat × Value)}, elF w b l → ∀ p ∈ l, w.cell? ⟨b, p.1, none⟩ = some p.2
  | [], _, p, hp => by simp at hp
  | q :: l, h, p, hp => by
    rcases List.mem_cons.1 hp with e | e
    · subst e; exact h.1
    · exact elF_to h.2 p e
def elI (b : Nat) (l : List (Nat × Value)) : It where
  P _ s w := s b ∧ ∀ p ∈ l, w.cell? ⟨b, p.1, none⟩ = some p.2
  st := fun {e s w w'} ⟨h1, h2⟩ hag => ⟨h1, fun p hp => by rw [World.cell?_of_block (w := w) (hag b (.inr h1))]; exact h2 p hp⟩
  facts w := elF w b l
  ok := fun h => elF_of h.2
theorem Own.addEl {fr al : Nat → Prop} {w0 w W : World} {L : List It} (st : Own fr al w0 L w) {i : Nat} (hi : L[i]? = some (oldI W)) (b o : Nat) (v : Value) (l : List (Nat × Value)) (h : elF W b ((o, v) :: l)) : Own fr al w0 (L ++ [elI b ((o, v) :: l)]) w :=
  st.share hi fun e s h1 => ⟨h1.1 _ (show b < _ from World.block_lt_of_cell? W ⟨b, o, none⟩ h.1), fun p hp => by
    have hb : b < W.heap.size := World.block_lt_of_cell? W ⟨b, o, none⟩ h.1
    rw [World.cell?_of_block (w := W) (h1.2.2 b hb)]
    exact elF_to h p hp⟩
end Go.Proofs.YtekngjkjgmplpaaGreat

namespace Go.Proofs.YtekngjkjgmplpaaGreat
set_option linter.unusedSimpArgs false
set_option linter.unusedVariables false
open Go Go.RowKit
set_option maxRecDepth 100000 in
set_option maxHeartbeats 1000000 in
theorem roleEqual_any (a : Option Addr) (n c : Nat) (l : List Role) (a' : Option Addr) (n' c' : Nat) (l' : List Role) (W : World) (h : Fl W a n l) (h' : Fl W a' n' l') (hn : n ≤ 9000000000000000000) (hn' : n' ≤ 9000000000000000000) :
    Calls Tryz.prog 101 #[.slice a n c, .slice a' n' c'] W fun e w' => e = .returned (.bool (decide (l = l'))) ∧ Ext W w' := by
  have H := Lib.hid h
  have H' := Lib.hid h'
  have HNL := Lib.hid (And.intro h.1 h'.1)
  clear h h'
  have st := Own.startOld W
  (try simp only [nsl, Value.cells, unB] at st)
  (try clear hc); have hc := st.facts; (try simp only [nfl, nft, Nat.reduceAdd] at hc)
  by_cases hnn : n = n'
  · subst hnn
    go_enter Tryz.func101, Tryz.ntmps101
    go_wp2_with fail
    go_loopw [13] (fun i wr => ∃ (j : Nat), j ≤ n ∧ i = .int .i64 (j : Int) ∧ Hid (l.take j = l'.take j) ∧ Own (fun _ => False) (fun _ => True) W [oldI W] wr) (fun i _ => n - (intOf i).toNat)
    case atStart => exact ⟨0, by omega, rfl, Lib.hid (by simp), st⟩
    case round =>
      obtain ⟨j, hj, rfl, HT, st'⟩ := hrel
      clear st hc
      have st := st'
      clear st'
      (try simp only [nsl, Value.cells, unB] at st)
      (try clear hc); have hc := st.facts; (try simp only [nfl, nft, Nat.reduceAdd] at hc)
      by_cases hjn : j < n
      · obtain ⟨b, off, ha, hcell⟩ := H.out.role (by omega)
        obtain ⟨b', off', ha', hcell'⟩ := H'.out.role (by omega)
        have hjl : j < l.length := by have := HNL.out; omega
        have hjl' : j < l'.length := by have := HNL.out; omega
        have HC := Lib.hid (And.intro (hcell j l[j] (List.getElem?_eq_getElem hjl)) (hcell' j l'[j] (List.getElem?_eq_getElem hjl')))
        have hts : l.take (j + 1) = l.take j ++ [l[j]] := (List.take_append_getElem hjl).symm
        have hts' : l'.take (j + 1) = l'.take j ++ [l'[j]] := (List.take_append_getElem hjl').symm
        have hne : l[j] ≠ l'[j] → l ≠ l' := fun h1 h2 => h1 (by subst h2; rfl)
        clear hcell hcell'
        generalize l[j] = x at *
        generalize l'[j] = y at *
        obtain ⟨o, d⟩ := x
        obtain ⟨o', d'⟩ := y
        have HX := Lib.hid (And.intro hts (And.intro hts' hne))
        clear hts hts' hne
        subst ha
        subst ha'
        simp only at HC
        unfold S at HC
        go_wp2_with fail
        refine Rg4.wp_region4_eq #[0, 0, 3, 7, 0, 0, 48, 112, 255] [] [3, 7] (fun _ => True) [0, 1, 2, 3, 4, 5, 6, 7, 8] (by kernel_rfl) (by kernel_rfl) (by kernel_rfl) (by kernel_rfl) (show Rg4.PB _ by repeat (first | with_reducible exact Rg4.pb_body | with_reducible exact Rg4.pb_bodyD rfl | with_reducible refine Rg4.pb_then ?_ | with_reducible refine Rg4.pb_inBlock ?_ | with_reducible refine Rg4.pb_noGoto ?_)) (trivial) ?_
        replace st := st.drew
        change Rg4.wp4 _ _ _ _ _ _ _ _ _ (World.drew _) _ _
        generalize World.drew _ = w at st ⊢
        (try clear hc); have hc := st.facts; (try simp only [nfl, nft, Nat.reduceAdd] at hc)
        iterate 3 (refine Rg4.w4_any (Rg4.want_none rfl) rfl ?_; apply Exists.intro; refine ⟨fun w' => ?_, ?_⟩; (focus (first | (go_simp; done) | (go_simp; first | rfl | (rw [if_neg] <;> first | rfl | omega) | (rw [if_pos] <;> first | rfl | omega)))); (try simp only [Rg4.nrm]))
        (refine Rg4.w4_read (Rg4.want_none rfl) rfl rfl ?_; apply Exists.intro; refine ⟨fun w' hw' hcl' => ?_, ?_⟩; focus (subst hw'; have r0 := st.oldCell (i := 0) get0 HC.out.1.1; have r1 := st.oldCell (i := 0) get0 HC.out.1.2; have r2 := st.oldCell (i := 0) get0 HC.out.2.1; have r3 := st.oldCell (i := 0) get0 HC.out.2.2; (focus (first | (go_simp; done) | (go_simp; first | rfl | (rw [if_neg] <;> first | rfl | omega) | (rw [if_pos] <;> first | rfl | omega))))); (try simp only [Rg4.nrm]))
        iterate 3 (refine Rg4.w4_any (Rg4.want_none rfl) rfl ?_; apply Exists.intro; refine ⟨fun w' => ?_, ?_⟩; (focus (first | (go_simp; done) | (go_simp; first | rfl | (rw [if_neg] <;> first | rfl | omega) | (rw [if_pos] <;> first | rfl | omega)))); (try simp only [Rg4.nrm]))
        (refine Rg4.w4_read (Rg4.want_none rfl) rfl rfl ?_; apply Exists.intro; refine ⟨fun w' hw' hcl' => ?_, ?_⟩; focus (subst hw'; have r0 := st.oldCell (i := 0) get0 HC.out.1.1; have r1 := st.oldCell (i := 0) get0 HC.out.1.2; have r2 := st.oldCell (i := 0) get0 HC.out.2.1; have r3 := st.oldCell (i := 0) get0 HC.out.2.2; (focus (first | (go_simp; done) | (go_simp; first | rfl | (rw [if_neg] <;> first | rfl | omega) | (rw [if_pos] <;> first | rfl | omega))))); (try simp only [Rg4.nrm]))
        (refine Rg4.w4_any (Rg4.want_none rfl) rfl ?_; apply Exists.intro; refine ⟨fun w' => ?_, ?_⟩; (focus (first | (go_simp; done) | (go_simp; first | rfl | (rw [if_neg] <;> first | rfl | omega) | (rw [if_pos] <;> first | rfl | omega)))); (try simp only [Rg4.nrm]))
        refine Rg4.w4_nil (fun w' hw' hcl' _ => ?_); subst hw'; clear hcl'
        cases hxy : roleEq (o, d) (o', d') with
        | true =>
          have hb : (!true) = false := rfl
          have HF : Hid (l.take (j + 1) = l'.take (j + 1)) := Lib.hid (by rw [roleEq_eq, decide_eq_true_eq] at hxy; rw [HX.out.1, HX.out.2.1, HT.out, hxy])
          clear hxy
          simp only [hb]
          go_wp2_with fail
          exact ⟨⟨j + 1, by omega, by go_num, HF, st⟩, by simp [intOf]; omega⟩
        | false =>
          have hb : (!false) = true := rfl
          have HF : Hid (l ≠ l') := Lib.hid (HX.out.2.2 (by rw [roleEq_eq, decide_eq_false_iff_not] at hxy; exact hxy))
          clear hxy
          simp only [hb]
          go_wp2_with fail
          go_ret
          exact ⟨by rw [decide_eq_false HF.out]; rfl, st.ext0⟩
      · obtain rfl : j = n := by omega
        have HF : Hid (l = l') := Lib.hid (by have := HT.out; rw [List.take_of_length_le (by have := HNL.out; omega), List.take_of_length_le (by have := HNL.out; omega)] at this; exact this)
        go_wp2_with fail
        go_ret
        exact ⟨by rw [decide_eq_true HF.out]; rfl, st.ext0⟩
  · have HF : Hid (l ≠ l') := Lib.hid (fun h => hnn (by rw [HNL.out.1, HNL.out.2, h]))
    go_enter Tryz.func101, Tryz.ntmps101
    go_wp2_with fail
    go_ret
    exact ⟨by rw [decide_eq_false HF.out]; rfl, st.ext0⟩
set_option maxHeartbeats 400000 in
theorem bytesEqual_any (a : Option Addr) (n c : Nat) (xs : List UInt8) (a2 : Option Addr) (n2 c2 : Nat) (ys : List UInt8) (w : World) (h : By w a n xs) (h2 : By w a2 n2 ys) :
    Calls Tryz.prog 46 #[.slice a n c, .slice a2 n2 c2] w fun e w' => e = .returned (.bool (xs == ys)) ∧ Ext w w' := by
  have h3 := conv_bs (P := Tryz.prog) (src := 26) (dst := 9) (c := c) Tryz.underlying26 Tryz.underlying5 Tryz.underlying9 h
  have h4 := conv_bs (P := Tryz.prog) (src := 26) (dst := 9) (c := c2) Tryz.underlying26 Tryz.underlying5 Tryz.underlying9 h2
  unfold S at h3 h4
  have H := Lib.hid h; clear h
  have H2 := Lib.hid h2; clear h2
  go_enter Tryz.func46, Tryz.ntmps46
  go_wp2_with fail
  go_ret
  exact ⟨rfl, Ext.refl _⟩
set_option maxRecDepth 100000 in
set_option maxHeartbeats 1000000 in
theorem sgSame_any (x y : SgnT) (W : World) (hx : SgOk W x) (hy : SgOk W y) (hl : x.n ≤ 100000 ∧ y.n ≤ 100000) :
    Calls Tryz.prog 103 #[sgV x, sgV y] W fun e w' => e = .returned (.bool (sameSg x y)) ∧ Ext W w' := by
  have st := ((Own.startOld W).addOldBy (i := 0) rfl hx.2).addOldBy (i := 0) rfl hy.2
  obtain ⟨r, hr⟩ : ∃ r, sameSg x y = r := ⟨_, rfl⟩
  rw [hr]
  have HR : Hid (r = (credEq x.c y.c && (x.xs == y.xs))) := Lib.hid (by rw [← hr]; rfl)
  clear hr hx hy
  obtain ⟨⟨k, ⟨ho, hd⟩, nw, ⟨bo, bd⟩, ⟨co, cd⟩, we⟩, a, n, m, xs⟩ := x
  obtain ⟨⟨k', ⟨ho', hd'⟩, nw', ⟨bo', bd'⟩, ⟨co', cd'⟩, we'⟩, a', n', m', ys⟩ := y
  simp only at hl st HR
  unfold sgV S
  (try simp only [nsl, Value.cells, unB] at st)
  (try clear hc); have hc := st.facts; (try simp only [nfl, nft, Nat.reduceAdd] at hc)
  cases h1 : credEq (⟨k, (ho, hd), nw, (bo, bd), (co, cd), we⟩ : CredT) ⟨k', (ho', hd'), nw', (bo', bd'), (co', cd'), we'⟩ with
  | false =>
    have H1 : Hid (r = false) := Lib.hid (by rw [HR.out, h1]; rfl)
    go_enter Tryz.func103, Tryz.ntmps103
    go_wp2_with ((first
          | ((with_reducible refine wl_box ?_ (fun K hK => ?_)); rfl; refine owp_box (o := ⟨some 2, _, _, _, _, _⟩) rfl st ?_; apply Exists.intro; refine ⟨?_, ?_⟩; (focus (go_simp; try rfl)); (clear st; intro b2 w hb st; clear hb))
          | ((with_reducible refine wl_box ?_ (fun K hK => ?_)); rfl; refine owp_box (o := ⟨some 3, _, _, _, _, _⟩) rfl st ?_; apply Exists.intro; refine ⟨?_, ?_⟩; (focus (go_simp; try rfl)); (clear st; intro b3 w hb st; clear hb))); (try simp only [nsl, Value.cells, unB] at st); (try clear hc); have hc := st.facts; (try simp only [nfl, nft, Nat.reduceAdd] at hc))
    go_ret
    exact ⟨by rw [H1.out]; rfl, st.ext0⟩
  | true =>
    have H1 : Hid (r = (xs == ys)) := Lib.hid (by rw [HR.out, h1]; rfl)
    go_enter Tryz.func103, Tryz.ntmps103
    go_wp2_with ((first
          | ((with_reducible refine wl_box ?_ (fun K hK => ?_)); rfl; refine owp_box (o := ⟨some 2, _, _, _, _, _⟩) rfl st ?_; apply Exists.intro; refine ⟨?_, ?_⟩; (focus (go_simp; try rfl)); (clear st; intro b2 w hb st; clear hb))
          | ((with_reducible refine wl_box ?_ (fun K hK => ?_)); rfl; refine owp_box (o := ⟨some 3, _, _, _, _, _⟩) rfl st ?_; apply Exists.intro; refine ⟨?_, ?_⟩; (focus (go_simp; try rfl)); (clear st; intro b3 w hb st; clear hb))); (try simp only [nsl, Value.cells, unB] at st); (try clear hc); have hc := st.facts; (try simp only [nfl, nft, Nat.reduceAdd] at hc))
    refine (bytesEqual_any _ _ _ xs _ _ _ ys _ (st.by (i := 1) get1) (st.by (i := 2) get2)).mono ?_; rintro en w ⟨rfl, hx⟩; replace st := st.ext hx; clear hx; go_wp2_with fail
    go_ret
    exact ⟨by rw [H1.out]; rfl, st.ext0⟩
set_option maxRecDepth 100000 in
set_option maxHeartbeats 1000000 in
theorem refSgSame_any (x y : SgnT) (W : World) (hx : SgOk W x) (hy : SgOk W y) (hl : x.n ≤ 100000 ∧ y.n ≤ 100000) :
    Calls Tryz.prog 48 #[sgV x, sgV y] W fun e w' => e = .returned (.bool (sameSg x y)) ∧ Ext W w' := by
  have st := ((Own.startOld W).addOldBy (i := 0) rfl hx.2).addOldBy (i := 0) rfl hy.2
  obtain ⟨r, hr⟩ : ∃ r, sameSg x y = r := ⟨_, rfl⟩
  rw [hr]
  have HR : Hid (r = (credEq x.c y.c && (x.xs == y.xs))) := Lib.hid (by rw [← hr]; rfl)
  clear hr hx hy
  obtain ⟨⟨k, ⟨ho, hd⟩, nw, ⟨bo, bd⟩, ⟨co, cd⟩, we⟩, a, n, m, xs⟩ := x
  obtain ⟨⟨k', ⟨ho', hd'⟩, nw', ⟨bo', bd'⟩, ⟨co', cd'⟩, we'⟩, a', n', m', ys⟩ := y
  simp only at hl st HR
  unfold sgV S
  (try simp only [nsl, Value.cells, unB] at st)
  (try clear hc); have hc := st.facts; (try simp only [nfl, nft, Nat.reduceAdd] at hc)
  cases h1 : credEq (⟨k, (ho, hd), nw, (bo, bd), (co, cd), we⟩ : CredT) ⟨k', (ho', hd'), nw', (bo', bd'), (co', cd'), we'⟩ with
  | false =>
    have H1 : Hid (r = false) := Lib.hid (by rw [HR.out, h1]; rfl)
    go_enter Tryz.func48, Tryz.ntmps48
    go_wp2_with ((first
          | ((with_reducible refine wl_box ?_ (fun K hK => ?_)); rfl; refine owp_box (o := ⟨some 2, _, _, _, _, _⟩) rfl st ?_; apply Exists.intro; refine ⟨?_, ?_⟩; (focus (go_simp; try rfl)); (clear st; intro b2 w hb st; clear hb))
          | ((with_reducible refine wl_box ?_ (fun K hK => ?_)); rfl; refine owp_box (o := ⟨some 3, _, _, _, _, _⟩) rfl st ?_; apply Exists.intro; refine ⟨?_, ?_⟩; (focus (go_simp; try rfl)); (clear st; intro b3 w hb st; clear hb))); (try simp only [nsl, Value.cells, unB] at st); (try clear hc); have hc := st.facts; (try simp only [nfl, nft, Nat.reduceAdd] at hc))
    go_ret
    exact ⟨by rw [H1.out]; rfl, st.ext0⟩
  | true =>
    have H1 : Hid (r = (xs == ys)) := Lib.hid (by rw [HR.out, h1]; rfl)
    go_enter Tryz.func48, Tryz.ntmps48
    go_wp2_with ((first
          | ((with_reducible refine wl_box ?_ (fun K hK => ?_)); rfl; refine owp_box (o := ⟨some 2, _, _, _, _, _⟩) rfl st ?_; apply Exists.intro; refine ⟨?_, ?_⟩; (focus (go_simp; try rfl)); (clear st; intro b2 w hb st; clear hb))
          | ((with_reducible refine wl_box ?_ (fun K hK => ?_)); rfl; refine owp_box (o := ⟨some 3, _, _, _, _, _⟩) rfl st ?_; apply Exists.intro; refine ⟨?_, ?_⟩; (focus (go_simp; try rfl)); (clear st; intro b3 w hb st; clear hb))
          | ((with_reducible refine wl_convert ?_ (fun K hK => ?_)); rfl; (first | (refine owp_bs (o := ⟨some 13, _, _, _, _, _⟩) rfl st 1 get1 rfl Tryz.underlying26 Tryz.underlying5 Tryz.underlying9 ?_)))
          | ((with_reducible refine wl_convert ?_ (fun K hK => ?_)); rfl; (first | (refine owp_bs (o := ⟨some 16, _, _, _, _, _⟩) rfl st 2 get2 rfl Tryz.underlying26 Tryz.underlying5 Tryz.underlying9 ?_)))); (try simp only [nsl, Value.cells, unB] at st); (try clear hc); have hc := st.facts; (try simp only [nfl, nft, Nat.reduceAdd] at hc))
    skip
    go_ret
    exact ⟨by rw [H1.out]; rfl, st.ext0⟩
set_option maxRecDepth 100000 in
set_option maxHeartbeats 2000000 in
theorem sgEqualFunc_any (a : Option Addr) (n c : Nat) (l : List SgnT) (a' : Option Addr) (n' c' : Nat) (l' : List SgnT) (W : World) (h : Fl W a n l) (h' : Fl W a' n' l') (hn : n ≤ 2000000) (hn' : n' ≤ 2000000) (F : FuncId) (cap : Array Value)
    (hi : ∀ w x y, (callFunc F (#[x, y] ++ cap)).run Tryz.prog w = .ok (.enter F (#[x, y] ++ cap)) w)
    (hp : ∀ x ∈ l, ∀ y ∈ l', ∀ w, Ext W w → Calls Tryz.prog F (#[sgV x, sgV y] ++ cap) w fun e w' => e = .returned (.bool (sameSg x y)) ∧ Ext w w') :
    Calls Tryz.prog 102 #[.slice a n c, .slice a' n' c', .func (.func F) #[] cap] W fun e w' => e = .returned (.bool (sameSs l l')) ∧ Ext W w' := by
  have H := Lib.hid h
  have H' := Lib.hid h'
  have HNL := Lib.hid (And.intro h.1 h'.1)
  have HP := Lib.hid hp
  obtain ⟨r, hr⟩ : ∃ r, sameSs l l' = r := ⟨_, rfl⟩
  rw [hr]
  have HR := Lib.hid hr
  clear h h' hp hr
  have st := Own.startOld W
  (try simp only [nsl, Value.cells, unB] at st)
  (try clear hc); have hc := st.facts; (try simp only [nfl, nft, Nat.reduceAdd] at hc)
  by_cases hnn : n = n'
  · subst hnn
    go_enter Tryz.func102, Tryz.ntmps102
    go_wp2_with fail
    go_loopg [17] n (fun k i wr => ∃ (j : Nat), j ≤ n ∧ k = n - j ∧ i = .int .i64 (j : Int) ∧ Hid (r = sameSs (l.drop j) (l'.drop j)) ∧ Own (fun _ => False) (fun _ => True) W [oldI W] wr)
    case atStart => exact ⟨0, by omega, by omega, rfl, Lib.hid (by rw [List.drop_zero, List.drop_zero]; exact HR.out.symm), st⟩
    case round =>
      obtain ⟨j, hj, rfl, rfl, HT, st'⟩ := hrel
      clear st hc
      have st := st'
      clear st'
      (try simp only [nsl, Value.cells, unB] at st)
      (try clear hc); have hc := st.facts; (try simp only [nfl, nft, Nat.reduceAdd] at hc)
      by_cases hjn : j < n
      · obtain ⟨b, off, ha, hcell⟩ := H.out.sgn (by omega)
        obtain ⟨b', off', ha', hcell'⟩ := H'.out.sgn (by omega)
        have hjl : j < l.length := by have := HNL.out.1; omega
        have hjl' : j < l'.length := by have := HNL.out.2; omega
        have HC1 := Lib.hid (hcell j l[j] (List.getElem?_eq_getElem hjl))
        have HC2 := Lib.hid (hcell' j l'[j] (List.getElem?_eq_getElem hjl'))
        have hQ := HP.out l[j] (List.getElem_mem hjl) l'[j] (List.getElem_mem hjl')
        have HS : Hid (sameSs (l.drop j) (l'.drop j) = (sameSg l[j] l'[j] && sameSs (l.drop (j + 1)) (l'.drop (j + 1)))) := Lib.hid (sameSs_step l l' j hjl hjl')
        clear hcell hcell'
        generalize l[j] = x at *
        generalize l'[j] = y at *
        obtain ⟨q, hq⟩ : ∃ q, sameSg x y = q := ⟨_, rfl⟩
        rw [hq] at hQ HS
        clear hq hjl hjl'
        obtain ⟨⟨k1, ⟨ho, hd⟩, nw, ⟨bo, bd⟩, ⟨co, cd⟩, we⟩, a1, n1, m1, xs⟩ := x
        obtain ⟨⟨k2, ⟨ho', hd'⟩, nw', ⟨bo', bd'⟩, ⟨co', cd'⟩, we'⟩, a2, n2, m2, ys⟩ := y
        subst ha ha'
        simp only at HC1 HC2
        unfold S at HC1 HC2
        unfold sgV S at hQ
        have HQ := Lib.hid hQ
        clear hQ
        replace st := st.addEl (i := 0) get0 b (off + j * 10) (.int .i64 k1) [(off + j * 10 + 1, .string ⟨ho.toArray⟩), (off + j * 10 + 2, .string ⟨hd.toArray⟩), (off + j * 10 + 3, .string ⟨nw.toArray⟩), (off + j * 10 + 4, .string ⟨bo.toArray⟩), (off + j * 10 + 5, .string ⟨bd.toArray⟩), (off + j * 10 + 6, .string ⟨co.toArray⟩), (off + j * 10 + 7, .string ⟨cd.toArray⟩), (off + j * 10 + 8, .string ⟨we.toArray⟩), (off + j * 10 + 9, .slice a1 n1 m1)] (by simpa only [elF, and_true] using HC1.out)
        replace st := st.addEl (i := 0) get0 b' (off' + j * 10) (.int .i64 k2) [(off' + j * 10 + 1, .string ⟨ho'.toArray⟩), (off' + j * 10 + 2, .string ⟨hd'.toArray⟩), (off' + j * 10 + 3, .string ⟨nw'.toArray⟩), (off' + j * 10 + 4, .string ⟨bo'.toArray⟩), (off' + j * 10 + 5, .string ⟨bd'.toArray⟩), (off' + j * 10 + 6, .string ⟨co'.toArray⟩), (off' + j * 10 + 7, .string ⟨cd'.toArray⟩), (off' + j * 10 + 8, .string ⟨we'.toArray⟩), (off' + j * 10 + 9, .slice a2 n2 m2)] (by simpa only [elF, and_true] using HC2.out)
        (try simp only [nsl, Value.cells, unB] at st)
        (try clear hc); have hc := st.facts; (try simp only [nfl, nft, elI, elF, Nat.reduceAdd] at hc)
        go_wp2_with ((first
              | ((with_reducible refine wl_alloc ?_ (fun K hK => ?_)); rfl; refine owp_alloc (o := ⟨some 8, _, _, _, _, _⟩) rfl st ?_; apply Exists.intro; apply Exists.intro; refine ⟨?_, ?_⟩; (focus (first | (go_simp; done) | (go_simp; rfl))); (clear st; intro b8 w hb st; clear hb))
              | ((with_reducible refine wl_store ?_ (fun K hK => ?_)); rfl; refine owp_store rfl st ?_; apply Exists.intro; apply Exists.intro; refine ⟨?_, ?_, ?_⟩; (focus (go_simp; try rfl)); (focus (go_simp; try rfl)); (first | (with_reducible refine ⟨3, _, _, _, _, get3, rfl, rfl, ?_, ?_, ?_, ?_⟩) | (with_reducible refine ⟨4, _, _, _, _, get4, rfl, rfl, ?_, ?_, ?_, ?_⟩)); (kernel_rfl); (simp [Value.cells]); (rfl); (clear st; intro w st))
              | ((with_reducible refine wl_alloc ?_ (fun K hK => ?_)); rfl; refine owp_alloc (o := ⟨some 9, _, _, _, _, _⟩) rfl st ?_; apply Exists.intro; apply Exists.intro; refine ⟨?_, ?_⟩; (focus (first | (go_simp; done) | (go_simp; rfl))); (clear st; intro b9 w hb st; clear hb))); (try simp only [nsl, Value.cells, unB] at st); (try clear hc); have hc := st.facts; (try simp only [nfl, nft, elI, elF, Nat.reduceAdd] at hc))
        refine (HQ.out _ st.ext0).mono ?_
        rintro en w ⟨rfl, hx⟩
        replace st := st.ext hx
        clear hx
        cases q with
        | false =>
          have HF : Hid (r = false) := Lib.hid (by rw [HT.out, HS.out]; rfl)
          go_wp2_with fail
          go_ret
          exact ⟨by rw [HF.out]; rfl, st.ext0⟩
        | true =>
          have HF : Hid (r = sameSs (l.drop (j + 1)) (l'.drop (j + 1))) := Lib.hid (by rw [HT.out, HS.out]; rfl)
          go_wp2_with fail
          have st' := st.keep [0] (by decide) (by simp)
          go_roundg (n - (j + 1))
          case measure => omega
          case rel => exact ⟨j + 1, by omega, by omega, by go_num, HF, by simpa [pick] using st'⟩
      · obtain rfl : j = n := by omega
        have HF : Hid (r = true) := Lib.hid (by rw [HT.out]; exact sameSs_end _ _ _ (by have := HNL.out.1; omega) (by have := HNL.out.2; omega))
        go_wp2_with fail
        go_ret
        exact ⟨by rw [HF.out]; rfl, st.ext0⟩
  · have HF : Hid (r = false) := Lib.hid (by rw [← HR.out]; exact sameSs_len _ _ (by rw [← HNL.out.1, ← HNL.out.2]; exact hnn))
    go_enter Tryz.func102, Tryz.ntmps102
    go_wp2_with fail
    go_ret
    exact ⟨by rw [HF.out]; rfl, st.ext0⟩
end Go.Proofs.YtekngjkjgmplpaaGreat
