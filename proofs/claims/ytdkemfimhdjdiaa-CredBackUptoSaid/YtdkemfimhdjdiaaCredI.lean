/- The bytes of right credentials: read back; one to one. -/
import Derived.Test.YtdkemfimhdjdiaaCredD
import Derived.Test.YtdkemfimhdjdiaaRoleP
import Derived.Lib.IndexMore
import Derived.Lib.LastIndexLaws
namespace Go.Proofs.Ytdkemfimhdjdiaa
set_option linter.unusedSimpArgs false
set_option linter.unusedVariables false
open Go Go.RowKit
theorem rdRole_puts (x : Role) (ys : List UInt8) (h : roleR x = true) : rdRole (roleB x ++ ys) = .ok (x, ys) := by
  obtain ⟨o, d⟩ := x
  have hr : nameR o = true ∧ nameR d = true := by simpa [roleR] using h
  unfold rdRole roleB
  simp only
  rw [show numB o.length ++ o ++ (numB d.length ++ d) ++ ys = numB o.length ++ o ++ (numB d.length ++ d ++ ys) by simp, rdName_put o _ hr.1]
  simp only
  rw [rdName_put d ys hr.2]
/-- A name behind which ys lies is read. -/
theorem roleB_inj {x y : Role} {p q : List UInt8} (hx : roleR x = true) (hy : roleR y = true) (h : roleB x ++ p = roleB y ++ q) : x = y ∧ p = q := by
  have h1 := rdRole_puts x p hx
  rw [h, rdRole_puts y q hy] at h1
  injection h1 with h1
  injection h1 with h2 h3
  exact ⟨h2.symm, h3.symm⟩
theorem textB_inj {s t p q : List UInt8} (hs : nameR s = true) (ht : nameR t = true) (h : numB s.length ++ s ++ p = numB t.length ++ t ++ q) : s = t ∧ p = q := by
  have h1 := rdName_put s p hs
  rw [h, rdName_put t q ht] at h1
  injection h1 with h1
  injection h1 with h2 h3
  exact ⟨h2.symm, h3.symm⟩
theorem numB_k (k : Int) (h : k = 1 ∨ k = 2 ∨ k = 3 ∨ k = 4) : numB k.toNat = [k.toNat.toUInt8] := by
  rcases h with rfl | rfl | rfl | rfl <;> decide +kernel
theorem k_inj (k k' : Int) (h : k = 1 ∨ k = 2 ∨ k = 3 ∨ k = 4) (h' : k' = 1 ∨ k' = 2 ∨ k' = 3 ∨ k' = 4) (e : k.toNat.toUInt8 = k'.toNat.toUInt8) : k = k' := by
  rcases h with rfl | rfl | rfl | rfl <;> rcases h' with rfl | rfl | rfl | rfl <;> first | rfl | (exact absurd e (by decide))
theorem credB_inj {x y : CredT} (hx : credR x = true) (hy : credR y = true) (h : credB x = credB y) : x = y := by
  obtain ⟨h1, hc⟩ := credR_cases hx
  obtain ⟨h2, hd⟩ := credR_cases hy
  obtain ⟨k, hh, w, b, c, e⟩ := x
  obtain ⟨k', hh', w', b', c', e'⟩ := y
  simp only at h1 h2 hc hd
  have hk : k = 1 ∨ k = 2 ∨ k = 3 ∨ k = 4 := by rcases hc with q | ⟨_, _, q | q | q⟩ <;> simp [q.1]
  have hk' : k' = 1 ∨ k' = 2 ∨ k' = 3 ∨ k' = 4 := by rcases hd with q | ⟨_, _, q | q | q⟩ <;> simp [q.1]
  unfold credB at h
  simp only at h
  rw [numB_k k hk, numB_k k' hk'] at h
  simp only [List.append_assoc, List.cons_append, List.nil_append, List.cons.injEq] at h
  obtain ⟨he, h⟩ := h
  have ek := k_inj k k' hk hk' he
  subst ek
  have tA := roleB_inj h1 h2 h
  clear h
  obtain ⟨e1, h⟩ := tA
  subst e1
  rcases hc with ⟨rfl, q1, q2, q3, q4⟩ | ⟨q1, q2, q3⟩
  · rcases hd with ⟨_, p1, p2, p3, p4⟩ | ⟨_, _, p | p | p⟩
    · simp only [if_true] at h
      have hw := textB_inj (p := []) (q := []) q1 p1 (by simpa using h)
      rw [hw.1, q2, q3, q4, p2, p3, p4]
    · exact absurd p.1 (by decide)
    · exact absurd p.1 (by decide)
    · exact absurd p.1 (by decide)
  · have hk1 : k ≠ 1 := by rcases q3 with q | q | q <;> rw [q.1] <;> decide
    rcases hd with ⟨rfl, _⟩ | ⟨p1, p2, p3⟩
    · exact absurd rfl hk1
    · rw [if_neg hk1, if_neg hk1] at h
      have tB := roleB_inj q2 p2 h
      clear h
      obtain ⟨e2, h⟩ := tB
      subst e2
      rw [q1, p1]
      rcases q3 with ⟨rfl, q4, q5⟩ | ⟨rfl, q4, _, q5⟩ | ⟨rfl, q4, q5, _⟩
      · rcases p3 with ⟨_, p4, p5⟩ | ⟨p, _⟩ | ⟨p, _⟩
        · rw [q4, q5, p4, p5]
        · exact absurd p (by decide)
        · exact absurd p (by decide)
      · rcases p3 with ⟨p, _⟩ | ⟨_, p4, _, p5⟩ | ⟨p, _⟩
        · exact absurd p (by decide)
        · simp only [if_true] at h
          have hw := textB_inj (p := []) (q := []) q5 p5 (by simpa using h)
          rw [hw.1, q4, p4]
        · exact absurd p (by decide)
      · rcases p3 with ⟨p, _⟩ | ⟨p, _⟩ | ⟨_, p4, p5, _⟩
        · exact absurd p (by decide)
        · exact absurd p (by decide)
        · simp only [if_true, show ((4 : Int) = 3) = False from by simp, if_false] at h
          have hw := roleB_inj (p := []) (q := []) q5 p5 (by simpa using h)
          rw [hw.1, q4, p4]
end Go.Proofs.Ytdkemfimhdjdiaa

namespace Go.Proofs.Ytdkemfimhdjdiaa
set_option linter.unusedSimpArgs false
set_option linter.unusedVariables false
open Go Go.RowKit
open Go.Lib (index occAt NoOcc index_hit index_none index_spec index_room index_ge)
/-- A text, split at a text. -/
def splitF (sep : List UInt8) : Nat → List UInt8 → List (List UInt8)
  | 0, s => [s]
  | n + 1, s => if index s sep = -1 then [s] else s.take (index s sep).toNat :: splitF sep n (s.drop ((index s sep).toNat + sep.length))
def splitG (sep s : List UInt8) : List (List UInt8) := splitF sep s.length s
theorem occ_pre {s sub : List UInt8} {j : Nat} (h : occAt s sub j = true) : sub <+: s.drop j := List.isPrefixOf_iff_prefix.1 h
theorem occ_mem {s sub : List UInt8} {d : UInt8} (hd : d ∈ sub) (hs : ∀ x ∈ s, x ≠ d) (j : Nat) : occAt s sub j = false := by
  cases h : occAt s sub j with
  | false => rfl
  | true => exact absurd rfl (hs d (List.mem_of_mem_drop ((occ_pre h).subset hd)))
theorem occ_head {s t : List UInt8} {c : UInt8} {j : Nat} (hs : s[j]? ≠ some c) : occAt s (c :: t) j = false := by
  cases h : occAt s (c :: t) j with
  | false => rfl
  | true =>
    obtain ⟨r, hr⟩ := occ_pre h
    exfalso
    apply hs
    have := congrArg (fun l => l[0]?) hr
    simpa using this.symm
theorem noOcc_app {a b t : List UInt8} {c : UInt8} (h : ∀ x ∈ a, x ≠ c) : NoOcc (a ++ (c :: t) ++ b) (c :: t) a.length := fun j hj => occ_head (by
  rw [List.append_assoc, List.getElem?_append_left hj, List.getElem?_eq_getElem hj]
  intro e
  exact h _ (List.getElem_mem hj) (by simpa using e))
theorem index_app {a b t : List UInt8} {c : UInt8} (h : ∀ x ∈ a, x ≠ c) : index (a ++ (c :: t) ++ b) (c :: t) = a.length :=
  index_hit (noOcc_app h) (by simp) (by unfold occAt; rw [List.append_assoc, List.drop_left]; exact List.isPrefixOf_iff_prefix.2 (List.prefix_append _ _))
theorem splitF_fuel {sep : List UInt8} (hsep : sep ≠ []) : ∀ (n m : Nat) (s : List UInt8), s.length ≤ n → s.length ≤ m → splitF sep n s = splitF sep m s := by
  have key : ∀ (n m : Nat) (s : List UInt8), n ≤ m → s.length ≤ n → splitF sep n s = splitF sep m s := by
    intro n
    induction n with
    | zero =>
      intro m s _ hs
      have : s = [] := List.eq_nil_of_length_eq_zero (by omega)
      subst this
      cases m with
      | zero => rfl
      | succ m =>
        have hi : index [] sep = -1 := by cases sep with
          | nil => exact absurd rfl hsep
          | cons _ _ => rfl
        rw [splitF, splitF, if_pos hi]
    | succ n ih =>
      intro m s hm hs
      obtain ⟨m, rfl⟩ : ∃ k, m = k + 1 := ⟨m - 1, by omega⟩
      rw [splitF, splitF]
      split
      · rfl
      · congr 1
        refine ih m _ (by omega) ?_
        have : 0 < sep.length := List.length_pos_iff.2 hsep
        simp; omega
  intro n m s h1 h2
  rw [← key s.length n s h1 (Nat.le_refl _), ← key s.length m s h2 (Nat.le_refl _)]
theorem splitG_none {sep s : List UInt8} (h : index s sep = -1) : splitG sep s = [s] := by
  unfold splitG
  cases s with
  | nil => rfl
  | cons x s => rw [List.length_cons, splitF, if_pos h]
theorem splitG_some {sep s : List UInt8} (hsep : sep ≠ []) {i : Nat} (h : index s sep = i) : splitG sep s = s.take i :: splitG sep (s.drop (i + sep.length)) := by
  have hr := index_room s sep (by omega)
  have : 0 < sep.length := List.length_pos_iff.2 hsep
  unfold splitG
  cases hs : s with
  | nil => rw [hs] at hr h; simp at hr; rw [h] at hr; omega
  | cons x t =>
    rw [← hs]
    conv => lhs; rw [show s.length = t.length + 1 by rw [hs]; rfl]
    rw [splitF, if_neg (by omega), h]
    simp only [Int.toNat_natCast]
    congr 1
    refine splitF_fuel hsep _ _ _ ?_ (Nat.le_refl _)
    rw [List.length_drop, hs, List.length_cons]; omega
theorem splitG_app {a b t : List UInt8} {c : UInt8} (h : ∀ x ∈ a, x ≠ c) : splitG (c :: t) (a ++ (c :: t) ++ b) = a :: splitG (c :: t) b := by
  rw [splitG_some (by simp) (index_app h)]
  congr 1
  · rw [List.append_assoc, List.take_left]
  · rw [← List.length_append, List.drop_left]
theorem index_no {s sub : List UInt8} (h : ∀ j, occAt s sub j = false) : index s sub = -1 := index_none fun j _ => h j
theorem splitG_no {sep s : List UInt8} {d : UInt8} (hd : d ∈ sep) (hs : ∀ x ∈ s, x ≠ d) : splitG sep s = [s] := splitG_none (index_no fun j => occ_mem hd hs j)
def joinG (sep : List UInt8) : List (List UInt8) → List UInt8
  | [] => []
  | [x] => x
  | x :: y :: l => x ++ sep ++ joinG sep (y :: l)
theorem joinG_cons {sep x : List UInt8} {l : List (List UInt8)} (h : l ≠ []) : joinG sep (x :: l) = x ++ sep ++ joinG sep l := by
  cases l with
  | nil => exact absurd rfl h
  | cons y l => rfl
theorem splitF_ne (sep : List UInt8) : ∀ (n : Nat) (s : List UInt8), splitF sep n s ≠ []
  | 0, s => by simp [splitF]
  | n + 1, s => by rw [splitF]; split <;> simp
theorem take_sep {s sep : List UInt8} (h : index s sep ≠ -1) : s.take (index s sep).toNat ++ sep ++ s.drop ((index s sep).toNat + sep.length) = s := by
  rcases index_spec s sep with ⟨h1, _⟩ | ⟨i, h1, h2, h3, _⟩
  · exact absurd h1 h
  · rw [h1]
    simp only [Int.toNat_natCast]
    obtain ⟨r, hr⟩ := occ_pre h3
    have e : s.drop (i + sep.length) = r := by rw [← List.drop_drop, ← hr, List.drop_left]
    rw [e, List.append_assoc, hr, List.take_append_drop]
theorem splitG_join (sep : List UInt8) (s : List UInt8) : joinG sep (splitG sep s) = s := by
  unfold splitG
  generalize s.length = n
  induction n generalizing s with
  | zero => rfl
  | succ n ih =>
    rw [splitF]
    split
    · rfl
    · rename_i h
      rw [joinG_cons (splitF_ne sep n _), ih, take_sep h]

/-! The texts. -/
def arrow : List UInt8 := [32, 60, 45, 32]
def ampS : List UInt8 := [32, 38, 32]
def bodyT (x : CredT) : List UInt8 := if x.k = 1 then x.w else if x.k = 2 then roleT x.b else if x.k = 3 then roleT x.b ++ [46] ++ x.e else roleT x.b ++ ampS ++ roleT x.c
def credTx (x : CredT) : List UInt8 := roleT x.h ++ arrow ++ bodyT x
/-- Signs of a name. -/
def chOk (x : UInt8) : Prop := x ≠ 32 ∧ x ≠ 60 ∧ x ≠ 38
theorem sgn_ok : ∀ c : UInt8, sgn c = true → chOk c ∧ c ≠ 46 := fun c hc => by
  refine ⟨⟨?_, ?_, ?_⟩, ?_⟩ <;> (intro e; subst e; revert hc; decide)
theorem nameR_ok {s : List UInt8} (h : nameR s = true) : ∀ x ∈ s, chOk x ∧ x ≠ 46 := by
  cases s with
  | nil => intro x hx; simp at hx
  | cons c s =>
    have hl : (decide (s.length + 1 ≤ 16) && ltr c && (c :: s).all sgn) = true := h
    simp only [Bool.and_eq_true, List.all_eq_true] at hl
    intro x hx
    exact sgn_ok x (hl.2 x hx)
theorem roleT_ok {r : Role} (h : roleR r = true) : ∀ x ∈ roleT r, chOk x := by
  have hr : nameR r.1 = true ∧ nameR r.2 = true := by simpa [roleR] using h
  intro x hx
  simp only [roleT, List.mem_append, List.mem_singleton] at hx
  rcases hx with (hx | rfl) | hx
  · exact (nameR_ok hr.1 x hx).1
  · exact ⟨by decide, by decide, by decide⟩
  · exact (nameR_ok hr.2 x hx).1
theorem cutDot_join : ∀ {s : List UInt8} {p : List UInt8 × List UInt8}, cutDot s = some p → p.1 ++ [46] ++ p.2 = s
  | [], p, h => by cases h
  | x :: s, p, h => by
    rw [cutDot] at h
    split at h
    · rename_i hx; cases h; rw [hx]; rfl
    · cases hc : cutDot s with
      | none => rw [hc] at h; cases h
      | some q => rw [hc] at h; cases h; have := cutDot_join hc; simp at this ⊢; exact this
theorem roleP1_text {s : List UInt8} (h : roleR (roleP1 s) = true) : roleT (roleP1 s) = s := by
  unfold roleP1 roleP at *
  cases hc : cutDot s with
  | none => rw [hc] at h; exact absurd h (by decide +kernel)
  | some r =>
    rw [hc] at h
    simp only at h ⊢
    by_cases hr : roleR r = true
    · rw [if_pos hr]; exact cutDot_join hc
    · rw [if_neg hr] at h; exact absurd h (by decide +kernel)
theorem roleP1_of {r : Role} (h : roleR r = true) : roleP1 (roleT r) = r := by unfold roleP1; rw [roleP_text r h]; rfl
/-- Which credential a text is, as the reference tells. -/
def refQ (h : Role) (q : List UInt8) : Option CredT := match splitG ampS q with
  | [x, y] => some ⟨4, h, [], roleP1 x, roleP1 y, []⟩
  | _ :: _ :: _ :: _ => none
  | _ => match splitG [46] q with
    | [_] => some ⟨1, h, q, nR, nR, []⟩
    | [x, y] => some ⟨2, h, [], (x, y), nR, []⟩
    | [x, y, z] => some ⟨3, h, [], (x, y), nR, z⟩
    | _ => none
def onlyR (c : Option CredT) : Option CredT := c.bind fun c => if credR c = true then some c else none
def refP (s : List UInt8) : Option CredT := match splitG arrow s with
  | [p, q] => onlyR (refQ (roleP1 p) q)
  | _ => none
theorem body_60 {x : CredT} (h : credR x = true) : ∀ y ∈ bodyT x, y ≠ 60 := by
  obtain ⟨h1, h2⟩ := credR_cases h
  unfold bodyT
  rcases h2 with ⟨hk, hw, _⟩ | ⟨_, hb, ⟨hk, _⟩ | ⟨hk, _, _, he⟩ | ⟨hk, _, hc, _⟩⟩
  · rw [if_pos hk]; exact fun y hy => (nameR_ok hw y hy).1.2.1
  · rw [if_neg (by omega), if_pos hk]; exact fun y hy => (roleT_ok hb y hy).2.1
  · rw [if_neg (by omega), if_neg (by omega), if_pos hk]
    intro y hy
    simp only [List.mem_append, List.mem_singleton] at hy
    rcases hy with (hy | rfl) | hy
    · exact (roleT_ok hb y hy).2.1
    · decide
    · exact (nameR_ok he y hy).1.2.1
  · rw [if_neg (by omega), if_neg (by omega), if_neg (by omega)]
    intro y hy
    simp only [List.mem_append] at hy
    rcases hy with (hy | hy) | hy
    · exact (roleT_ok hb y hy).2.1
    · simp only [ampS, List.mem_cons, List.not_mem_nil, or_false] at hy; rcases hy with rfl | rfl | rfl <;> decide
    · exact (roleT_ok hc y hy).2.1
/-- The body's parts. -/
theorem body_amp {x : CredT} (h : credR x = true) (hk : x.k ≠ 4) : ∀ y ∈ bodyT x, y ≠ 32 := by
  obtain ⟨h1, h2⟩ := credR_cases h
  unfold bodyT
  rcases h2 with ⟨hk, hw, _⟩ | ⟨_, hb, ⟨hk, _⟩ | ⟨hk, _, _, he⟩ | ⟨hk', _⟩⟩
  · rw [if_pos hk]; exact fun y hy => (nameR_ok hw y hy).1.1
  · rw [if_neg (by omega), if_pos hk]; exact fun y hy => (roleT_ok hb y hy).1
  · rw [if_neg (by omega), if_neg (by omega), if_pos hk]
    intro y hy
    simp only [List.mem_append, List.mem_singleton] at hy
    rcases hy with (hy | rfl) | hy
    · exact (roleT_ok hb y hy).1
    · decide
    · exact (nameR_ok he y hy).1.1
  · exact absurd hk' hk
theorem no46 {s : List UInt8} (h : nameR s = true) : ∀ y ∈ s, y ≠ 46 := fun y hy => (nameR_ok h y hy).2
theorem refQ_body {x : CredT} (h : credR x = true) : refQ x.h (bodyT x) = some x := by
  have h60 := body_amp h
  obtain ⟨h1, h2⟩ := credR_cases h
  obtain ⟨k, hh, w, b, c, e⟩ := x
  simp only at *
  rcases h2 with ⟨rfl, hw, rfl, rfl, rfl⟩ | ⟨rfl, hb, ⟨rfl, rfl, rfl⟩ | ⟨rfl, rfl, _, he⟩ | ⟨rfl, rfl, hc, _⟩⟩
  · have ha : splitG ampS w = [w] := splitG_no (d := 32) (by decide) (h60 (by decide))
    have hd : splitG [46] w = [w] := splitG_no (d := 46) (by decide) (no46 hw)
    simp [refQ, bodyT, ha, hd]
  · have ha : splitG ampS (roleT b) = [roleT b] := splitG_no (d := 32) (by decide) fun y hy => (roleT_ok hb y hy).1
    obtain ⟨o, d⟩ := b
    have hr : nameR o = true ∧ nameR d = true := by simpa [roleR] using hb
    have hd : splitG [46] (roleT (o, d)) = [o, d] := by
      unfold roleT
      rw [splitG_app (no46 hr.1), splitG_no (d := 46) (by decide) (no46 hr.2)]
    simp [refQ, bodyT, ha, hd]
  · have ha : splitG ampS (roleT b ++ [46] ++ e) = [roleT b ++ [46] ++ e] := splitG_no (d := 32) (by decide) (h60 (by decide))
    obtain ⟨o, d⟩ := b
    have hr : nameR o = true ∧ nameR d = true := by simpa [roleR] using hb
    have hd : splitG [46] (roleT (o, d) ++ [46] ++ e) = [o, d, e] := by
      unfold roleT
      simp only
      rw [show o ++ [46] ++ d ++ [46] ++ e = o ++ [46] ++ (d ++ [46] ++ e) by simp, splitG_app (no46 hr.1), splitG_app (no46 hr.2), splitG_no (d := 46) (by decide) (no46 he)]
    simp only [refQ, bodyT]
    simp only [show ((3 : Int) = 1) = False from by simp, show ((3 : Int) = 2) = False from by simp, if_false, if_true]
    rw [ha, hd]
  · have ha : splitG ampS (roleT b ++ ampS ++ roleT c) = [roleT b, roleT c] := by
      unfold ampS
      rw [splitG_app fun y hy => (roleT_ok hb y hy).1, splitG_no (d := 32) (by decide) fun y hy => (roleT_ok hc y hy).1]
    simp only [refQ, bodyT]
    simp only [show ((4 : Int) = 1) = False from by simp, show ((4 : Int) = 2) = False from by simp, show ((4 : Int) = 3) = False from by simp, if_false]
    rw [ha]
    simp only
    rw [roleP1_of hb, roleP1_of hc]
theorem refP_text {x : CredT} (h : credR x = true) : refP (credTx x) = some x := by
  have hh := (credR_cases h).1
  unfold refP credTx arrow
  rw [splitG_app fun y hy => (roleT_ok hh y hy).1, splitG_no (d := 60) (by decide) (body_60 h)]
  simp only
  rw [roleP1_of hh, refQ_body h]
  simp [onlyR, h]
theorem refQ_some {h : Role} {q : List UInt8} {c : CredT} (hq : refQ h q = some c) (hr : credR c = true) : c.h = h ∧ bodyT c = q := by
  have ja := splitG_join ampS q
  have jd := splitG_join [46] q
  unfold refQ at hq
  generalize splitG ampS q = la at *
  generalize splitG [46] q = ld at *
  obtain ⟨_, h2⟩ := credR_cases hr
  have dots : ∀ {ld : List (List UInt8)}, joinG [46] ld = q → (match ld with
      | [_] => some (⟨1, h, q, nR, nR, []⟩ : CredT)
      | [x, y] => some ⟨2, h, [], (x, y), nR, []⟩
      | [x, y, z] => some ⟨3, h, [], (x, y), nR, z⟩
      | _ => none) = some c → c.h = h ∧ bodyT c = q := by
    intro ld jd hq
    match ld, jd, hq with
    | [_], _, hq => cases hq; exact ⟨rfl, by simp [bodyT]⟩
    | [x, y], jd, hq => cases hq; exact ⟨rfl, by rw [← jd]; simp [bodyT, roleT, joinG]⟩
    | [x, y, z], jd, hq => cases hq; exact ⟨rfl, by rw [← jd]; simp [bodyT, roleT, joinG]⟩
    | [], _, hq => cases hq
    | _ :: _ :: _ :: _ :: _, _, hq => cases hq
  match la, ja, hq with
  | [x, y], ja, hq =>
    cases hq
    refine ⟨rfl, ?_⟩
    rcases h2 with ⟨hk, _⟩ | ⟨_, hb, ⟨hk, _⟩ | ⟨hk, _⟩ | ⟨_, _, hc, _⟩⟩
    · exact absurd hk (show ¬ (4 : Int) = 1 by decide)
    · exact absurd hk (show ¬ (4 : Int) = 2 by decide)
    · exact absurd hk (show ¬ (4 : Int) = 3 by decide)
    · simp only at hb hc
      rw [← ja]
      simp [bodyT, joinG, roleP1_text hb, roleP1_text hc]
  | _ :: _ :: _ :: _, _, hq => cases hq
  | [], _, hq => exact dots jd hq
  | [_], _, hq => exact dots jd hq
theorem refP_some {s : List UInt8} {c : CredT} (h : refP s = some c) : credR c = true ∧ credTx c = s := by
  have js := splitG_join arrow s
  unfold refP at h
  generalize splitG arrow s = ls at *
  match ls, js, h with
  | [p, q], js, h =>
    simp only [onlyR] at h
    cases hq : refQ (roleP1 p) q with
    | none => rw [hq] at h; cases h
    | some d =>
      rw [hq] at h
      simp only [Option.bind_some] at h
      split at h
      · rename_i hr
        cases h
        obtain ⟨e1, e2⟩ := refQ_some hq hr
        refine ⟨hr, ?_⟩
        have hh := (credR_cases hr).1
        rw [e1] at hh
        unfold credTx
        rw [e1, e2, roleP1_text hh, ← js]
        simp [joinG]
      · cases h
  | [], _, h => cases h
  | [_], _, h => cases h
  | _ :: _ :: _ :: _, _, h => cases h
/-- What the program makes of a body. -/
def ofP (h : Role) (s : List UInt8) : CredT :=
  if (Lib.cut s ampS).2.2 = true then ⟨4, h, [], roleP1 (Lib.cut s ampS).1, roleP1 (Lib.cut s ampS).2.1, []⟩
  else if Lib.countByte s 46 = 0 then ⟨1, h, s, nR, nR, []⟩
  else if Lib.countByte s 46 = 1 then ⟨2, h, [], roleP1 (Lib.cut s ampS).1, nR, []⟩
  else ⟨3, h, [], roleP1 (s.take (Lib.lastIndex s [46]).toNat), nR, s.drop ((Lib.lastIndex s [46]).toNat + 1)⟩
def credTy (x : CredT) : List UInt8 := if credR x = true then credTx x else []
def progP (s : List UInt8) : Option CredT :=
  if (Lib.cut s arrow).2.2 = true ∧ (roleP (Lib.cut s arrow).1).isSome = true then
    (if credTy (ofP (roleP1 (Lib.cut s arrow).1) (Lib.cut s arrow).2.1) = s then some (ofP (roleP1 (Lib.cut s arrow).1) (Lib.cut s arrow).2.1) else none)
  else none
theorem cut_app {a b t : List UInt8} {c : UInt8} (h : ∀ x ∈ a, x ≠ c) : Lib.cut (a ++ (c :: t) ++ b) (c :: t) = (a, b, true) := by
  unfold Lib.cut
  rw [index_app h, if_pos (by omega)]
  simp only [Int.toNat_natCast]
  rw [← List.length_append, List.drop_left, List.append_assoc, List.take_left]
theorem cut_no {sep s : List UInt8} {d : UInt8} (hd : d ∈ sep) (hs : ∀ x ∈ s, x ≠ d) : Lib.cut s sep = (s, [], false) := by
  unfold Lib.cut
  rw [index_no fun j => occ_mem hd hs j]; rfl
theorem occ46 (s : List UInt8) (i : Nat) : occAt s [46] i = true ↔ s[i]? = some 46 := by
  constructor
  · intro h
    obtain ⟨r, hr⟩ := occ_pre h
    have := congrArg (fun l => l[0]?) hr
    simpa using this.symm
  · intro h
    unfold occAt
    obtain ⟨hi, e⟩ := List.getElem?_eq_some_iff.1 h
    rw [List.drop_eq_getElem_cons hi, e]; simp
theorem lastIndex_46 (s : List UInt8) : (Lib.lastIndex s [46] = -1 ∧ ∀ j : Nat, s[j]? ≠ some 46) ∨ ∃ i : Nat, Lib.lastIndex s [46] = i ∧ s[i]? = some 46 ∧ ∀ j : Nat, i < j → s[j]? ≠ some 46 := by
  unfold Lib.lastIndex
  by_cases hl : [(46 : UInt8)].length ≤ s.length
  · rw [if_pos hl]
    simp only [List.length_singleton] at hl ⊢
    rw [show s.length - 1 + 1 = s.length by omega]
    rcases Lib.lastOcc_spec s [46] s.length with ⟨h1, h2⟩ | ⟨i, h1, h2, h3, h4⟩
    · refine .inl ⟨h1, fun j hj => ?_⟩
      have hjl := (List.getElem?_eq_some_iff.1 hj).1
      have := h2 j hjl
      rw [(occ46 s j).2 hj] at this; cases this
    · refine .inr ⟨i, h2, (occ46 s i).1 h3, fun j hij hj => ?_⟩
      have hjl := (List.getElem?_eq_some_iff.1 hj).1
      have := h4 j hij hjl
      rw [(occ46 s j).2 hj] at this; cases this
  · rw [if_neg hl]
    have : s = [] := List.eq_nil_of_length_eq_zero (by simp at hl; simpa using hl)
    subst this
    exact .inl ⟨rfl, by simp⟩
theorem lastIndex_app {a b : List UInt8} (h : ∀ x ∈ b, x ≠ 46) : Lib.lastIndex (a ++ [46] ++ b) [46] = a.length := by
  have hat : (a ++ [46] ++ b)[a.length]? = some 46 := by simp
  rcases lastIndex_46 (a ++ [46] ++ b) with ⟨_, h2⟩ | ⟨i, h1, h2, h3⟩
  · exact absurd hat (h2 _)
  · rw [h1]
    rcases Nat.lt_trichotomy i a.length with q | q | q
    · exact absurd hat (h3 _ q)
    · rw [q]
    · exfalso
      rw [List.getElem?_append_right (by simp; omega)] at h2
      exact h _ (List.mem_of_getElem? h2) rfl
theorem count_no {s : List UInt8} (h : ∀ x ∈ s, x ≠ 46) : Lib.countByte s 46 = 0 := by
  unfold Lib.countByte; rw [List.count_eq_zero]; exact fun q => h _ q rfl
theorem count_app (a b : List UInt8) : Lib.countByte (a ++ b) 46 = Lib.countByte a 46 + Lib.countByte b 46 := by unfold Lib.countByte; exact List.count_append
theorem ofP_body {x : CredT} (h : credR x = true) : ofP x.h (bodyT x) = x := by
  obtain ⟨h1, h2⟩ := credR_cases h
  obtain ⟨k, hh, w, b, c, e⟩ := x
  simp only at *
  have c1 : Lib.countByte [46] 46 = 1 := by decide
  rcases h2 with ⟨rfl, hw, rfl, rfl, rfl⟩ | ⟨rfl, hb, ⟨rfl, rfl, rfl⟩ | ⟨rfl, rfl, _, he⟩ | ⟨rfl, rfl, hc, _⟩⟩
  · have ha : Lib.cut w ampS = (w, [], false) := cut_no (d := 32) (by decide) fun y hy => (nameR_ok hw y hy).1.1
    simp [ofP, bodyT, ha, count_no (no46 hw)]
  · have ha : Lib.cut (roleT b) ampS = (roleT b, [], false) := cut_no (d := 32) (by decide) fun y hy => (roleT_ok hb y hy).1
    have hn : Lib.countByte (roleT b) 46 = 1 := by
      have hr : nameR b.1 = true ∧ nameR b.2 = true := by simpa [roleR] using hb
      unfold roleT
      rw [count_app, count_app, c1, count_no (no46 hr.1), count_no (no46 hr.2)]
    simp [ofP, bodyT, ha, hn, roleP1_of hb]
  · have ha : Lib.cut (roleT b ++ [46] ++ e) ampS = (roleT b ++ [46] ++ e, [], false) := cut_no (d := 32) (by decide) (body_amp h (by simp))
    have hn : Lib.countByte (roleT b ++ [46] ++ e) 46 = 2 := by
      have hr : nameR b.1 = true ∧ nameR b.2 = true := by simpa [roleR] using hb
      unfold roleT
      rw [count_app, count_app, count_app, count_app, c1, count_no (no46 hr.1), count_no (no46 hr.2), count_no (no46 he)]
    have hl := lastIndex_app (a := roleT b) (no46 he)
    have e1 : (roleT b ++ [46] ++ e).take (roleT b).length = roleT b := by rw [List.append_assoc, List.take_left]
    have e2 : (roleT b ++ [46] ++ e).drop ((roleT b).length + 1) = e := by
      rw [show (roleT b).length + 1 = (roleT b ++ [46]).length by simp, List.drop_left]
    simp only [ofP, bodyT]
    simp only [show ((3 : Int) = 1) = False from by simp, show ((3 : Int) = 2) = False from by simp, if_false, if_true]
    rw [ha, hn, hl]
    simp only [Int.toNat_natCast]
    rw [e1, e2, roleP1_of hb]
    simp
  · have ha : Lib.cut (roleT b ++ ampS ++ roleT c) ampS = (roleT b, roleT c, true) := cut_app fun y hy => (roleT_ok hb y hy).1
    simp only [ofP, bodyT]
    simp only [show ((4 : Int) = 1) = False from by simp, show ((4 : Int) = 2) = False from by simp, show ((4 : Int) = 3) = False from by simp, if_false]
    rw [ha]
    simp only [if_true]
    rw [roleP1_of hb, roleP1_of hc]
theorem progP_eq (s : List UInt8) : progP s = refP s := by
  cases hr : refP s with
  | some c =>
    obtain ⟨h1, h2⟩ := refP_some hr
    have hh := (credR_cases h1).1
    have hc : Lib.cut s arrow = (roleT c.h, bodyT c, true) := by
      rw [← h2]; exact cut_app fun y hy => (roleT_ok hh y hy).1
    unfold progP
    rw [hc]
    simp only
    rw [roleP1_of hh, ofP_body h1, roleP_text c.h hh, if_pos ⟨trivial, rfl⟩, if_pos (by rw [credTy, if_pos h1, h2])]
  | none =>
    unfold progP
    split
    · rename_i hok
      generalize ofP (roleP1 (Lib.cut s arrow).1) (Lib.cut s arrow).2.1 = c
      split
      · rename_i ht
        by_cases hc : credR c = true
        · rw [credTy, if_pos hc] at ht
          rw [← ht, refP_text hc] at hr; cases hr
        · rw [credTy, if_neg hc] at ht
          subst ht
          exact absurd hok.1 (by decide +kernel)
      · rfl
    · rfl
end Go.Proofs.Ytdkemfimhdjdiaa

namespace Go.Proofs.Ytdkemfimhdjdiaa
set_option linter.unusedSimpArgs false
set_option linter.unusedVariables false
open Go Go.RowKit
set_option maxRecDepth 100000 in
set_option maxHeartbeats 1000000 in
theorem credBody_any (x : CredT) (W : World) (hl : CredL 100000 x) :
    Calls Try.prog 99 #[cV x] W fun e w' => e = .returned (S (bodyT x)) ∧ Ext W w' := by
  have happ := ba_append
  have happ2 : ∀ a : List UInt8, (⟨a.toArray⟩ : ByteArray) ++ ⟨#[46]⟩ = ⟨(a ++ [46]).toArray⟩ := fun a => ba_append a [46]
  have happ3 : ∀ a : List UInt8, (⟨a.toArray⟩ : ByteArray) ++ ⟨#[32, 38, 32]⟩ = ⟨(a ++ [32, 38, 32]).toArray⟩ := fun a => ba_append a [32, 38, 32]
  obtain ⟨l1, l2, l3, l4, l5, l6, l7, l8⟩ := hl
  have HTB := Lib.hid (fun W => roleText_any x.b W (by omega))
  have HTC := Lib.hid (fun W => roleText_any x.c W (by omega))
  have hb1 : (roleT x.b).length ≤ 200001 := by simp [roleT]; omega
  have hb2 : (roleT x.c).length ≤ 200001 := by simp [roleT]; omega
  obtain ⟨tb, htb⟩ : ∃ t, roleT x.b = t := ⟨_, rfl⟩
  obtain ⟨tc, htc⟩ : ∃ t, roleT x.c = t := ⟨_, rfl⟩
  have HE : Hid (bodyT x = if x.k = 1 then x.w else if x.k = 2 then tb else if x.k = 3 then tb ++ [46] ++ x.e else tb ++ ampS ++ tc) := Lib.hid (by unfold bodyT; rw [htb, htc])
  rw [htb] at HTB hb1
  rw [htc] at HTC hb2
  clear htb htc
  have st := Own.startOld W
  unfold cV S
  unfold rV S at HTB HTC
  (try simp only [Value.cells, List.cons_append, List.nil_append, List.set, spl, putIt, pick, List.map_cons, List.map_nil, List.getElem?_cons_zero, List.getElem?_cons_succ, Option.getD_some, List.drop_succ_cons, List.drop_zero, List.drop_nil, List.append_nil, unB] at st)
  (try clear hc); have hc := st.facts; (try simp only [factsOf, blkI, blkFacts, rowI, byI, datI, nullI, oldI, penI, rdI, rdAnyI, rdOverI, Nat.zero_add, Nat.reduceAdd, and_true, true_and, and_self] at hc)
  by_cases k1 : x.k = 1
  · have K1 := Lib.hid k1
    go_enter Try.func99, Try.ntmps99
    go_wp2_with ((((with_reducible refine wl_box ?_ (fun K hK => ?_)); rfl; refine owp_box (o := ⟨some 1, _, _, _, _, _⟩) rfl st ?_; apply Exists.intro; refine ⟨?_, ?_⟩; (focus (go_simp; try rfl)); (clear st; intro b1 w hb st; clear hb))); (try simp only [Value.cells, List.cons_append, List.nil_append, List.set, spl, putIt, pick, List.map_cons, List.map_nil, List.getElem?_cons_zero, List.getElem?_cons_succ, Option.getD_some, List.drop_succ_cons, List.drop_zero, List.drop_nil, List.append_nil, unB] at st); (try clear hc); have hc := st.facts; (try simp only [factsOf, blkI, blkFacts, rowI, byI, datI, nullI, oldI, penI, rdI, rdAnyI, rdOverI, Nat.zero_add, Nat.reduceAdd, and_true, true_and, and_self] at hc))
    go_ret
    exact ⟨by rw [HE.out, if_pos K1.out]; first | rfl | simp [S, ampS, arrow], st.ext0⟩
  · have hk1 : (x.k == 1) = false := by simpa using k1
    have K1 := Lib.hid k1
    clear k1
    by_cases k2 : x.k = 2
    · have K2 := Lib.hid k2
      go_enter Try.func99, Try.ntmps99
      go_wp2_with ((((with_reducible refine wl_box ?_ (fun K hK => ?_)); rfl; refine owp_box (o := ⟨some 1, _, _, _, _, _⟩) rfl st ?_; apply Exists.intro; refine ⟨?_, ?_⟩; (focus (go_simp; try rfl)); (clear st; intro b1 w hb st; clear hb))); (try simp only [Value.cells, List.cons_append, List.nil_append, List.set, spl, putIt, pick, List.map_cons, List.map_nil, List.getElem?_cons_zero, List.getElem?_cons_succ, Option.getD_some, List.drop_succ_cons, List.drop_zero, List.drop_nil, List.append_nil, unB] at st); (try clear hc); have hc := st.facts; (try simp only [factsOf, blkI, blkFacts, rowI, byI, datI, nullI, oldI, penI, rdI, rdAnyI, rdOverI, Nat.zero_add, Nat.reduceAdd, and_true, true_and, and_self] at hc))
      refine (HTB.out _).mono ?_
      rintro en w ⟨rfl, hx⟩
      replace st := st.ext hx
      clear hx
      (try clear hc); have hc := st.facts; (try simp only [factsOf, blkI, blkFacts, rowI, byI, datI, nullI, oldI, penI, rdI, rdAnyI, rdOverI, Nat.zero_add, Nat.reduceAdd, and_true, true_and, and_self] at hc)
      go_wp2_with fail
      go_ret
      exact ⟨by rw [HE.out, if_neg K1.out, if_pos K2.out]; first | rfl | simp [S, ampS, arrow], st.ext0⟩
    · have hk2 : (x.k == 2) = false := by simpa using k2
      have K2 := Lib.hid k2
      clear k2
      by_cases k3 : x.k = 3
      · have K3 := Lib.hid k3
        go_enter Try.func99, Try.ntmps99
        go_wp2_with ((((with_reducible refine wl_box ?_ (fun K hK => ?_)); rfl; refine owp_box (o := ⟨some 1, _, _, _, _, _⟩) rfl st ?_; apply Exists.intro; refine ⟨?_, ?_⟩; (focus (go_simp; try rfl)); (clear st; intro b1 w hb st; clear hb))); (try simp only [Value.cells, List.cons_append, List.nil_append, List.set, spl, putIt, pick, List.map_cons, List.map_nil, List.getElem?_cons_zero, List.getElem?_cons_succ, Option.getD_some, List.drop_succ_cons, List.drop_zero, List.drop_nil, List.append_nil, unB] at st); (try clear hc); have hc := st.facts; (try simp only [factsOf, blkI, blkFacts, rowI, byI, datI, nullI, oldI, penI, rdI, rdAnyI, rdOverI, Nat.zero_add, Nat.reduceAdd, and_true, true_and, and_self] at hc))
        refine Rg4.wp_region4 (Rel := Ext) #[0, 1, 3, 7, 0, 16, 63, 127]
          [(2, .val (.string ⟨tb.toArray⟩))] [] [1, 5] (fun W' => Blk W' b1 [.int .i64 3, .string ⟨x.h.1.toArray⟩, .string ⟨x.h.2.toArray⟩, .string ⟨x.w.toArray⟩, .string ⟨x.b.1.toArray⟩, .string ⟨x.b.2.toArray⟩, .string ⟨x.c.1.toArray⟩, .string ⟨x.c.2.toArray⟩, .string ⟨x.e.toArray⟩]) [0, 1, 2, 3, 4, 5, 6, 7] (by kernel_rfl) (by kernel_rfl) (by kernel_rfl) (by kernel_rfl) Ext.refl (fun _ _ _ => Ext.trans) (show Rg4.PB _ by repeat (first | with_reducible exact Rg4.pb_body | with_reducible exact Rg4.pb_bodyD rfl | with_reducible refine Rg4.pb_then ?_ | with_reducible refine Rg4.pb_inBlock ?_ | with_reducible refine Rg4.pb_noGoto ?_)) (st.drew.blk (i := 1) get1) ?_
        replace st := st.drew
        change Rg4.wp4 _ _ _ _ _ _ _ _ _ (World.drew _) _ _
        generalize World.drew _ = w at st ⊢
        (try clear hc); have hc := st.facts; (try simp only [factsOf, blkI, blkFacts, rowI, byI, datI, nullI, oldI, penI, rdI, rdAnyI, rdOverI, Nat.zero_add, Nat.reduceAdd, and_true, true_and, and_self] at hc)
        (refine Rg4.w4_any (Rg4.want_none rfl) rfl ?_; apply Exists.intro; refine ⟨fun w' => ?_, ?_⟩; (focus (first | (go_simp; done) | (go_simp; first | rfl | (rw [if_neg] <;> first | rfl | omega) | (rw [if_pos] <;> first | rfl | omega)))); (try simp only [Act.put, List.setIfInBounds_toArray, List.set]))
        (refine Rg4.w4_read (Rg4.want_none rfl) rfl rfl ?_; apply Exists.intro; refine ⟨fun w' hw' hcl' => ?_, ?_⟩; focus (have st' := st.ext hw'; have hc' := st'.facts; (try simp only [factsOf, blkI, blkFacts, rowI, byI, datI, nullI, oldI, penI, rdI, rdAnyI, rdOverI, Nat.zero_add, Nat.reduceAdd, and_true, true_and, and_self] at hc'); (focus (first | (go_simp; done) | (go_simp; first | rfl | (rw [if_neg] <;> first | rfl | omega) | (rw [if_pos] <;> first | rfl | omega))))); (try simp only [Act.put, List.setIfInBounds_toArray, List.set]))
        refine Rg4.w4_some (Rg4.want_none rfl) rfl (fun w' hw' hcl' _ => ?_) ?_
        · refine Rg.relAt_call (by go_simp; exact ⟨rfl, rfl⟩) ?_
          refine (HTB.out _).mono ?_
          rintro en w'' ⟨rfl, hx⟩
          exact ⟨_, rfl, hx, (st.ext (Ext.trans hw' hx)).blk (i := 1) get1, rfl⟩
        rintro v ⟨_, _, _, rfl⟩
        (try simp only [Act.put, List.setIfInBounds_toArray, List.set])
        (refine Rg4.w4_any (Rg4.want_none rfl) rfl ?_; apply Exists.intro; refine ⟨fun w' => ?_, ?_⟩; (focus (first | (go_simp; done) | (go_simp; first | rfl | (rw [if_neg] <;> first | rfl | omega) | (rw [if_pos] <;> first | rfl | omega)))); (try simp only [Act.put, List.setIfInBounds_toArray, List.set]))
        (refine Rg4.w4_any (Rg4.want_none rfl) rfl ?_; apply Exists.intro; refine ⟨fun w' => ?_, ?_⟩; (focus (first | (go_simp; done) | (go_simp; first | rfl | (rw [if_neg] <;> first | rfl | omega) | (rw [if_pos] <;> first | rfl | omega)))); (try simp only [Act.put, List.setIfInBounds_toArray, List.set]))
        (refine Rg4.w4_read (Rg4.want_none rfl) rfl rfl ?_; apply Exists.intro; refine ⟨fun w' hw' hcl' => ?_, ?_⟩; focus (have st' := st.ext hw'; have hc' := st'.facts; (try simp only [factsOf, blkI, blkFacts, rowI, byI, datI, nullI, oldI, penI, rdI, rdAnyI, rdOverI, Nat.zero_add, Nat.reduceAdd, and_true, true_and, and_self] at hc'); (focus (first | (go_simp; done) | (go_simp; first | rfl | (rw [if_neg] <;> first | rfl | omega) | (rw [if_pos] <;> first | rfl | omega))))); (try simp only [Act.put, List.setIfInBounds_toArray, List.set]))
        (refine Rg4.w4_any (Rg4.want_none rfl) rfl ?_; apply Exists.intro; refine ⟨fun w' => ?_, ?_⟩; (focus (first | (go_simp; done) | (go_simp; first | rfl | (rw [if_neg] <;> first | rfl | omega) | (rw [if_pos] <;> first | rfl | omega)))); (try simp only [Act.put, List.setIfInBounds_toArray, List.set]))
        (refine Rg4.w4_any (Rg4.want_none rfl) rfl ?_; apply Exists.intro; refine ⟨fun w' => ?_, ?_⟩; (focus (first | (go_simp; done) | (go_simp; first | rfl | (rw [if_neg] <;> first | rfl | omega) | (rw [if_pos] <;> first | rfl | omega)))); (try simp only [Act.put, List.setIfInBounds_toArray, List.set]))
        refine Rg4.w4_nil (fun w' hw' hcl' _ => ?_); replace st := st.ext hw'; clear hw' hcl'; (try clear hc); have hc := st.facts; (try simp only [factsOf, blkI, blkFacts, rowI, byI, datI, nullI, oldI, penI, rdI, rdAnyI, rdOverI, Nat.zero_add, Nat.reduceAdd, and_true, true_and, and_self] at hc)
        go_wp2_with fail
        go_ret
        exact ⟨by rw [HE.out, if_neg K1.out, if_neg K2.out, if_pos K3.out]; first | rfl | simp [S, ampS, arrow], st.ext0⟩
      · have hk3 : (x.k == 3) = false := by simpa using k3
        have K3 := Lib.hid k3
        clear k3
        go_enter Try.func99, Try.ntmps99
        go_wp2_with ((((with_reducible refine wl_box ?_ (fun K hK => ?_)); rfl; refine owp_box (o := ⟨some 1, _, _, _, _, _⟩) rfl st ?_; apply Exists.intro; refine ⟨?_, ?_⟩; (focus (go_simp; try rfl)); (clear st; intro b1 w hb st; clear hb))); (try simp only [Value.cells, List.cons_append, List.nil_append, List.set, spl, putIt, pick, List.map_cons, List.map_nil, List.getElem?_cons_zero, List.getElem?_cons_succ, Option.getD_some, List.drop_succ_cons, List.drop_zero, List.drop_nil, List.append_nil, unB] at st); (try clear hc); have hc := st.facts; (try simp only [factsOf, blkI, blkFacts, rowI, byI, datI, nullI, oldI, penI, rdI, rdAnyI, rdOverI, Nat.zero_add, Nat.reduceAdd, and_true, true_and, and_self] at hc))
        refine Rg4.wp_region4 (Rel := Ext) #[0, 1, 3, 7, 0, 16, 55, 127, 255]
          [(2, .val (.string ⟨tb.toArray⟩)), (6, .val (.string ⟨tc.toArray⟩))] [] [1, 5] (fun W' => Blk W' b1 [.int .i64 x.k, .string ⟨x.h.1.toArray⟩, .string ⟨x.h.2.toArray⟩, .string ⟨x.w.toArray⟩, .string ⟨x.b.1.toArray⟩, .string ⟨x.b.2.toArray⟩, .string ⟨x.c.1.toArray⟩, .string ⟨x.c.2.toArray⟩, .string ⟨x.e.toArray⟩]) [0, 1, 2, 3, 4, 5, 6, 7, 8] (by kernel_rfl) (by kernel_rfl) (by kernel_rfl) (by kernel_rfl) Ext.refl (fun _ _ _ => Ext.trans) (show Rg4.PB _ by repeat (first | with_reducible exact Rg4.pb_body | with_reducible exact Rg4.pb_bodyD rfl | with_reducible refine Rg4.pb_then ?_ | with_reducible refine Rg4.pb_inBlock ?_ | with_reducible refine Rg4.pb_noGoto ?_)) (st.drew.blk (i := 1) get1) ?_
        replace st := st.drew
        change Rg4.wp4 _ _ _ _ _ _ _ _ _ (World.drew _) _ _
        generalize World.drew _ = w at st ⊢
        (try clear hc); have hc := st.facts; (try simp only [factsOf, blkI, blkFacts, rowI, byI, datI, nullI, oldI, penI, rdI, rdAnyI, rdOverI, Nat.zero_add, Nat.reduceAdd, and_true, true_and, and_self] at hc)
        (refine Rg4.w4_any (Rg4.want_none rfl) rfl ?_; apply Exists.intro; refine ⟨fun w' => ?_, ?_⟩; (focus (first | (go_simp; done) | (go_simp; first | rfl | (rw [if_neg] <;> first | rfl | omega) | (rw [if_pos] <;> first | rfl | omega)))); (try simp only [Act.put, List.setIfInBounds_toArray, List.set]))
        (refine Rg4.w4_read (Rg4.want_none rfl) rfl rfl ?_; apply Exists.intro; refine ⟨fun w' hw' hcl' => ?_, ?_⟩; focus (have st' := st.ext hw'; have hc' := st'.facts; (try simp only [factsOf, blkI, blkFacts, rowI, byI, datI, nullI, oldI, penI, rdI, rdAnyI, rdOverI, Nat.zero_add, Nat.reduceAdd, and_true, true_and, and_self] at hc'); (focus (first | (go_simp; done) | (go_simp; first | rfl | (rw [if_neg] <;> first | rfl | omega) | (rw [if_pos] <;> first | rfl | omega))))); (try simp only [Act.put, List.setIfInBounds_toArray, List.set]))
        refine Rg4.w4_some (Rg4.want_none rfl) rfl (fun w' hw' hcl' _ => ?_) ?_
        · refine Rg.relAt_call (by go_simp; exact ⟨rfl, rfl⟩) ?_
          refine (HTB.out _).mono ?_
          rintro en w'' ⟨rfl, hx⟩
          exact ⟨_, rfl, hx, (st.ext (Ext.trans hw' hx)).blk (i := 1) get1, rfl⟩
        rintro v ⟨_, _, _, rfl⟩
        (try simp only [Act.put, List.setIfInBounds_toArray, List.set])
        (refine Rg4.w4_any (Rg4.want_none rfl) rfl ?_; apply Exists.intro; refine ⟨fun w' => ?_, ?_⟩; (focus (first | (go_simp; done) | (go_simp; first | rfl | (rw [if_neg] <;> first | rfl | omega) | (rw [if_pos] <;> first | rfl | omega)))); (try simp only [Act.put, List.setIfInBounds_toArray, List.set]))
        (refine Rg4.w4_any (Rg4.want_none rfl) rfl ?_; apply Exists.intro; refine ⟨fun w' => ?_, ?_⟩; (focus (first | (go_simp; done) | (go_simp; first | rfl | (rw [if_neg] <;> first | rfl | omega) | (rw [if_pos] <;> first | rfl | omega)))); (try simp only [Act.put, List.setIfInBounds_toArray, List.set]))
        (refine Rg4.w4_read (Rg4.want_none rfl) rfl rfl ?_; apply Exists.intro; refine ⟨fun w' hw' hcl' => ?_, ?_⟩; focus (have st' := st.ext hw'; have hc' := st'.facts; (try simp only [factsOf, blkI, blkFacts, rowI, byI, datI, nullI, oldI, penI, rdI, rdAnyI, rdOverI, Nat.zero_add, Nat.reduceAdd, and_true, true_and, and_self] at hc'); (focus (first | (go_simp; done) | (go_simp; first | rfl | (rw [if_neg] <;> first | rfl | omega) | (rw [if_pos] <;> first | rfl | omega))))); (try simp only [Act.put, List.setIfInBounds_toArray, List.set]))
        refine Rg4.w4_some (Rg4.want_none rfl) rfl (fun w' hw' hcl' _ => ?_) ?_
        · refine Rg.relAt_call (by go_simp; exact ⟨rfl, rfl⟩) ?_
          refine (HTC.out _).mono ?_
          rintro en w'' ⟨rfl, hx⟩
          exact ⟨_, rfl, hx, (st.ext (Ext.trans hw' hx)).blk (i := 1) get1, rfl⟩
        rintro v ⟨_, _, _, rfl⟩
        (try simp only [Act.put, List.setIfInBounds_toArray, List.set])
        (refine Rg4.w4_any (Rg4.want_none rfl) rfl ?_; apply Exists.intro; refine ⟨fun w' => ?_, ?_⟩; (focus (first | (go_simp; done) | (go_simp; first | rfl | (rw [if_neg] <;> first | rfl | omega) | (rw [if_pos] <;> first | rfl | omega)))); (try simp only [Act.put, List.setIfInBounds_toArray, List.set]))
        (refine Rg4.w4_any (Rg4.want_none rfl) rfl ?_; apply Exists.intro; refine ⟨fun w' => ?_, ?_⟩; (focus (first | (go_simp; done) | (go_simp; first | rfl | (rw [if_neg] <;> first | rfl | omega) | (rw [if_pos] <;> first | rfl | omega)))); (try simp only [Act.put, List.setIfInBounds_toArray, List.set]))
        refine Rg4.w4_nil (fun w' hw' hcl' _ => ?_); replace st := st.ext hw'; clear hw' hcl'; (try clear hc); have hc := st.facts; (try simp only [factsOf, blkI, blkFacts, rowI, byI, datI, nullI, oldI, penI, rdI, rdAnyI, rdOverI, Nat.zero_add, Nat.reduceAdd, and_true, true_and, and_self] at hc)
        go_wp2_with fail
        go_ret
        exact ⟨by rw [HE.out, if_neg K1.out, if_neg K2.out, if_neg K3.out]; first | rfl | simp [S, ampS, arrow], st.ext0⟩
theorem bodyT_len (x : CredT) (hl : CredL 100000 x) : (bodyT x).length ≤ 500000 := by
  obtain ⟨l1, l2, l3, l4, l5, l6, l7, l8⟩ := hl
  have hb : (roleT x.b).length ≤ 200001 := by simp [roleT]; omega
  have hc : (roleT x.c).length ≤ 200001 := by simp [roleT]; omega
  unfold bodyT
  split
  · omega
  · split
    · omega
    · split
      · simp only [List.length_append, List.length_singleton]; omega
      · simp only [List.length_append, ampS, List.length_cons, List.length_nil]; omega
set_option maxRecDepth 100000 in
set_option maxHeartbeats 1000000 in
theorem credText_any (x : CredT) (W : World) (hl : CredL 100000 x) :
    Calls Try.prog 53 #[cV x] W fun e w' => e = .returned (S (credTy x)) ∧ Ext W w' := by
  have happ := ba_append
  have happ3 : ∀ a : List UInt8, (⟨a.toArray⟩ : ByteArray) ++ ⟨#[32, 60, 45, 32]⟩ = ⟨(a ++ [32, 60, 45, 32]).toArray⟩ := fun a => ba_append a [32, 60, 45, 32]
  have HR := Lib.hid (fun W => credRight_any x W (by unfold CredL at hl; omega))
  have HB := Lib.hid (fun W => credBody_any x W hl)
  have hbl := bodyT_len x hl
  obtain ⟨l1, l2, l3, l4, l5, l6, l7, l8⟩ := hl
  have HTH := Lib.hid (fun W => roleText_any x.h W (by omega))
  have hb1 : (roleT x.h).length ≤ 200001 := by simp [roleT]; omega
  obtain ⟨th, hth⟩ : ∃ t, roleT x.h = t := ⟨_, rfl⟩
  obtain ⟨bd, hbd⟩ : ∃ t, bodyT x = t := ⟨_, rfl⟩
  have HE : Hid (credTy x = if credR x = true then th ++ arrow ++ bd else []) := Lib.hid (by unfold credTy credTx; rw [hth, hbd])
  rw [hth] at HTH hb1
  rw [hbd] at HB hbl
  clear hth hbd
  have st := Own.startOld W
  unfold cV S at *
  unfold rV S at HTH
  (try simp only [Value.cells, List.cons_append, List.nil_append, List.set, spl, putIt, pick, List.map_cons, List.map_nil, List.getElem?_cons_zero, List.getElem?_cons_succ, Option.getD_some, List.drop_succ_cons, List.drop_zero, List.drop_nil, List.append_nil, unB] at st)
  (try clear hc); have hc := st.facts; (try simp only [factsOf, blkI, blkFacts, rowI, byI, datI, nullI, oldI, penI, rdI, rdAnyI, rdOverI, Nat.zero_add, Nat.reduceAdd, and_true, true_and, and_self] at hc)
  go_enter Try.func53, Try.ntmps53
  go_wp2_with ((((with_reducible refine wl_box ?_ (fun K hK => ?_)); rfl; refine owp_box (o := ⟨some 1, _, _, _, _, _⟩) rfl st ?_; apply Exists.intro; refine ⟨?_, ?_⟩; (focus (go_simp; try rfl)); (clear st; intro b1 w hb st; clear hb))); (try simp only [Value.cells, List.cons_append, List.nil_append, List.set, spl, putIt, pick, List.map_cons, List.map_nil, List.getElem?_cons_zero, List.getElem?_cons_succ, Option.getD_some, List.drop_succ_cons, List.drop_zero, List.drop_nil, List.append_nil, unB] at st); (try clear hc); have hc := st.facts; (try simp only [factsOf, blkI, blkFacts, rowI, byI, datI, nullI, oldI, penI, rdI, rdAnyI, rdOverI, Nat.zero_add, Nat.reduceAdd, and_true, true_and, and_self] at hc))
  refine (HR.out _).mono ?_
  rintro en w ⟨rfl, hx⟩
  replace st := st.ext hx
  clear hx
  (try clear hc); have hc := st.facts; (try simp only [factsOf, blkI, blkFacts, rowI, byI, datI, nullI, oldI, penI, rdI, rdAnyI, rdOverI, Nat.zero_add, Nat.reduceAdd, and_true, true_and, and_self] at hc)
  cases hr : credR x with
  | false =>
    have H := Lib.hid hr
    clear hr
    go_wp2_with fail
    go_ret
    exact ⟨by rw [HE.out, H.out]; first | rfl | simp [S, ampS, arrow], st.ext0⟩
  | true =>
    have H := Lib.hid hr
    clear hr
    go_wp2_with fail
    refine Rg4.wp_region4 (Rel := Ext) #[0, 1, 3, 7, 0, 23, 63, 127]
      [(2, .val (.string ⟨th.toArray⟩)), (5, .val (.string ⟨bd.toArray⟩))] [] [1, 4] (fun W' => Blk W' b1 [.int .i64 x.k, .string ⟨x.h.1.toArray⟩, .string ⟨x.h.2.toArray⟩, .string ⟨x.w.toArray⟩, .string ⟨x.b.1.toArray⟩, .string ⟨x.b.2.toArray⟩, .string ⟨x.c.1.toArray⟩, .string ⟨x.c.2.toArray⟩, .string ⟨x.e.toArray⟩]) [0, 1, 2, 3, 4, 5, 6, 7] (by kernel_rfl) (by kernel_rfl) (by kernel_rfl) (by kernel_rfl) Ext.refl (fun _ _ _ => Ext.trans) (show Rg4.PB _ by repeat (first | with_reducible exact Rg4.pb_body | with_reducible exact Rg4.pb_bodyD rfl | with_reducible refine Rg4.pb_then ?_ | with_reducible refine Rg4.pb_inBlock ?_ | with_reducible refine Rg4.pb_noGoto ?_)) (st.drew.blk (i := 1) get1) ?_
    replace st := st.drew
    change Rg4.wp4 _ _ _ _ _ _ _ _ _ (World.drew _) _ _
    generalize World.drew _ = w at st ⊢
    (try clear hc); have hc := st.facts; (try simp only [factsOf, blkI, blkFacts, rowI, byI, datI, nullI, oldI, penI, rdI, rdAnyI, rdOverI, Nat.zero_add, Nat.reduceAdd, and_true, true_and, and_self] at hc)
    (refine Rg4.w4_any (Rg4.want_none rfl) rfl ?_; apply Exists.intro; refine ⟨fun w' => ?_, ?_⟩; (focus (first | (go_simp; done) | (go_simp; first | rfl | (rw [if_neg] <;> first | rfl | omega) | (rw [if_pos] <;> first | rfl | omega)))); (try simp only [Act.put, List.setIfInBounds_toArray, List.set]))
    (refine Rg4.w4_read (Rg4.want_none rfl) rfl rfl ?_; apply Exists.intro; refine ⟨fun w' hw' hcl' => ?_, ?_⟩; focus (have st' := st.ext hw'; have hc' := st'.facts; (try simp only [factsOf, blkI, blkFacts, rowI, byI, datI, nullI, oldI, penI, rdI, rdAnyI, rdOverI, Nat.zero_add, Nat.reduceAdd, and_true, true_and, and_self] at hc'); (focus (first | (go_simp; done) | (go_simp; first | rfl | (rw [if_neg] <;> first | rfl | omega) | (rw [if_pos] <;> first | rfl | omega))))); (try simp only [Act.put, List.setIfInBounds_toArray, List.set]))
    refine Rg4.w4_some (Rg4.want_none rfl) rfl (fun w' hw' hcl' _ => ?_) ?_
    · refine Rg.relAt_call (by go_simp; exact ⟨rfl, rfl⟩) ?_
      refine (HTH.out _).mono ?_
      rintro en w'' ⟨rfl, hx⟩
      exact ⟨_, rfl, hx, (st.ext (Ext.trans hw' hx)).blk (i := 1) get1, rfl⟩
    rintro v ⟨_, _, _, rfl⟩
    (try simp only [Act.put, List.setIfInBounds_toArray, List.set])
    (refine Rg4.w4_any (Rg4.want_none rfl) rfl ?_; apply Exists.intro; refine ⟨fun w' => ?_, ?_⟩; (focus (first | (go_simp; done) | (go_simp; first | rfl | (rw [if_neg] <;> first | rfl | omega) | (rw [if_pos] <;> first | rfl | omega)))); (try simp only [Act.put, List.setIfInBounds_toArray, List.set]))
    (refine Rg4.w4_read (Rg4.want_none rfl) rfl rfl ?_; apply Exists.intro; refine ⟨fun w' hw' hcl' => ?_, ?_⟩; focus (have st' := st.ext hw'; have hc' := st'.facts; (try simp only [factsOf, blkI, blkFacts, rowI, byI, datI, nullI, oldI, penI, rdI, rdAnyI, rdOverI, Nat.zero_add, Nat.reduceAdd, and_true, true_and, and_self] at hc'); (focus (first | (go_simp; done) | (go_simp; first | rfl | (rw [if_neg] <;> first | rfl | omega) | (rw [if_pos] <;> first | rfl | omega))))); (try simp only [Act.put, List.setIfInBounds_toArray, List.set]))
    refine Rg4.w4_some (Rg4.want_none rfl) rfl (fun w' hw' hcl' _ => ?_) ?_
    · refine Rg.relAt_call (by go_simp; exact ⟨rfl, rfl⟩) ?_
      refine (HB.out _).mono ?_
      rintro en w'' ⟨rfl, hx⟩
      exact ⟨_, rfl, hx, (st.ext (Ext.trans hw' hx)).blk (i := 1) get1, rfl⟩
    rintro v ⟨_, _, _, rfl⟩
    (try simp only [Act.put, List.setIfInBounds_toArray, List.set])
    (refine Rg4.w4_any (Rg4.want_none rfl) rfl ?_; apply Exists.intro; refine ⟨fun w' => ?_, ?_⟩; (focus (first | (go_simp; done) | (go_simp; first | rfl | (rw [if_neg] <;> first | rfl | omega) | (rw [if_pos] <;> first | rfl | omega)))); (try simp only [Act.put, List.setIfInBounds_toArray, List.set]))
    (refine Rg4.w4_any (Rg4.want_none rfl) rfl ?_; apply Exists.intro; refine ⟨fun w' => ?_, ?_⟩; (focus (first | (go_simp; done) | (go_simp; first | rfl | (rw [if_neg] <;> first | rfl | omega) | (rw [if_pos] <;> first | rfl | omega)))); (try simp only [Act.put, List.setIfInBounds_toArray, List.set]))
    refine Rg4.w4_nil (fun w' hw' hcl' _ => ?_); replace st := st.ext hw'; clear hw' hcl'; (try clear hc); have hc := st.facts; (try simp only [factsOf, blkI, blkFacts, rowI, byI, datI, nullI, oldI, penI, rdI, rdAnyI, rdOverI, Nat.zero_add, Nat.reduceAdd, and_true, true_and, and_self] at hc)
    go_wp2_with fail
    go_ret
    exact ⟨by rw [HE.out, if_pos H.out]; first | rfl | simp [S, ampS, arrow], st.ext0⟩
end Go.Proofs.Ytdkemfimhdjdiaa
