/- Texts of credentials, and what parses them: plain. -/
import Derived.Test.YtpenjnccdachaaaCredG
import Derived.Lib.IndexMore
import Derived.Lib.LastIndexLaws
namespace Go.Proofs.Ytpenjnccdachaaa
set_option linter.unusedSimpArgs false
set_option linter.unusedVariables false
open Go Go.RowKit
open Go.Lib (index occAt NoOcc index_hit index_none index_spec index_room index_ge)
/-- A text, split at a text. -/
def splitF (sep : List UInt8) : Nat → List UInt8 → List (List UInt8)
  | 0, s => [s]
  | n + 1, s => if index s sep = -1 then [s] else s.take (index s sep).toNat :: splitF sep n (s.drop ((index s sep).toNat + sep.length))
def splitG (sep s : List UInt8) : List (List UInt8) := splitF sep s.length s
theorem occ_pre {s sub : List UInt8} {j : Nat} (h : occAt s sub j = true) : sub <+: s.drop j := List.isPrefixOf_iff_prefix.1 h
theorem occ_mem {s sub : List UInt8} {d : UInt8} (hd : d ∈ sub) (hs : ∀ x ∈ s, x ≠ d) (j : Nat) : occAt s sub j = false := by
  cases h : occAt s sub j with
  | false => rfl
  | true => exact absurd rfl (hs d (List.mem_of_mem_drop ((occ_pre h).subset hd)))
theorem occ_head {s t : List UInt8} {c : UInt8} {j : Nat} (hs : s[j]? ≠ some c) : occAt s (c :: t) j = false := by
  cases h : occAt s (c :: t) j with
  | false => rfl
  | true =>
    obtain ⟨r, hr⟩ := occ_pre h
    exfalso
    apply hs
    have := congrArg (fun l => l[0]?) hr
    simpa using this.symm
theorem noOcc_app {a b t : List UInt8} {c : UInt8} (h : ∀ x ∈ a, x ≠ c) : NoOcc (a ++ (c :: t) ++ b) (c :: t) a.length := fun j hj => occ_head (by
  rw [List.append_assoc, List.getElem?_append_left hj, List.getElem?_eq_getElem hj]
  intro e
  exact h _ (List.getElem_mem hj) (by simpa using e))
theorem index_app {a b t : List UInt8} {c : UInt8} (h : ∀ x ∈ a, x ≠ c) : index (a ++ (c :: t) ++ b) (c :: t) = a.length :=
  index_hit (noOcc_app h) (by simp) (by unfold occAt; rw [List.append_assoc, List.drop_left]; exact List.isPrefixOf_iff_prefix.2 (List.prefix_append _ _))
theorem splitF_fuel {sep : List UInt8} (hsep : sep ≠ []) : ∀ (n m : Nat) (s : List UInt8), s.length ≤ n → s.length ≤ m → splitF sep n s = splitF sep m s := by
  have key : ∀ (n m : Nat) (s : List UInt8), n ≤ m → s.length ≤ n → splitF sep n s = splitF sep m s := by
    intro n
    induction n with
    | zero =>
      intro m s _ hs
      have : s = [] := List.eq_nil_of_length_eq_zero (by omega)
      subst this
      cases m with
      | zero => rfl
      | succ m =>
        have hi : index [] sep = -1 := by cases sep with
          | nil => exact absurd rfl hsep
          | cons _ _ => rfl
        rw [splitF, splitF, if_pos hi]
    | succ n ih =>
      intro m s hm hs
      obtain ⟨m, rfl⟩ : ∃ k, m = k + 1 := ⟨m - 1, by omega⟩
      rw [splitF, splitF]
      split
      · rfl
      · congr 1
        refine ih m _ (by omega) ?_
        have : 0 < sep.length := List.length_pos_iff.2 hsep
        simp; omega
  intro n m s h1 h2
  rw [← key s.length n s h1 (Nat.le_refl _), ← key s.length m s h2 (Nat.le_refl _)]
theorem splitG_none {sep s : List UInt8} (h : index s sep = -1) : splitG sep s = [s] := by
  unfold splitG
  cases s with
  | nil => rfl
  | cons x s => rw [List.length_cons, splitF, if_pos h]
theorem splitG_some {sep s : List UInt8} (hsep : sep ≠ []) {i : Nat} (h : index s sep = i) : splitG sep s = s.take i :: splitG sep (s.drop (i + sep.length)) := by
  have hr := index_room s sep (by omega)
  have : 0 < sep.length := List.length_pos_iff.2 hsep
  unfold splitG
  cases hs : s with
  | nil => rw [hs] at hr h; simp at hr; rw [h] at hr; omega
  | cons x t =>
    rw [← hs]
    conv => lhs; rw [show s.length = t.length + 1 by rw [hs]; rfl]
    rw [splitF, if_neg (by omega), h]
    simp only [Int.toNat_natCast]
    congr 1
    refine splitF_fuel hsep _ _ _ ?_ (Nat.le_refl _)
    rw [List.length_drop, hs, List.length_cons]; omega
theorem splitG_app {a b t : List UInt8} {c : UInt8} (h : ∀ x ∈ a, x ≠ c) : splitG (c :: t) (a ++ (c :: t) ++ b) = a :: splitG (c :: t) b := by
  rw [splitG_some (by simp) (index_app h)]
  congr 1
  · rw [List.append_assoc, List.take_left]
  · rw [← List.length_append, List.drop_left]
theorem index_no {s sub : List UInt8} (h : ∀ j, occAt s sub j = false) : index s sub = -1 := index_none fun j _ => h j
theorem splitG_no {sep s : List UInt8} {d : UInt8} (hd : d ∈ sep) (hs : ∀ x ∈ s, x ≠ d) : splitG sep s = [s] := splitG_none (index_no fun j => occ_mem hd hs j)
def joinG (sep : List UInt8) : List (List UInt8) → List UInt8
  | [] => []
  | [x] => x
  | x :: y :: l => x ++ sep ++ joinG sep (y :: l)
theorem joinG_cons {sep x : List UInt8} {l : List (List UInt8)} (h : l ≠ []) : joinG sep (x :: l) = x ++ sep ++ joinG sep l := by
  cases l with
  | nil => exact absurd rfl h
  | cons y l => rfl
theorem splitF_ne (sep : List UInt8) : ∀ (n : Nat) (s : List UInt8), splitF sep n s ≠ []
  | 0, s => by simp [splitF]
  | n + 1, s => by rw [splitF]; split <;> simp
theorem take_sep {s sep : List UInt8} (h : index s sep ≠ -1) : s.take (index s sep).toNat ++ sep ++ s.drop ((index s sep).toNat + sep.length) = s := by
  rcases index_spec s sep with ⟨h1, _⟩ | ⟨i, h1, h2, h3, _⟩
  · exact absurd h1 h
  · rw [h1]
    simp only [Int.toNat_natCast]
    obtain ⟨r, hr⟩ := occ_pre h3
    have e : s.drop (i + sep.length) = r := by rw [← List.drop_drop, ← hr, List.drop_left]
    rw [e, List.append_assoc, hr, List.take_append_drop]
theorem splitG_join (sep : List UInt8) (s : List UInt8) : joinG sep (splitG sep s) = s := by
  unfold splitG
  generalize s.length = n
  induction n generalizing s with
  | zero => rfl
  | succ n ih =>
    rw [splitF]
    split
    · rfl
    · rename_i h
      rw [joinG_cons (splitF_ne sep n _), ih, take_sep h]

/-! The texts. -/
def arrow : List UInt8 := [32, 60, 45, 32]
def ampS : List UInt8 := [32, 38, 32]
def bodyT (x : CredT) : List UInt8 := if x.k = 1 then x.w else if x.k = 2 then roleT x.b else if x.k = 3 then roleT x.b ++ [46] ++ x.e else roleT x.b ++ ampS ++ roleT x.c
def credTx (x : CredT) : List UInt8 := roleT x.h ++ arrow ++ bodyT x
/-- Signs of a name. -/
def chOk (x : UInt8) : Prop := x ≠ 32 ∧ x ≠ 60 ∧ x ≠ 38
theorem sgn_ok : ∀ c : UInt8, sgn c = true → chOk c ∧ c ≠ 46 := fun c hc => by
  refine ⟨⟨?_, ?_, ?_⟩, ?_⟩ <;> (intro e; subst e; revert hc; decide)
theorem nameR_ok {s : List UInt8} (h : nameR s = true) : ∀ x ∈ s, chOk x ∧ x ≠ 46 := by
  cases s with
  | nil => intro x hx; simp at hx
  | cons c s =>
    have hl : (decide (s.length + 1 ≤ 16) && ltr c && (c :: s).all sgn) = true := h
    simp only [Bool.and_eq_true, List.all_eq_true] at hl
    intro x hx
    exact sgn_ok x (hl.2 x hx)
theorem roleT_ok {r : Role} (h : roleR r = true) : ∀ x ∈ roleT r, chOk x := by
  have hr : nameR r.1 = true ∧ nameR r.2 = true := by simpa [roleR] using h
  intro x hx
  simp only [roleT, List.mem_append, List.mem_singleton] at hx
  rcases hx with (hx | rfl) | hx
  · exact (nameR_ok hr.1 x hx).1
  · exact ⟨by decide, by decide, by decide⟩
  · exact (nameR_ok hr.2 x hx).1
theorem cutDot_join : ∀ {s : List UInt8} {p : List UInt8 × List UInt8}, cutDot s = some p → p.1 ++ [46] ++ p.2 = s
  | [], p, h => by cases h
  | x :: s, p, h => by
    rw [cutDot] at h
    split at h
    · rename_i hx; cases h; rw [hx]; rfl
    · cases hc : cutDot s with
      | none => rw [hc] at h; cases h
      | some q => rw [hc] at h; cases h; have := cutDot_join hc; simp at this ⊢; exact this
theorem roleP1_text {s : List UInt8} (h : roleR (roleP1 s) = true) : roleT (roleP1 s) = s := by
  unfold roleP1 roleP at *
  cases hc : cutDot s with
  | none => rw [hc] at h; exact absurd h (by decide +kernel)
  | some r =>
    rw [hc] at h
    simp only at h ⊢
    by_cases hr : roleR r = true
    · rw [if_pos hr]; exact cutDot_join hc
    · rw [if_neg hr] at h; exact absurd h (by decide +kernel)
theorem roleP1_of {r : Role} (h : roleR r = true) : roleP1 (roleT r) = r := by unfold roleP1; rw [roleP_text r h]; rfl
/-- Which credential a text is, as the reference tells. -/
def refQ (h : Role) (q : List UInt8) : Option CredT := match splitG ampS q with
  | [x, y] => some ⟨4, h, [], roleP1 x, roleP1 y, []⟩
  | _ :: _ :: _ :: _ => none
  | _ => match splitG [46] q with
    | [_] => some ⟨1, h, q, nR, nR, []⟩
    | [x, y] => some ⟨2, h, [], (x, y), nR, []⟩
    | [x, y, z] => some ⟨3, h, [], (x, y), nR, z⟩
    | _ => none
def onlyR (c : Option CredT) : Option CredT := c.bind fun c => if credR c = true then some c else none
def refP (s : List UInt8) : Option CredT := match splitG arrow s with
  | [p, q] => onlyR (refQ (roleP1 p) q)
  | _ => none
theorem body_60 {x : CredT} (h : credR x = true) : ∀ y ∈ bodyT x, y ≠ 60 := by
  obtain ⟨h1, h2⟩ := credR_cases h
  unfold bodyT
  rcases h2 with ⟨hk, hw, _⟩ | ⟨_, hb, ⟨hk, _⟩ | ⟨hk, _, _, he⟩ | ⟨hk, _, hc, _⟩⟩
  · rw [if_pos hk]; exact fun y hy => (nameR_ok hw y hy).1.2.1
  · rw [if_neg (by omega), if_pos hk]; exact fun y hy => (roleT_ok hb y hy).2.1
  · rw [if_neg (by omega), if_neg (by omega), if_pos hk]
    intro y hy
    simp only [List.mem_append, List.mem_singleton] at hy
    rcases hy with (hy | rfl) | hy
    · exact (roleT_ok hb y hy).2.1
    · decide
    · exact (nameR_ok he y hy).1.2.1
  · rw [if_neg (by omega), if_neg (by omega), if_neg (by omega)]
    intro y hy
    simp only [List.mem_append] at hy
    rcases hy with (hy | hy) | hy
    · exact (roleT_ok hb y hy).2.1
    · simp only [ampS, List.mem_cons, List.not_mem_nil, or_false] at hy; rcases hy with rfl | rfl | rfl <;> decide
    · exact (roleT_ok hc y hy).2.1
/-- The body's parts. -/
theorem body_amp {x : CredT} (h : credR x = true) (hk : x.k ≠ 4) : ∀ y ∈ bodyT x, y ≠ 32 := by
  obtain ⟨h1, h2⟩ := credR_cases h
  unfold bodyT
  rcases h2 with ⟨hk, hw, _⟩ | ⟨_, hb, ⟨hk, _⟩ | ⟨hk, _, _, he⟩ | ⟨hk', _⟩⟩
  · rw [if_pos hk]; exact fun y hy => (nameR_ok hw y hy).1.1
  · rw [if_neg (by omega), if_pos hk]; exact fun y hy => (roleT_ok hb y hy).1
  · rw [if_neg (by omega), if_neg (by omega), if_pos hk]
    intro y hy
    simp only [List.mem_append, List.mem_singleton] at hy
    rcases hy with (hy | rfl) | hy
    · exact (roleT_ok hb y hy).1
    · decide
    · exact (nameR_ok he y hy).1.1
  · exact absurd hk' hk
theorem no46 {s : List UInt8} (h : nameR s = true) : ∀ y ∈ s, y ≠ 46 := fun y hy => (nameR_ok h y hy).2
theorem refQ_body {x : CredT} (h : credR x = true) : refQ x.h (bodyT x) = some x := by
  have h60 := body_amp h
  obtain ⟨h1, h2⟩ := credR_cases h
  obtain ⟨k, hh, w, b, c, e⟩ := x
  simp only at *
  rcases h2 with ⟨rfl, hw, rfl, rfl, rfl⟩ | ⟨rfl, hb, ⟨rfl, rfl, rfl⟩ | ⟨rfl, rfl, _, he⟩ | ⟨rfl, rfl, hc, _⟩⟩
  · have ha : splitG ampS w = [w] := splitG_no (d := 32) (by decide) (h60 (by decide))
    have hd : splitG [46] w = [w] := splitG_no (d := 46) (by decide) (no46 hw)
    simp [refQ, bodyT, ha, hd]
  · have ha : splitG ampS (roleT b) = [roleT b] := splitG_no (d := 32) (by decide) fun y hy => (roleT_ok hb y hy).1
    obtain ⟨o, d⟩ := b
    have hr : nameR o = true ∧ nameR d = true := by simpa [roleR] using hb
    have hd : splitG [46] (roleT (o, d)) = [o, d] := by
      unfold roleT
      rw [splitG_app (no46 hr.1), splitG_no (d := 46) (by decide) (no46 hr.2)]
    simp [refQ, bodyT, ha, hd]
  · have ha : splitG ampS (roleT b ++ [46] ++ e) = [roleT b ++ [46] ++ e] := splitG_no (d := 32) (by decide) (h60 (by decide))
    obtain ⟨o, d⟩ := b
    have hr : nameR o = true ∧ nameR d = true := by simpa [roleR] using hb
    have hd : splitG [46] (roleT (o, d) ++ [46] ++ e) = [o, d, e] := by
      unfold roleT
      simp only
      rw [show o ++ [46] ++ d ++ [46] ++ e = o ++ [46] ++ (d ++ [46] ++ e) by simp, splitG_app (no46 hr.1), splitG_app (no46 hr.2), splitG_no (d := 46) (by decide) (no46 he)]
    simp only [refQ, bodyT]
    simp only [show ((3 : Int) = 1) = False from by simp, show ((3 : Int) = 2) = False from by simp, if_false, if_true]
    rw [ha, hd]
  · have ha : splitG ampS (roleT b ++ ampS ++ roleT c) = [roleT b, roleT c] := by
      unfold ampS
      rw [splitG_app fun y hy => (roleT_ok hb y hy).1, splitG_no (d := 32) (by decide) fun y hy => (roleT_ok hc y hy).1]
    simp only [refQ, bodyT]
    simp only [show ((4 : Int) = 1) = False from by simp, show ((4 : Int) = 2) = False from by simp, show ((4 : Int) = 3) = False from by simp, if_false]
    rw [ha]
    simp only
    rw [roleP1_of hb, roleP1_of hc]
theorem refP_text {x : CredT} (h : credR x = true) : refP (credTx x) = some x := by
  have hh := (credR_cases h).1
  unfold refP credTx arrow
  rw [splitG_app fun y hy => (roleT_ok hh y hy).1, splitG_no (d := 60) (by decide) (body_60 h)]
  simp only
  rw [roleP1_of hh, refQ_body h]
  simp [onlyR, h]
theorem refQ_some {h : Role} {q : List UInt8} {c : CredT} (hq : refQ h q = some c) (hr : credR c = true) : c.h = h ∧ bodyT c = q := by
  have ja := splitG_join ampS q
  have jd := splitG_join [46] q
  unfold refQ at hq
  generalize splitG ampS q = la at *
  generalize splitG [46] q = ld at *
  obtain ⟨_, h2⟩ := credR_cases hr
  have dots : ∀ {ld : List (List UInt8)}, joinG [46] ld = q → (match ld with
      | [_] => some (⟨1, h, q, nR, nR, []⟩ : CredT)
      | [x, y] => some ⟨2, h, [], (x, y), nR, []⟩
      | [x, y, z] => some ⟨3, h, [], (x, y), nR, z⟩
      | _ => none) = some c → c.h = h ∧ bodyT c = q := by
    intro ld jd hq
    match ld, jd, hq with
    | [_], _, hq => cases hq; exact ⟨rfl, by simp [bodyT]⟩
    | [x, y], jd, hq => cases hq; exact ⟨rfl, by rw [← jd]; simp [bodyT, roleT, joinG]⟩
    | [x, y, z], jd, hq => cases hq; exact ⟨rfl, by rw [← jd]; simp [bodyT, roleT, joinG]⟩
    | [], _, hq => cases hq
    | _ :: _ :: _ :: _ :: _, _, hq => cases hq
  match la, ja, hq with
  | [x, y], ja, hq =>
    cases hq
    refine ⟨rfl, ?_⟩
    rcases h2 with ⟨hk, _⟩ | ⟨_, hb, ⟨hk, _⟩ | ⟨hk, _⟩ | ⟨_, _, hc, _⟩⟩
    · exact absurd hk (show ¬ (4 : Int) = 1 by decide)
    · exact absurd hk (show ¬ (4 : Int) = 2 by decide)
    · exact absurd hk (show ¬ (4 : Int) = 3 by decide)
    · simp only at hb hc
      rw [← ja]
      simp [bodyT, joinG, roleP1_text hb, roleP1_text hc]
  | _ :: _ :: _ :: _, _, hq => cases hq
  | [], _, hq => exact dots jd hq
  | [_], _, hq => exact dots jd hq
theorem refP_some {s : List UInt8} {c : CredT} (h : refP s = some c) : credR c = true ∧ credTx c = s := by
  have js := splitG_join arrow s
  unfold refP at h
  generalize splitG arrow s = ls at *
  match ls, js, h with
  | [p, q], js, h =>
    simp only [onlyR] at h
    cases hq : refQ (roleP1 p) q with
    | none => rw [hq] at h; cases h
    | some d =>
      rw [hq] at h
      simp only [Option.bind_some] at h
      split at h
      · rename_i hr
        cases h
        obtain ⟨e1, e2⟩ := refQ_some hq hr
        refine ⟨hr, ?_⟩
        have hh := (credR_cases hr).1
        rw [e1] at hh
        unfold credTx
        rw [e1, e2, roleP1_text hh, ← js]
        simp [joinG]
      · cases h
  | [], _, h => cases h
  | [_], _, h => cases h
  | _ :: _ :: _ :: _, _, h => cases h
/-- What the program makes of a body. -/
def ofP (h : Role) (s : List UInt8) : CredT :=
  if (Lib.cut s ampS).2.2 = true then ⟨4, h, [], roleP1 (Lib.cut s ampS).1, roleP1 (Lib.cut s ampS).2.1, []⟩
  else if Lib.countByte s 46 = 0 then ⟨1, h, s, nR, nR, []⟩
  else if Lib.countByte s 46 = 1 then ⟨2, h, [], roleP1 (Lib.cut s ampS).1, nR, []⟩
  else ⟨3, h, [], roleP1 (s.take (Lib.lastIndex s [46]).toNat), nR, s.drop ((Lib.lastIndex s [46]).toNat + 1)⟩
def credTy (x : CredT) : List UInt8 := if credR x = true then credTx x else []
def progP (s : List UInt8) : Option CredT :=
  if (Lib.cut s arrow).2.2 = true ∧ (roleP (Lib.cut s arrow).1).isSome = true then
    (if credTy (ofP (roleP1 (Lib.cut s arrow).1) (Lib.cut s arrow).2.1) = s then some (ofP (roleP1 (Lib.cut s arrow).1) (Lib.cut s arrow).2.1) else none)
  else none
theorem cut_app {a b t : List UInt8} {c : UInt8} (h : ∀ x ∈ a, x ≠ c) : Lib.cut (a ++ (c :: t) ++ b) (c :: t) = (a, b, true) := by
  unfold Lib.cut
  rw [index_app h, if_pos (by omega)]
  simp only [Int.toNat_natCast]
  rw [← List.length_append, List.drop_left, List.append_assoc, List.take_left]
theorem cut_no {sep s : List UInt8} {d : UInt8} (hd : d ∈ sep) (hs : ∀ x ∈ s, x ≠ d) : Lib.cut s sep = (s, [], false) := by
  unfold Lib.cut
  rw [index_no fun j => occ_mem hd hs j]; rfl
theorem occ46 (s : List UInt8) (i : Nat) : occAt s [46] i = true ↔ s[i]? = some 46 := by
  constructor
  · intro h
    obtain ⟨r, hr⟩ := occ_pre h
    have := congrArg (fun l => l[0]?) hr
    simpa using this.symm
  · intro h
    unfold occAt
    obtain ⟨hi, e⟩ := List.getElem?_eq_some_iff.1 h
    rw [List.drop_eq_getElem_cons hi, e]; simp
theorem lastIndex_46 (s : List UInt8) : (Lib.lastIndex s [46] = -1 ∧ ∀ j : Nat, s[j]? ≠ some 46) ∨ ∃ i : Nat, Lib.lastIndex s [46] = i ∧ s[i]? = some 46 ∧ ∀ j : Nat, i < j → s[j]? ≠ some 46 := by
  unfold Lib.lastIndex
  by_cases hl : [(46 : UInt8)].length ≤ s.length
  · rw [if_pos hl]
    simp only [List.length_singleton] at hl ⊢
    rw [show s.length - 1 + 1 = s.length by omega]
    rcases Lib.lastOcc_spec s [46] s.length with ⟨h1, h2⟩ | ⟨i, h1, h2, h3, h4⟩
    · refine .inl ⟨h1, fun j hj => ?_⟩
      have hjl := (List.getElem?_eq_some_iff.1 hj).1
      have := h2 j hjl
      rw [(occ46 s j).2 hj] at this; cases this
    · refine .inr ⟨i, h2, (occ46 s i).1 h3, fun j hij hj => ?_⟩
      have hjl := (List.getElem?_eq_some_iff.1 hj).1
      have := h4 j hij hjl
      rw [(occ46 s j).2 hj] at this; cases this
  · rw [if_neg hl]
    have : s = [] := List.eq_nil_of_length_eq_zero (by simp at hl; simpa using hl)
    subst this
    exact .inl ⟨rfl, by simp⟩
theorem lastIndex_app {a b : List UInt8} (h : ∀ x ∈ b, x ≠ 46) : Lib.lastIndex (a ++ [46] ++ b) [46] = a.length := by
  have hat : (a ++ [46] ++ b)[a.length]? = some 46 := by simp
  rcases lastIndex_46 (a ++ [46] ++ b) with ⟨_, h2⟩ | ⟨i, h1, h2, h3⟩
  · exact absurd hat (h2 _)
  · rw [h1]
    rcases Nat.lt_trichotomy i a.length with q | q | q
    · exact absurd hat (h3 _ q)
    · rw [q]
    · exfalso
      rw [List.getElem?_append_right (by simp; omega)] at h2
      exact h _ (List.mem_of_getElem? h2) rfl
theorem count_no {s : List UInt8} (h : ∀ x ∈ s, x ≠ 46) : Lib.countByte s 46 = 0 := by
  unfold Lib.countByte; rw [List.count_eq_zero]; exact fun q => h _ q rfl
theorem count_app (a b : List UInt8) : Lib.countByte (a ++ b) 46 = Lib.countByte a 46 + Lib.countByte b 46 := by unfold Lib.countByte; exact List.count_append
theorem ofP_body {x : CredT} (h : credR x = true) : ofP x.h (bodyT x) = x := by
  obtain ⟨h1, h2⟩ := credR_cases h
  obtain ⟨k, hh, w, b, c, e⟩ := x
  simp only at *
  have c1 : Lib.countByte [46] 46 = 1 := by decide
  rcases h2 with ⟨rfl, hw, rfl, rfl, rfl⟩ | ⟨rfl, hb, ⟨rfl, rfl, rfl⟩ | ⟨rfl, rfl, _, he⟩ | ⟨rfl, rfl, hc, _⟩⟩
  · have ha : Lib.cut w ampS = (w, [], false) := cut_no (d := 32) (by decide) fun y hy => (nameR_ok hw y hy).1.1
    simp [ofP, bodyT, ha, count_no (no46 hw)]
  · have ha : Lib.cut (roleT b) ampS = (roleT b, [], false) := cut_no (d := 32) (by decide) fun y hy => (roleT_ok hb y hy).1
    have hn : Lib.countByte (roleT b) 46 = 1 := by
      have hr : nameR b.1 = true ∧ nameR b.2 = true := by simpa [roleR] using hb
      unfold roleT
      rw [count_app, count_app, c1, count_no (no46 hr.1), count_no (no46 hr.2)]
    simp [ofP, bodyT, ha, hn, roleP1_of hb]
  · have ha : Lib.cut (roleT b ++ [46] ++ e) ampS = (roleT b ++ [46] ++ e, [], false) := cut_no (d := 32) (by decide) (body_amp h (by simp))
    have hn : Lib.countByte (roleT b ++ [46] ++ e) 46 = 2 := by
      have hr : nameR b.1 = true ∧ nameR b.2 = true := by simpa [roleR] using hb
      unfold roleT
      rw [count_app, count_app, count_app, count_app, c1, count_no (no46 hr.1), count_no (no46 hr.2), count_no (no46 he)]
    have hl := lastIndex_app (a := roleT b) (no46 he)
    have e1 : (roleT b ++ [46] ++ e).take (roleT b).length = roleT b := by rw [List.append_assoc, List.take_left]
    have e2 : (roleT b ++ [46] ++ e).drop ((roleT b).length + 1) = e := by
      rw [show (roleT b).length + 1 = (roleT b ++ [46]).length by simp, List.drop_left]
    simp only [ofP, bodyT]
    simp only [show ((3 : Int) = 1) = False from by simp, show ((3 : Int) = 2) = False from by simp, if_false, if_true]
    rw [ha, hn, hl]
    simp only [Int.toNat_natCast]
    rw [e1, e2, roleP1_of hb]
    simp
  · have ha : Lib.cut (roleT b ++ ampS ++ roleT c) ampS = (roleT b, roleT c, true) := cut_app fun y hy => (roleT_ok hb y hy).1
    simp only [ofP, bodyT]
    simp only [show ((4 : Int) = 1) = False from by simp, show ((4 : Int) = 2) = False from by simp, show ((4 : Int) = 3) = False from by simp, if_false]
    rw [ha]
    simp only [if_true]
    rw [roleP1_of hb, roleP1_of hc]
theorem progP_eq (s : List UInt8) : progP s = refP s := by
  cases hr : refP s with
  | some c =>
    obtain ⟨h1, h2⟩ := refP_some hr
    have hh := (credR_cases h1).1
    have hc : Lib.cut s arrow = (roleT c.h, bodyT c, true) := by
      rw [← h2]; exact cut_app fun y hy => (roleT_ok hh y hy).1
    unfold progP
    rw [hc]
    simp only
    rw [roleP1_of hh, ofP_body h1, roleP_text c.h hh, if_pos ⟨trivial, rfl⟩, if_pos (by rw [credTy, if_pos h1, h2])]
  | none =>
    unfold progP
    split
    · rename_i hok
      generalize ofP (roleP1 (Lib.cut s arrow).1) (Lib.cut s arrow).2.1 = c
      split
      · rename_i ht
        by_cases hc : credR c = true
        · rw [credTy, if_pos hc] at ht
          rw [← ht, refP_text hc] at hr; cases hr
        · rw [credTy, if_neg hc] at ht
          subst ht
          exact absurd hok.1 (by decide +kernel)
      · rfl
    · rfl
end Go.Proofs.Ytpenjnccdachaaa
