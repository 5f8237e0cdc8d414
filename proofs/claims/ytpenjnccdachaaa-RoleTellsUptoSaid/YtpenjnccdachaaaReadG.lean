/- tape.Read of a function that puts what it gets into a block. -/
import Derived.Test.YtpenjnccdachaaaSepR
import Derived.Test.YtpenjnccdachaaaRefTapeC
namespace Go.Proofs.Ytpenjnccdachaaa
set_option linter.unusedSimpArgs false
set_option linter.unusedVariables false
open Go Go.RowKit
/-- How a function that tape.Read is given ends, over a block b that holds z. -/
def GetPost {α : Type} (fr al : Nat → Prop) (w : World) (r b : Nat) (res : Except Int (α × List UInt8)) (z : List Value) (vl : α → List Value) (en : Ending) (w' : World) : Prop :=
  match res with
  | .error e => en = .panicked [{ v := failV r e, recovered := false }] ∧ Own fr al w [rdAnyI r, blkI b z] w'
  | .ok (s, ys) => en = .returned (.tuple #[]) ∧ Own fr al w [rdI r ys, blkI b (vl s)] w'
/-- The error, and what the block holds behind it. -/
def gotE {α : Type} (res : Except Int (α × List UInt8)) : Int := match res with
  | .error e => e
  | .ok (_, ys) => if ys = [] then 0 else 13
def gotZ {α : Type} (res : Except Int (α × List UInt8)) (z : List Value) (vl : α → List Value) : List Value := match res with
  | .error _ => z
  | .ok (s, _) => vl s
theorem pick_range (L : List It) (x : It) : pick (L ++ [x]) (L.length :: List.range L.length) = x :: L := by
  unfold pick
  rw [List.map_cons]
  congr 1
  · simp
  · apply List.ext_getElem
    · simp
    · intro i h1 h2
      simp [List.getElem?_append_left h2, List.getElem?_eq_getElem h2]
theorem putIt_two (L : List It) (I A B : It) (i : Nat) (hi : i < L.length) : putIt (L ++ [I]) [A, B] 0 [L.length, i] = L.set i B ++ [A] := by
  simp only [putIt, List.getElem?_cons_zero, List.getElem?_cons_succ, Option.getD_some, List.drop_succ_cons, List.drop_zero, List.drop_nil, List.append_nil]
  rw [List.set_append_right _ _ (Nat.le_refl _), Nat.sub_self, List.set_cons_zero, List.set_append_left _ _ hi]
theorem readGet_c {α : Type} {fr al : Nat → Prop} {w0 w : World} {L : List It} (st : Own fr al w0 L w) (i : Nat) {b : Nat} {z : List Value} (hi : L[i]? = some (blkI b z)) {a : Option Addr} {n c : Nat} {xs : List UInt8} (h : By w a n xs) (hc : n ≤ c ∧ c ≤ maxLen) (hn : n ≤ 100000000000) (F : FuncId)
    (hinv : ∀ w r, (callFunc F (#[.pointer (some ⟨r, 0, none⟩)] ++ #[.pointer (some ⟨b, 0, none⟩)])).run Try.prog w = .ok (.enter F (#[.pointer (some ⟨r, 0, none⟩)] ++ #[.pointer (some ⟨b, 0, none⟩)])) w)
    (res : Except Int (α × List UInt8)) (vl : α → List Value)
    (hclo : ∀ fr al w r, Own fr al w [rdI r xs, blkI b z] w → Calls Try.prog F #[.pointer (some ⟨r, 0, none⟩), .pointer (some ⟨b, 0, none⟩)] w (GetPost fr al w r b res z vl)) :
    Calls Try.prog 26 #[.slice a n c, .func (.func F) #[] #[.pointer (some ⟨b, 0, none⟩)]] w fun en w' => ∃ r, en = .returned (.int .i64 (gotE res)) ∧ Own fr al w0 (rdOverI r :: L.set i (blkI b (gotZ res z vl))) w' := by
  have hil := get_lt hi
  have fin : ∀ {fr' al' : Nat → Prop} {w1 w2 : World} {A B I : It}, Own fr' al' w1 (putIt (L ++ [I]) [A, B] 0 [L.length, i]) w2 → Own fr' al' w1 (A :: L.set i B) w2 := by
    intro fr' al' w1 w2 A B I st3
    rw [putIt_two L I A B i hil] at st3
    have hk := st3.keep ((L.set i B).length :: List.range (L.set i B).length) (by
      rw [List.nodup_cons]; exact ⟨by simp, List.nodup_range⟩) (by
      intro q hq
      rcases List.mem_cons.1 hq with e | e
      · rw [e]; simp
      · have := List.mem_range.1 e; simp at this ⊢; omega)
    rwa [pick_range] at hk
  refine (read_c st h hc hn F #[.pointer (some ⟨b, 0, none⟩)] hinv (fun r e M => e = gotE res ∧ M = L.set i (blkI b (gotZ res z vl))) fun fr' al' w1 r hr st1 => ?_).mono ?_
  · obtain ⟨fr2, al2, st2, back⟩ := st1.sub [L.length, i] (by simp; omega) (by
      intro q hq; simp at hq ⊢; omega)
    have hp : pick (L ++ [rdI r xs]) [L.length, i] = [rdI r xs, blkI b z] := by
      simp [pick, List.getElem?_append_left hil, hi]
    rw [hp] at st2
    refine (hclo _ _ _ r st2).mono ?_
    intro en w2 hen
    unfold GetPost at hen
    cases hres : res with
    | error e =>
      rw [hres] at hen
      obtain ⟨rfl, st3⟩ := hen
      exact .inr ⟨e, [], _, rfl, rfl, ⟨rfl, rfl⟩, fin (back _ _ (by simp) st3)⟩
    | ok p =>
      obtain ⟨s, ys⟩ := p
      rw [hres] at hen
      obtain ⟨rfl, st3⟩ := hen
      exact .inl ⟨_, ys, _, rfl, ⟨rfl, rfl⟩, fin (back _ _ (by simp) st3)⟩
  · rintro en w' ⟨r, e, M, rfl, ⟨rfl, rfl⟩, st'⟩
    exact ⟨r, rfl, st'⟩
/-- A function that fails, over nothing. -/
theorem readErr_c {fr al : Nat → Prop} {w0 w : World} {L : List It} (st : Own fr al w0 L w) {a : Option Addr} {n c : Nat} {xs : List UInt8} (h : By w a n xs) (hc : n ≤ c ∧ c ≤ maxLen) (hn : n ≤ 100000000000) (F : FuncId)
    (hinv : ∀ w r, (callFunc F (#[.pointer (some ⟨r, 0, none⟩)] ++ #[])).run Try.prog w = .ok (.enter F (#[.pointer (some ⟨r, 0, none⟩)] ++ #[])) w) (er : Int)
    (hclo : ∀ fr al w r, Own fr al w [rdI r xs] w → Calls Try.prog F #[.pointer (some ⟨r, 0, none⟩)] w fun en w' => en = .panicked [{ v := failV r er, recovered := false }] ∧ Own fr al w [rdAnyI r] w') :
    Calls Try.prog 26 #[.slice a n c, .func (.func F) #[] #[]] w fun en w' => ∃ r, en = .returned (.int .i64 er) ∧ Own fr al w0 (rdOverI r :: L) w' := by
  refine (read_c st h hc hn F #[] hinv (fun r e M => e = er ∧ M = L) fun fr' al' w1 r hr st1 => ?_).mono ?_
  · obtain ⟨fr2, al2, st2, back⟩ := st1.sub [L.length] (by simp) (by simp)
    have hp : pick (L ++ [rdI r xs]) [L.length] = [rdI r xs] := by simp [pick]
    rw [hp] at st2
    refine (hclo _ _ _ r st2).mono ?_
    rintro en w2 ⟨rfl, st3⟩
    have st4 := back _ _ (by simp) st3
    simp only [putIt, List.getElem?_cons_zero, Option.getD_some, List.drop_succ_cons, List.drop_zero, List.append_nil] at st4
    rw [List.set_append_right _ _ (Nat.le_refl _), Nat.sub_self, List.set_cons_zero] at st4
    have hk := st4.keep (L.length :: List.range L.length) (by rw [List.nodup_cons]; exact ⟨by simp, List.nodup_range⟩) (by
      intro q hq
      rcases List.mem_cons.1 hq with e | e
      · rw [e]; simp
      · have := List.mem_range.1 e; simp; omega)
    rw [pick_range] at hk
    exact .inr ⟨er, [], _, rfl, rfl, ⟨rfl, rfl⟩, hk⟩
  · rintro en w' ⟨r, e, M, rfl, ⟨rfl, rfl⟩, st'⟩
    exact ⟨r, rfl, st'⟩
end Go.Proofs.Ytpenjnccdachaaa
