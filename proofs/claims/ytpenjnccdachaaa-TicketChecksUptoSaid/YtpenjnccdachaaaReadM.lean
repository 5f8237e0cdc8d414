/- tape.Read of a function that puts what it gets into a block, and lays more. -/
import Derived.Test.YtpenjnccdachaaaRow
namespace Go.Proofs.Ytpenjnccdachaaa
set_option linter.unusedSimpArgs false
set_option linter.unusedVariables false
open Go Go.RowKit
/-- One behind another. -/
def bdm {α β : Type} (r : Except Int (α × List UInt8)) (f : α → List UInt8 → Except Int β) : Except Int β := match r with | .error e => .error e | .ok p => f p.1 p.2
theorem bdm_er {α β : Type} (e : Int) (f : α → List UInt8 → Except Int β) : bdm (.error e) f = .error e := rfl
theorem bdm_ok {α β : Type} (x : α) (ys : List UInt8) (f : α → List UInt8 → Except Int β) : bdm (.ok (x, ys)) f = f x ys := rfl
def GetPostM {α : Type} (fr al : Nat → Prop) (w : World) (r b : Nat) (res : Except Int (α × List UInt8)) (z : List Value) (okM : α → List Value → List It → Prop) (en : Ending) (w' : World) : Prop :=
  match res with
  | .error e => en = .panicked [{ v := failV r e, recovered := false }] ∧ Own fr al w [rdAnyI r, blkI b z] w'
  | .ok (s, ys) => en = .returned (.tuple #[]) ∧ ∃ cs M, okM s cs M ∧ Own fr al w (rdI r ys :: blkI b cs :: M) w'
/-- What the block holds behind it, and what more lies there. -/
def GotM {α : Type} (res : Except Int (α × List UInt8)) (z : List Value) (okM : α → List Value → List It → Prop) (cs : List Value) (M : List It) : Prop := match res with
  | .error _ => cs = z ∧ M = []
  | .ok (s, _) => okM s cs M
theorem pick_mid (X M : List It) (a : It) : pick (X ++ [a] ++ M) (X.length :: (List.range X.length ++ (List.range M.length).map (X.length + 1 + ·))) = a :: (X ++ M) := by
  unfold pick
  rw [List.map_cons, List.map_append]
  congr 1
  · simp
  · congr 1
    · apply List.ext_getElem
      · simp
      · intro i h1 h2
        simp [List.getElem?_append_left h2, List.getElem?_eq_getElem h2, List.append_assoc]
    · apply List.ext_getElem
      · simp
      · intro i h1 h2
        simp only [List.map_map, List.getElem_map, List.getElem_range, Function.comp]
        rw [List.getElem?_append_right (by simp)]
        simp only [List.length_append, List.length_singleton]
        rw [show X.length + 1 + i - (X.length + 1) = i by omega, List.getElem?_eq_getElem h2, Option.getD_some]
theorem putIt_twoM (L M : List It) (I A B : It) (i : Nat) (hi : i < L.length) : putIt (L ++ [I]) (A :: B :: M) 0 [L.length, i] = L.set i B ++ [A] ++ M := by
  simp only [putIt, List.getElem?_cons_zero, List.getElem?_cons_succ, Option.getD_some, List.drop_succ_cons, List.drop_zero]
  rw [List.set_append_right _ _ (Nat.le_refl _), Nat.sub_self, List.set_cons_zero, List.set_append_left _ _ hi]
theorem readGetM_c {α : Type} {fr al : Nat → Prop} {w0 w : World} {L : List It} (st : Own fr al w0 L w) (i : Nat) {b : Nat} {z : List Value} (hi : L[i]? = some (blkI b z)) {a : Option Addr} {n c : Nat} {xs : List UInt8} (h : By w a n xs) (hc : n ≤ c ∧ c ≤ maxLen) (hn : n ≤ 100000000000) (F : FuncId)
    (hinv : ∀ w r, (callFunc F (#[.pointer (some ⟨r, 0, none⟩)] ++ #[.pointer (some ⟨b, 0, none⟩)])).run Try.prog w = .ok (.enter F (#[.pointer (some ⟨r, 0, none⟩)] ++ #[.pointer (some ⟨b, 0, none⟩)])) w)
    (res : Except Int (α × List UInt8)) (okM : α → List Value → List It → Prop)
    (hclo : ∀ fr al w r, Own fr al w [rdI r xs, blkI b z] w → Calls Try.prog F #[.pointer (some ⟨r, 0, none⟩), .pointer (some ⟨b, 0, none⟩)] w (GetPostM fr al w r b res z okM)) :
    Calls Try.prog 26 #[.slice a n c, .func (.func F) #[] #[.pointer (some ⟨b, 0, none⟩)]] w fun en w' => ∃ r cs M, en = .returned (.int .i64 (gotE res)) ∧ GotM res z okM cs M ∧ Own fr al w0 (rdOverI r :: (L.set i (blkI b cs) ++ M)) w' := by
  have hil := get_lt hi
  have fin : ∀ {fr' al' : Nat → Prop} {w1 w2 : World} {A B I : It} {M : List It}, Own fr' al' w1 (putIt (L ++ [I]) (A :: B :: M) 0 [L.length, i]) w2 → Own fr' al' w1 (A :: (L.set i B ++ M)) w2 := by
    intro fr' al' w1 w2 A B I M st3
    rw [putIt_twoM L M I A B i hil] at st3
    have hk := st3.keep ((L.set i B).length :: (List.range (L.set i B).length ++ (List.range M.length).map ((L.set i B).length + 1 + ·))) (by
      rw [List.nodup_cons, List.nodup_append]
      refine ⟨?_, List.nodup_range, ?_, ?_⟩
      · simp only [List.mem_append, List.mem_range, List.mem_map, not_or, not_exists, not_and]
        exact ⟨by omega, fun q _ => by omega⟩
      · exact List.pairwise_map.2 (List.Pairwise.imp (fun {x y} h e => h (by omega)) List.nodup_range)
      · intro x hx y hy
        simp only [List.mem_range, List.mem_map] at hx hy
        obtain ⟨q, _, rfl⟩ := hy
        omega) (by
      intro q hq
      simp only [List.mem_cons, List.mem_append, List.mem_range, List.mem_map] at hq
      simp only [List.length_append, List.length_singleton]
      rcases hq with e | e | ⟨q', e1, rfl⟩ <;> omega)
    rwa [pick_mid] at hk
  refine (read_c st h hc hn F #[.pointer (some ⟨b, 0, none⟩)] hinv (fun r e M => e = gotE res ∧ ∃ cs M', GotM res z okM cs M' ∧ M = L.set i (blkI b cs) ++ M') fun fr' al' w1 r hr st1 => ?_).mono ?_
  · obtain ⟨fr2, al2, st2, back⟩ := st1.sub [L.length, i] (by simp; omega) (by
      intro q hq; simp at hq ⊢; omega)
    have hp : pick (L ++ [rdI r xs]) [L.length, i] = [rdI r xs, blkI b z] := by
      simp [pick, List.getElem?_append_left hil, hi]
    rw [hp] at st2
    refine (hclo _ _ _ r st2).mono ?_
    intro en w2 hen
    unfold GetPostM at hen
    cases hres : res with
    | error e =>
      rw [hres] at hen
      obtain ⟨rfl, st3⟩ := hen
      exact .inr ⟨e, [], _, rfl, rfl, ⟨rfl, z, [], ⟨rfl, rfl⟩, rfl⟩, fin (back _ _ (by simp) st3)⟩
    | ok p =>
      obtain ⟨s, ys⟩ := p
      rw [hres] at hen
      obtain ⟨rfl, cs, M, hok, st3⟩ := hen
      exact .inl ⟨_, ys, _, rfl, ⟨rfl, cs, M, hok, rfl⟩, fin (back _ _ (by simp) st3)⟩
  · rintro en w' ⟨r, e, M, rfl, ⟨rfl, cs, M', h1, rfl⟩, st'⟩
    exact ⟨r, cs, M', rfl, h1, st'⟩
end Go.Proofs.Ytpenjnccdachaaa
