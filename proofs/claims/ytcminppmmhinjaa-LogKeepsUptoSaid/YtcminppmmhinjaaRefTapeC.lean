/- The reference's tape over pieces of memory. -/
import Derived.Test.YtcminppmmhinjaaRefTapeB
import Derived.Test.YtcminppmmhinjaaSepR
import Derived.Test.YtcminppmmhinjaaRegion4
namespace Go.Proofs.Ytcminppmmhinjaa
set_option linter.unusedSimpArgs false
set_option linter.unusedVariables false
open Go Go.RowKit
theorem Own.refUp {fr al : Nat → Prop} {w w' : World} {t : Nat} {vs0 vs : List Value} (st : Own fr al w [blkI t vs0] w) (hm : MutO (fun k => k = t) w w') (hb : Blk w' t vs) : Own fr al w [blkI t vs] w' :=
  st.upd (i := 0) (I' := blkI t vs) rfl fun e s ⟨h1, h2⟩ h3 h4 => ⟨e, s, ⟨h1, hb⟩, fun b hb => ⟨Nat.lt_of_lt_of_le (h3 b (.inl hb)) hm.size, .inl hb⟩, fun b hb => ⟨Nat.lt_of_lt_of_le (h3 b (.inr hb)) hm.size, .inr (.inl hb)⟩, h4, hm.mono fun k hk => by obtain rfl : k = t := hk; exact h1⟩
/-- The reference's tape: what is left, and the error. -/
def refI (t : Nat) (res : Except Int (List UInt8)) : It where
  P e s w := ∃ xs n, (match res with | .ok ys => xs = ys ∧ n = 0 | .error er => n = er ∧ er ≠ 0) ∧ (blkI t [S xs, .int .i64 n]).P e s w
  st := fun ⟨xs, n, h1, h2⟩ hag => ⟨xs, n, h1, (blkI t [S xs, .int .i64 n]).st h2 hag⟩
  facts _ := True
  ok := fun _ => trivial
theorem Own.refOk {fr al : Nat → Prop} {w0 w : World} {L : List It} (st : Own fr al w0 L w) {i t : Nat} {xs : List UInt8} (hi : L[i]? = some (refI t (.ok xs))) : Own fr al w0 (L.set i (blkI t [S xs, .int .i64 0])) w :=
  st.conv hi fun e s ⟨ys, n, ⟨h1, h2⟩, h3⟩ h4 => by subst h1 h2; exact ⟨e, s, h3, fun _ q => q, fun _ q => .inr q, h4⟩
theorem Own.refMk {fr al : Nat → Prop} {w0 w : World} {L : List It} (st : Own fr al w0 L w) {i t : Nat} {xs : List UInt8} (hi : L[i]? = some (blkI t [S xs, .int .i64 0])) : Own fr al w0 (L.set i (refI t (.ok xs))) w :=
  st.conv hi fun e s h3 h4 => ⟨e, s, ⟨xs, 0, ⟨rfl, rfl⟩, h3⟩, fun _ q => q, fun _ q => .inr q, h4⟩
theorem Own.refMkE {fr al : Nat → Prop} {w0 w : World} {L : List It} (st : Own fr al w0 L w) {i t : Nat} {xs : List UInt8} {er : Int} (hi : L[i]? = some (blkI t [S xs, .int .i64 er])) (he : er ≠ 0) : Own fr al w0 (L.set i (refI t (.error er))) w :=
  st.conv hi fun e s h3 h4 => ⟨e, s, ⟨xs, er, ⟨rfl, he⟩, h3⟩, fun _ q => q, fun _ q => .inr q, h4⟩
theorem Own.refErr {fr al : Nat → Prop} {w0 w : World} {L : List It} (st : Own fr al w0 L w) {i t : Nat} {er : Int} (hi : L[i]? = some (refI t (.error er))) : ∃ xs, er ≠ 0 ∧ Own fr al w0 (L.set i (blkI t [S xs, .int .i64 er])) w := by
  obtain ⟨e0, s0, ⟨xs, n, ⟨h1, h1'⟩, h2⟩, _⟩ := st.get hi
  subst h1
  refine ⟨xs, h1', st.conv hi fun e s ⟨ys, m, ⟨q1, q1'⟩, q2⟩ h4 => ?_⟩
  subst q1
  have e1 := h2.2.cell 0
  have e2 := q2.2.cell 0
  rw [e1] at e2
  simp at e2
  rw [← e2] at q2
  exact ⟨e, s, q2, fun _ q => q, fun _ q => .inr q, h4⟩
/-- What a method of the reference's tape does: the value, and what is left. -/
def RefC {α : Type} (fr al : Nat → Prop) (w : World) (t : Nat) (res : Except Int (α × List UInt8)) (z : Value) (vl : α → Value) (en : Ending) (w' : World) : Prop :=
  match res with
  | .error e => en = .returned z ∧ Own fr al w [refI t (.error e)] w'
  | .ok (x, ys) => en = .returned (vl x) ∧ Own fr al w [refI t (.ok ys)] w'
theorem rdNum_er {xs : List UInt8} {e : Int} (h : rdNum xs = .error e) : e ≠ 0 := rdNum_err h
theorem rdNumber_er {most : Int} {xs : List UInt8} {e : Int} (h : rdNumber most xs = .error e) : e ≠ 0 := by
  unfold rdNumber at h
  cases hr : rdNum xs with
  | error e' => rw [hr] at h; simp at h; subst h; exact rdNum_er hr
  | ok p =>
    obtain ⟨n, ys⟩ := p
    rw [hr] at h
    simp only at h
    split at h
    · simp at h; subst h; decide
    · simp at h
theorem rdText_er {most : Int} {xs : List UInt8} {e : Int} (h : rdText most xs = .error e) : e ≠ 0 := by
  unfold rdText at h
  cases hr : rdNum xs with
  | error e' => rw [hr] at h; simp at h; subst h; exact rdNum_er hr
  | ok p =>
    obtain ⟨n, ys⟩ := p
    rw [hr] at h
    simp only at h
    split at h
    · simp at h; subst h; decide
    · split at h
      · simp at h; subst h; decide
      · simp at h
theorem refNumber_c {fr al : Nat → Prop} {w : World} {t : Nat} {xs : List UInt8} (st : Own fr al w [refI t (.ok xs)] w) (most : Int) :
    Calls Try.prog 144 #[.pointer (some ⟨t, 0, none⟩), .int .i64 most] w (RefC fr al w t (rdNumber most xs) (.int .i64 0) fun n => .int .i64 (n : Int)) := by
  have st1 := st.refOk (i := 0) get0
  refine (refTNumber_any w t xs most (st1.blk (i := 0) rfl)).mono ?_
  rintro en w' ⟨hm, h⟩
  unfold RefC
  cases hr : rdNumber most xs with
  | error e => rw [hr] at h; obtain ⟨h1, s, h2⟩ := h; exact ⟨h1, (st1.refUp hm h2).refMkE (i := 0) rfl (rdNumber_er hr)⟩
  | ok p => obtain ⟨n, ys⟩ := p; rw [hr] at h; exact ⟨h.1, (st1.refUp hm h.2).refMk (i := 0) rfl⟩
theorem refText_c {fr al : Nat → Prop} {w : World} {t : Nat} {xs : List UInt8} (st : Own fr al w [refI t (.ok xs)] w) (most : Int) (hl : xs.length ≤ 100000000000) :
    Calls Try.prog 190 #[.pointer (some ⟨t, 0, none⟩), .int .i64 most] w (RefC fr al w t (rdText most xs) (S []) fun bs => S bs) := by
  have st1 := st.refOk (i := 0) get0
  refine (refTText_any w t xs most (st1.blk (i := 0) rfl) hl).mono ?_
  rintro en w' ⟨hm, h⟩
  unfold RefC
  cases hr : rdText most xs with
  | error e => rw [hr] at h; obtain ⟨h1, s, h2⟩ := h; exact ⟨h1, (st1.refUp hm h2).refMkE (i := 0) rfl (rdText_er hr)⟩
  | ok p => obtain ⟨n, ys⟩ := p; rw [hr] at h; exact ⟨h.1, (st1.refUp hm h.2).refMk (i := 0) rfl⟩
set_option maxRecDepth 100000 in
set_option maxHeartbeats 1000000 in
theorem refNumber_e {fr al : Nat → Prop} {w0 w : World} {L : List It} (st : Own fr al w0 L w) (i : Nat) {t : Nat} {er : Int} (hi : L[i]? = some (refI t (.error er))) (most : Int) :
    Calls Try.prog 144 #[.pointer (some ⟨t, 0, none⟩), .int .i64 most] w fun e w' => e = .returned (.int .i64 0) ∧ w = w' := by
  obtain ⟨xs, he, st1⟩ := st.refErr hi
  have hb := st1.blk (i := i) (b := t) (vs := [S xs, .int .i64 er]) (by simp [List.getElem?_set, get_lt hi])
  have r1 := hb.cell 1
  simp only [List.getElem?_cons_succ, List.getElem?_cons_zero] at r1
  have hne : (er != 0) = true := by simpa using he
  clear st st1 hb hi
  go_enter Try.func144, Try.ntmps144
  go_wp2_with fail
  go_ret
  exact ⟨rfl, rfl⟩
set_option maxRecDepth 100000 in
set_option maxHeartbeats 1000000 in
theorem refText_e {fr al : Nat → Prop} {w0 w : World} {L : List It} (st : Own fr al w0 L w) (i : Nat) {t : Nat} {er : Int} (hi : L[i]? = some (refI t (.error er))) (most : Int) :
    Calls Try.prog 190 #[.pointer (some ⟨t, 0, none⟩), .int .i64 most] w fun e w' => e = .returned (S []) ∧ w = w' := by
  have HST := Lib.hid (And.intro st hi)
  obtain ⟨xs, he, st1⟩ := st.refErr hi
  have hb := st1.blk (i := i) (b := t) (vs := [S xs, .int .i64 er]) (by simp [List.getElem?_set, get_lt hi])
  have r1 := hb.cell 1
  simp only [List.getElem?_cons_succ, List.getElem?_cons_zero] at r1
  have hne : (er != 0) = true := by simpa using he
  have hne2 : (er == 0) = false := by simpa using he
  clear st st1 hb hi
  go_enter Try.func190, Try.ntmps190
  go_wp2_with fail
  refine (refNumber_e HST.out.1 i HST.out.2 _).mono ?_
  rintro en w' ⟨rfl, rfl⟩
  go_wp2_with fail
  go_ret
  exact ⟨rfl, rfl⟩
def bnd {α : Type} (res : Except Int (List UInt8)) (f : List UInt8 → Except Int (α × List UInt8)) : Except Int (α × List UInt8) := match res with | .error e => .error e | .ok xs => f xs
theorem refNumber_m {fr al : Nat → Prop} {w : World} {t : Nat} {res : Except Int (List UInt8)} (st : Own fr al w [refI t res] w) (most : Int) :
    Calls Try.prog 144 #[.pointer (some ⟨t, 0, none⟩), .int .i64 most] w (RefC fr al w t (bnd res (rdNumber most)) (.int .i64 0) fun n => .int .i64 (n : Int)) := by
  cases res with
  | ok xs => exact refNumber_c st most
  | error er =>
    refine (refNumber_e st 0 get0 most).mono ?_
    rintro en w' ⟨rfl, rfl⟩
    exact ⟨rfl, st⟩
theorem refText_m {fr al : Nat → Prop} {w : World} {t : Nat} {res : Except Int (List UInt8)} (st : Own fr al w [refI t res] w) (most : Int) (hl : ∀ xs, res = .ok xs → xs.length ≤ 100000000000) :
    Calls Try.prog 190 #[.pointer (some ⟨t, 0, none⟩), .int .i64 most] w (RefC fr al w t (bnd res (rdText most)) (S []) fun s => S s) := by
  cases res with
  | ok xs => exact refText_c st most (hl xs rfl)
  | error er =>
    refine (refText_e st 0 get0 most).mono ?_
    rintro en w' ⟨rfl, rfl⟩
    exact ⟨rfl, st⟩
theorem refEnd_c {fr al : Nat → Prop} {w0 w : World} {L : List It} (st : Own fr al w0 L w) (i : Nat) {t : Nat} {res : Except Int (List UInt8)} (hi : L[i]? = some (refI t res)) :
    Calls Try.prog 75 #[.pointer (some ⟨t, 0, none⟩)] w fun e w' => e = .returned (.int .i64 (match res with | .ok ys => if ys = [] then 0 else 13 | .error er => er)) ∧ w = w' := by
  cases res with
  | ok ys =>
    have st1 := st.refOk hi
    refine (refEnd_any w t ys 0 (st1.blk (i := i) (by simp [List.getElem?_set, get_lt hi]))).mono ?_
    rintro e w' ⟨h1, h2⟩
    exact ⟨by rw [h1]; simp, h2⟩
  | error er =>
    obtain ⟨xs, he, st1⟩ := st.refErr hi
    refine (refEnd_any w t xs er (st1.blk (i := i) (by simp [List.getElem?_set, get_lt hi]))).mono ?_
    rintro e w' ⟨h1, h2⟩
    exact ⟨by rw [h1, if_neg he], h2⟩
end Go.Proofs.Ytcminppmmhinjaa
