/- The reference's tape: Number, Text, End. -/
import Derived.Test.YtekngjkjgmplpaaRefTape
import Derived.Scope
import Derived.Deep.LoopGhost
import Derived.Lib.SlicesCompact
import Derived.Sort.Walk0
import Derived.Test.YtekngjkjgmplpaaShelf
import Derived.Sort.OwnSorted
import Derived.Lib.AppendZeros
import Derived.Laws.Rows
import Derived.Laws.ResultCell
import Derived.Lib.IndexLaws
namespace Go.Proofs.Ytekngjkjgmplpaa
set_option linter.unusedSimpArgs false
set_option linter.unusedVariables false
open Go Go.RowKit
/-- The reference's tape at block t. -/
def RefAt (w : World) (t : Nat) (s : List UInt8) (e : Int) : Prop := Blk w t [S s, .int .i64 e]
/-- What a reading method of the reference comes to. -/
def RefOut {α : Type} (t : Nat) (w : World) (res : Except Int (α × List UInt8)) (zero : Value) (ok : α → Value) : Ending → World → Prop := fun en w' =>
  MutO (rdFp t) w w' ∧ match res with
  | .error e => en = .returned zero ∧ ∃ s, RefAt w' t s e
  | .ok (a, ys) => en = .returned (ok a) ∧ RefAt w' t ys 0
theorem RefAt.mut {fp : Nat → Prop} {w w' : World} {t : Nat} {s : List UInt8} {e : Int} (h : RefAt w t s e) (hm : MutO fp w w') (ht : ¬ fp t) : RefAt w' t s e := Blk.mut h hm ht
theorem RefOut.err {α : Type} {t : Nat} {w : World} {res : Except Int (α × List UInt8)} {zero : Value} {ok : α → Value} {e : Int} {en : Ending} {w' : World} (hE : res = .error e) (hm : MutO (rdFp t) w w') (h : en = .returned zero ∧ ∃ s, RefAt w' t s e) : RefOut t w res zero ok en w' := by
  subst hE; exact ⟨hm, h⟩
theorem RefOut.ok {α : Type} {t : Nat} {w : World} {res : Except Int (α × List UInt8)} {zero : Value} {ok : α → Value} {a : α} {ys : List UInt8} {en : Ending} {w' : World} (hE : res = .ok (a, ys)) (hm : MutO (rdFp t) w w') (h : en = .returned (ok a) ∧ RefAt w' t ys 0) : RefOut t w res zero ok en w' := by
  subst hE; exact ⟨hm, h⟩
/-- The string behind its first byte. -/
theorem ba_eq_nil (xs : List UInt8) : ((⟨xs.toArray⟩ : ByteArray) = ⟨#[]⟩) ↔ xs = [] := by
  constructor
  · intro h
    have := congrArg ByteArray.data h
    simpa using this
  · rintro rfl; rfl
theorem ba_head (c : UInt8) (zs : List UInt8) (h : 0 < ByteArray.size ⟨(c :: zs).toArray⟩) : (⟨(c :: zs).toArray⟩ : ByteArray)[0] = c := rfl
theorem ba_tail (c : UInt8) (zs : List UInt8) : (⟨(c :: zs).toArray⟩ : ByteArray).extract 1 (zs.length + 1) = ⟨zs.toArray⟩ := by
  apply ByteArray.ext
  simp [ByteArray.data_extract]
theorem step_val2 (acc j : Nat) (c : UInt8) (hj : j ≤ 8) (ha : acc < 128 ^ j) :
    wrap64 ((acc : Int) + wrap64 (((c.toNat : Int)).tmod 128 * ((128 ^ j : Nat) : Int))) = ((acc + c.toNat % 128 * 128 ^ j : Nat) : Int) := by
  have hp := pow128_le j hj
  have hd : c.toNat % 128 < 128 := Nat.mod_lt _ (by decide)
  have h2 := acc_lt acc j _ ha hd
  rw [Int.tmod_eq_emod_of_nonneg (by omega), show ((c.toNat : Int) % 128) = ((c.toNat % 128 : Nat) : Int) by omega, ← Int.natCast_mul]
  rw [IntWalk.wrap64_in ((c.toNat % 128 * 128 ^ j : Nat) : Int) ⟨by omega, by omega⟩, ← Int.natCast_add]
  exact IntWalk.wrap64_in _ ⟨by omega, by omega⟩
theorem rdNumF_err (f : Nat) : ∀ (i acc : Nat) (xs : List UInt8) (e : Int), rdNumF f i acc xs = .error e → e ≠ 0 := by
  induction f with
  | zero => intro i acc xs e h; simp only [rdNumF] at h; injection h with h; omega
  | succ f ih =>
    intro i acc xs e h
    unfold rdNumF at h
    rcases rdNext_cases i xs with ⟨e', he⟩ | ⟨c, zs, hok⟩
    · rw [he] at h
      injection h with h
      subst h
      unfold rdNext at he
      split at he
      · injection he with he; omega
      · cases xs with
        | nil => injection he with he; omega
        | cons x ys =>
          simp only at he
          split at he
          · injection he with he; omega
          · cases he
    · rw [hok] at h
      simp only at h
      split at h
      · cases h
      · exact ih _ _ _ _ h
theorem rdNum_err {xs : List UInt8} {e : Int} (h : rdNum xs = .error e) : e ≠ 0 := rdNumF_err _ _ _ _ _ h
theorem refEnd_any (w : World) (t : Nat) (s : List UInt8) (e : Int) (h : RefAt w t s e) :
    Calls Try.prog 51 #[.pointer (some ⟨t, 0, none⟩)] w fun en w' => en = .returned (.int .i64 (if e = 0 then (if s = [] then 0 else 13) else e)) ∧ w = w' := by
  have h0 := h.cell 0
  have h1 := h.cell 1
  clear h
  unfold S at h0
  by_cases he : e = 0
  · subst he
    cases s with
    | nil =>
      go_enter Try.func51, Try.ntmps51
      go_wp2
      go_ret
      exact ⟨rfl, rfl⟩
    | cons x xs =>
      have hne : (⟨(x :: xs).toArray⟩ : ByteArray) ≠ ⟨#[]⟩ := fun q => by simpa using (ba_eq_nil _).1 q
      go_enter Try.func51, Try.ntmps51
      go_wp2_with fail
      go_ret
      exact ⟨rfl, rfl⟩
  · skip
    go_enter Try.func51, Try.ntmps51
    go_wp2
    go_ret
    exact ⟨rfl, rfl⟩
set_option maxRecDepth 100000 in
set_option maxHeartbeats 1000000 in
set_option maxRecDepth 20000 in
theorem refTNumber_any (w : World) (t : Nat) (xs : List UInt8) (most : Int) (h : RefAt w t xs 0) :
    Calls Try.prog 126 #[.pointer (some ⟨t, 0, none⟩), .int .i64 most] w (RefOut t w (rdNumber most xs) (.int .i64 0) fun n => .int .i64 (n : Int)) := by
  have h1 := h.cell 1
  have H := Lib.hid h; clear h
  go_enter Try.func126, Try.ntmps126
  go_wp2_with fail
  go_loopw [5, 6, 7] (fun a u i wr => ∃ (j acc : Nat) (ys : List UInt8) (uu : Int), j ≤ 9 ∧ i = .int .i64 (j : Int) ∧ a = .int .i64 (acc : Int) ∧ u = .int .i64 uu ∧ (j ≤ 8 → uu = ((128 ^ j : Nat) : Int)) ∧ acc < 128 ^ j ∧ rdNum xs = rdNumF (10 - j) j acc ys ∧ RefAt wr t ys 0 ∧ MutO (rdFp t) w wr) (fun _ _ i _ => 10 - (intOf i).toNat)
  case atStart => exact ⟨0, 0, xs, 1, by omega, rfl, rfl, rfl, by simp, by simp, rfl, H.out, MutO.refl _ _⟩
  case round =>
    obtain ⟨j, acc, ys, uu, hj, rfl, rfl, rfl, huu, hacc, hnum, hrd, hm⟩ := hrel
    have HN := Lib.hid hnum; clear hnum
    have HA := Lib.hid hacc; clear hacc
    have HU := Lib.hid huu; clear huu
    have HM := Lib.hid hm; clear hm
    have HR := Lib.hid hrd; clear hrd
    have g0 := HR.out.cell 0
    have g1 := HR.out.cell 1
    have f0 := HR.out.free 0
    have f1 := HR.out.free 1
    unfold S at g0
    clear h1
    have hset : ∀ (e : Int), RefAt (wr.setCell ⟨t, 1, none⟩ (.int .i64 e)) t ys e ∧ MutO (rdFp t) w (wr.setCell ⟨t, 1, none⟩ (.int .i64 e)) := fun e => ⟨HR.out.set 1 _, MutO.set (fp := rdFp t) (p := ⟨t, 1, none⟩) HM.out rfl _⟩
    have HS := Lib.hid hset; clear hset
    by_cases h9 : j = 9
    · subst h9
      go_wp2_with fail
      go_ret
      refine RefOut.err (e := 11) ?_ (HS.out 11).2 ⟨rfl, _, (HS.out 11).1⟩
      unfold rdNumber; rw [HN.out]; rfl
    · have hj8 : j ≤ 8 := by omega
      cases ys with
      | nil =>
        go_wp2_with fail
        go_ret
        refine RefOut.err (e := 10) ?_ (HS.out 10).2 ⟨rfl, _, (HS.out 10).1⟩
        unfold rdNumber; rw [HN.out, show 10 - j = (9 - j) + 1 by omega, rdNumF]
        simp [rdNext, h9]
      | cons c zs =>
        have hne : (⟨(c :: zs).toArray⟩ : ByteArray) ≠ ⟨#[]⟩ := fun q => by simpa using (ba_eq_nil _).1 q
        have hb0 := ba_head c zs (by simp [ByteArray.size])
        have hb1 := ba_tail c zs
        have hw : wrap64 (c.toNat : Int) = (c.toNat : Int) := IntWalk.wrap64_in _ ⟨by omega, by have := c.toNat_lt; omega⟩
        have HS2 : Hid (∀ e : Int, RefAt ((wr.setCell ⟨t, 0, none⟩ (.string ⟨zs.toArray⟩)).setCell ⟨t, 1, none⟩ (.int .i64 e)) t zs e ∧ MutO (rdFp t) w ((wr.setCell ⟨t, 0, none⟩ (.string ⟨zs.toArray⟩)).setCell ⟨t, 1, none⟩ (.int .i64 e))) :=
          Lib.hid fun e => ⟨(HR.out.set 0 (S zs)).set 1 _, MutO.set (fp := rdFp t) (p := ⟨t, 1, none⟩) (MutO.set (fp := rdFp t) (p := ⟨t, 0, none⟩) HM.out rfl _) rfl _⟩
        have HS0 : Hid (RefAt (wr.setCell ⟨t, 0, none⟩ (.string ⟨zs.toArray⟩)) t zs 0 ∧ MutO (rdFp t) w (wr.setCell ⟨t, 0, none⟩ (.string ⟨zs.toArray⟩))) := Lib.hid ⟨HR.out.set 0 (S zs), MutO.set (fp := rdFp t) (p := ⟨t, 0, none⟩) HM.out rfl _⟩
        by_cases hz : c = 0 ∧ 0 < j
        · obtain ⟨rfl, hj0⟩ := hz
          go_wp2_with fail
          go_ret
          refine RefOut.err (e := 11) ?_ (HS2.out 11).2 ⟨rfl, _, (HS2.out 11).1⟩
          unfold rdNumber; rw [HN.out, show 10 - j = (9 - j) + 1 by omega, rdNumF]
          simp [rdNext, h9, hj0]
        · have hnx : rdNext j (c :: zs) = .ok (c, zs) := by 
            have : ¬ (c = 0 ∧ 0 < j) := hz
            unfold rdNext
            rw [if_neg h9]
            show (if c = 0 ∧ 0 < j then _ else _) = _
            rw [if_neg this]
          have hval := step_val2 acc j c hj8 HA.out
          have hN : rdNum xs = if c.toNat < 128 then .ok (acc + c.toNat % 128 * 128 ^ j, zs) else rdNumF (10 - (j + 1)) (j + 1) (acc + c.toNat % 128 * 128 ^ j) zs := by
            rw [HN.out, show 10 - j = (9 - j) + 1 by omega, rdNumF, hnx, show 10 - (j + 1) = 9 - j by omega]
          have HL : Hid (acc + c.toNat % 128 * 128 ^ j < 128 ^ (j + 1)) := Lib.hid (acc_lt _ _ _ HA.out (Nat.mod_lt _ (by decide)))
          have hacc63 : acc + c.toNat % 128 * 128 ^ j < 9223372036854775808 := Nat.lt_of_lt_of_le HL.out (pow128_le j hj8)
          have huu := HU.out hj8
          obtain ⟨acc', hacc'⟩ : ∃ x, acc + c.toNat % 128 * 128 ^ j = x := ⟨_, rfl⟩
          obtain ⟨pw, hpw⟩ : ∃ x, x = 128 ^ j := ⟨_, rfl⟩
          rw [hacc'] at hval hN HL hacc63
          rw [← hpw] at hval huu
          subst huu
          have HPW := Lib.hid hpw
          have HN' := Lib.hid hN
          have hc0 : ¬ (c.toNat = 0 ∧ 0 < j) := fun ⟨q, q2⟩ => hz ⟨UInt8.toNat.inj (by simpa using q), q2⟩
          have hc256 := c.toNat_lt
          have hzero : c.toNat = 0 → acc' = acc := fun q => by rw [← hacc', q]; simp
          have HZ := Lib.hid hzero
          have hval2 : wrap64 ((acc : Int) + wrap64 ((c.toNat : Int) % 128 * (pw : Int))) = (acc' : Int) := by
            rw [Int.tmod_eq_emod_of_nonneg (by omega)] at hval; exact hval
          have HX : Hid (j + 1 ≤ 8 → wrap64 ((pw : Int) * 128) = ((128 ^ (j + 1) : Nat) : Int)) := Lib.hid fun q => by
            have h1 := pow128_le (j + 1) q
            rw [hpw, Nat.pow_succ]
            have h2 : 128 ^ (j + 1 + 1) = 128 ^ j * 128 * 128 := by rw [Nat.pow_succ, Nat.pow_succ]
            rw [h2] at h1
            rw [show ((128 ^ j : Nat) : Int) * 128 = ((128 ^ j * 128 : Nat) : Int) by simp]
            exact IntWalk.wrap64_in _ ⟨by omega, by omega⟩
          clear hN hacc' hpw hnx HN HA HU hz hzero
          by_cases hc : c.toNat < 128
          · have hok : rdNum xs = .ok (acc', zs) := by rw [HN'.out, if_pos hc]
            have HOK := Lib.hid hok
            clear hok
            by_cases hmost : most < (acc' : Int)
            · have hE : rdNumber most xs = .error 12 := by unfold rdNumber; rw [HOK.out]; simp [hmost]
              have HE := Lib.hid hE
              clear hE
              by_cases hcc : c.toNat = 0
              · obtain rfl : j = 0 := by omega
                obtain rfl := HZ.out hcc
                have hwa : wrap64 (acc' : Int) = (acc' : Int) := IntWalk.wrap64_in _ ⟨by omega, by omega⟩
                go_wp2_with fail
                go_ret
                exact RefOut.err HE.out (HS2.out 12).2 ⟨rfl, _, (HS2.out 12).1⟩
              · go_wp2_with fail
                go_ret
                exact RefOut.err HE.out (HS2.out 12).2 ⟨rfl, _, (HS2.out 12).1⟩
            · have hE : rdNumber most xs = .ok (acc', zs) := by unfold rdNumber; rw [HOK.out]; simp [hmost]
              have HE := Lib.hid hE
              clear hE
              by_cases hcc : c.toNat = 0
              · obtain rfl : j = 0 := by omega
                obtain rfl := HZ.out hcc
                have hwa : wrap64 (acc' : Int) = (acc' : Int) := IntWalk.wrap64_in _ ⟨by omega, by omega⟩
                go_wp2_with fail
                go_ret
                exact RefOut.ok HE.out HS0.out.2 ⟨rfl, HS0.out.1⟩
              · go_wp2_with fail
                go_ret
                exact RefOut.ok HE.out HS0.out.2 ⟨rfl, HS0.out.1⟩
          · go_wp2_with fail
            go_roundw
            case rel => exact ⟨j + 1, acc', zs, _, by omega, by go_num, by go_num, rfl, fun q => by first | exact HX.out q | (have := HX.out q; simp at this ⊢; omega), HL.out, by rw [HN'.out, if_neg hc], HS0.out.1, HS0.out.2⟩
            case measure => simp [intOf]; omega
theorem ba_size (ys : List UInt8) : ByteArray.size ⟨ys.toArray⟩ = ys.length := by simp [ByteArray.size]
theorem ba_take (ys : List UInt8) (n : Nat) : (⟨ys.toArray⟩ : ByteArray).extract 0 n = ⟨(ys.take n).toArray⟩ := by
  apply ByteArray.ext
  simp [ByteArray.data_extract]
theorem ba_drop (ys : List UInt8) (n : Nat) : (⟨ys.toArray⟩ : ByteArray).extract n ys.length = ⟨(ys.drop n).toArray⟩ := by
  apply ByteArray.ext
  simp [ByteArray.data_extract, List.take_of_length_le]
set_option maxRecDepth 100000 in
set_option maxHeartbeats 1000000 in
set_option maxRecDepth 20000 in
theorem refTText_any (w : World) (t : Nat) (xs : List UInt8) (most : Int) (h : RefAt w t xs 0) (hl : xs.length ≤ 100000000000) :
    Calls Try.prog 181 #[.pointer (some ⟨t, 0, none⟩), .int .i64 most] w (RefOut t w (rdText most xs) (S []) fun bs => S bs) := by
  have H := Lib.hid h; clear h
  go_enter Try.func181, Try.ntmps181
  go_wp2_with fail
  refine (refTNumber_any _ t xs _ H.out).mono ?_
  intro e w1 h1
  rcases rdNum_cases xs with ⟨er, her⟩ | ⟨n, ys, hok⟩
  · have h2 : rdNumber 9223372036854775807 xs = .error er := by unfold rdNumber; rw [her]
    rw [h2] at h1
    have hE : rdText most xs = .error er := by unfold rdText; rw [her]
    obtain ⟨hm1, rfl, s, hs⟩ := h1
    have hne := rdNum_err her
    have g1 := hs.cell 1
    have HE := Lib.hid hE
    have HM := Lib.hid hm1
    have HR := Lib.hid hs
    clear hE hm1 hs her h2
    go_wp2_with fail
    go_ret
    exact RefOut.err HE.out HM.out ⟨rfl, _, HR.out⟩
  · have hsp := rdNum_spec hok
    have h2 : rdNumber 9223372036854775807 xs = .ok (n, ys) := by
      unfold rdNumber; rw [hok]
      simp only
      rw [if_neg (by omega)]
    rw [h2] at h1
    obtain ⟨hm1, rfl, hr⟩ := h1
    have hout : rdText most xs = if most < n then .error 12 else if ys.length < n then .error 10 else .ok (ys.take n, ys.drop n) := by unfold rdText; rw [hok]
    have HO := Lib.hid hout
    have g0 := hr.cell 0
    have g1 := hr.cell 1
    have f0 := hr.free 0
    have f1 := hr.free 1
    unfold S at g0
    have hsz := ba_size ys
    have HR := Lib.hid hr
    have HM := Lib.hid hm1
    have hn63 := hsp.1
    have hyl : ys.length ≤ 100000000000 := by omega
    have HSE : Hid (∀ e : Int, RefAt (w1.setCell ⟨t, 1, none⟩ (.int .i64 e)) t ys e ∧ MutO (rdFp t) w (w1.setCell ⟨t, 1, none⟩ (.int .i64 e))) := Lib.hid fun e => ⟨HR.out.set 1 _, MutO.set (fp := rdFp t) (p := ⟨t, 1, none⟩) HM.out rfl _⟩
    clear hout hok h2 hr hm1 hsp
    by_cases g2 : most < (n : Int)
    · go_wp2_with fail
      go_ret
      exact RefOut.err (by rw [HO.out, if_pos g2]) (HSE.out 12).2 ⟨rfl, _, (HSE.out 12).1⟩
    · by_cases g3 : ys.length < n
      · go_wp2_with fail
        go_ret
        exact RefOut.err (by rw [HO.out, if_neg (show ¬ most < (n : Int) by omega), if_pos g3]) (HSE.out 10).2 ⟨rfl, _, (HSE.out 10).1⟩
      · have htk := ba_take ys n
        have hdr := ba_drop ys n
        have HS0 : Hid (RefAt (w1.setCell ⟨t, 0, none⟩ (.string ⟨(ys.drop n).toArray⟩)) t (ys.drop n) 0 ∧ MutO (rdFp t) w (w1.setCell ⟨t, 0, none⟩ (.string ⟨(ys.drop n).toArray⟩))) := Lib.hid ⟨HR.out.set 0 (S (ys.drop n)), MutO.set (fp := rdFp t) (p := ⟨t, 0, none⟩) HM.out rfl _⟩
        go_wp2_with fail
        go_ret
        exact RefOut.ok (by rw [HO.out, if_neg (show ¬ most < (n : Int) by omega), if_neg (by omega)]) HS0.out.2 ⟨rfl, HS0.out.1⟩
end Go.Proofs.Ytekngjkjgmplpaa

namespace Go.Proofs.Ytekngjkjgmplpaa.Rg4
set_option linter.unusedSimpArgs false
set_option linter.unusedVariables false
open Go Go.Proofs.Ytekngjkjgmplpaa.Rg

/-- none: kind (a); some none: kind (c); some (some S): kind (b). -/
abbrev Kd := Option (Option (Value → World → Prop))

section
variable (P : Program) (ops : Array Oper) (T : Array Nat) (Rel : World → World → Prop) (ld : Nat → Bool) (Cl : World → Prop) (kd : Nat → Kd) (Q : Exit → Act → World → Prop)

def Inh4 (w0 : World) (F : Facts) : Prop := ∃ w, Rel w0 w ∧ Cl w ∧ All F w

def op4 (k : Nat) (K : World → Facts → Act → Prop) (w0 : World) (F : Facts) (a : Act) : Prop :=
  match ops[k]? with
  | .none => K w0 F a
  | .some o =>
    if Region.wanted o (yielded ops a.tmps) = true then
      match kd k with
      | .none => ∃ c, (∀ w, (ld k = true → Rel w0 w) → Cl w → stillAt P o a w c) ∧ K w0 F (a.put o.dst c)
      | .some (.some S) => (∀ w, Rel w0 w → Cl w → Pre ops T F k w → relAt P o a w (fun v w' => Rel w w' ∧ Cl w' ∧ S v w')) ∧ ∀ v, K w0 (upd F k (S v)) (a.put o.dst v)
      | .some .none => ∀ w, Rel w0 w → Cl w → All F w → o.wp P a w (fun a' w' => Cl w' ∧ K w' none a') Q ∨ (o.asks P a w ∧ LetsOut Q)
    else K w0 F (a.put o.dst undef)

def wpAny4 : Nat → Array Bool → World → Facts → Act → Prop
  | 0, listed, w0, F, a => Inh4 Rel Cl w0 F → Region.ready .any ops listed = [] ∧ ∀ w, Rel w0 w → Cl w → All F w → Q .normal a w
  | f + 1, listed, w0, F, a => Inh4 Rel Cl w0 F → (Region.ready .any ops listed = [] → ∀ w, Rel w0 w → Cl w → All F w → Q .normal a w) ∧
      ∀ i ∈ Region.ready .any ops listed, op4 P ops T Rel ld Cl kd Q i (wpAny4 f (listed.setIfInBounds i true)) w0 F a

/-- THE WALK IN THE ORDER OF THE TEXT. -/
def wp4 : List (Nat × Oper) → World → Facts → Act → Prop
  | [], w0, F, a => ∀ w, Rel w0 w → Cl w → All F w → Q .normal a w
  | (k, o) :: rest, w0, F, a =>
    if Region.wanted o (yielded ops a.tmps) = true then
      match kd k with
      | .none => ∃ c, (∀ w, (ld k = true → Rel w0 w) → Cl w → stillAt P o a w c) ∧ wp4 rest w0 F (a.put o.dst c)
      | .some (.some S) => (∀ w, Rel w0 w → Cl w → Pre ops T F k w → relAt P o a w (fun v w' => Rel w w' ∧ Cl w' ∧ S v w')) ∧
          ∀ v, (∃ w, Rel w0 w ∧ Cl w ∧ S v w) → wp4 rest w0 (upd F k (S v)) (a.put o.dst v)
      | .some .none => ∀ w, Rel w0 w → Cl w → All F w → o.wp P a w (fun a' w' => Cl w' ∧ wp4 rest w' none a') Q ∨ (o.asks P a w ∧ LetsOut Q)
    else wp4 rest w0 F (a.put o.dst undef)
end

def isB (kd : Nat → Kd) (k : Nat) : Bool := match kd k with | .some (.some _) => true | _ => false
def isC (kd : Nat → Kd) (k : Nat) : Bool := match kd k with | .some .none => true | _ => false
/-- Between a barrier and an operation of kind (b) the order is fixed. -/
def barB (ops : Array Oper) (T : Array Nat) (B C : List Nat) : Bool := C.all fun j => B.all fun i => bef ops T j i || bef ops T i j
def lex4 (ops : Array Oper) (C : List Nat) : List Nat → Array Bool → Bool
  | [], listed => (Region.ready .any ops listed).isEmpty
  | k :: ks, listed => (if C.contains k then decide (Region.ready .any ops listed = [k]) else (Region.ready .any ops listed).contains k && Region.free .any ops listed k) && lex4 ops C ks (listed.setIfInBounds k true)

section
variable {P : Program} {ops : Array Oper} {T : Array Nat} {Rel : World → World → Prop} {ld : Nat → Bool} {Cl : World → Prop} {kd : Nat → Kd} {Q : Exit → Act → World → Prop}

theorem inh4_upd_mono {w0 : World} {F : Facts} {j k : Nat} {S S' : World → Prop} (h : Inh4 Rel Cl w0 (upd (upd F j S') k S)) : Inh4 Rel Cl w0 (upd F k S) :=
  let ⟨w, h1, h0, h2⟩ := h; ⟨w, h1, h0, fun i => ⟨(h2 i).1.1, (h2 i).2⟩⟩
theorem inh4_upd {w0 : World} {F : Facts} {k : Nat} {S : World → Prop} (h : Inh4 Rel Cl w0 (upd F k S)) : Inh4 Rel Cl w0 F := let ⟨w, h1, h0, h2⟩ := h; ⟨w, h1, h0, fun i => (h2 i).1⟩
theorem wpAny4_of_inh {f : Nat} {listed : Array Bool} {w0 : World} {F : Facts} {a : Act} (h : Inh4 Rel Cl w0 F → wpAny4 P ops T Rel ld Cl kd Q f listed w0 F a) : wpAny4 P ops T Rel ld Cl kd Q f listed w0 F a := by
  cases f with
  | zero => intro hi; exact h hi hi
  | succ f => intro hi; exact h hi hi

/-- The walk over any order is one. -/
theorem wpAny_of_4 (hrefl : ∀ w, Rel w w) (htr : ∀ a b c, Rel a b → Rel b c → Rel a c) (hsp : ∀ k S, kd k = .some (.some S) → ∀ v w w', Rel w w' → S v w → S v w') :
    ∀ (f : Nat) (listed : Array Bool) (w0 : World) (F : Facts) (a : Act) (w : World), StableF Rel F → Rel w0 w → Cl w → All F w →
    wpAny4 P ops T Rel ld Cl kd Q f listed w0 F a → wpAny P .any ops Q f listed a w
  | 0, _, _, _, _, w, _, hw, hcl, hF, h => let h' := h ⟨w, hw, hcl, hF⟩; ⟨h'.1, h'.2 w hw hcl hF⟩
  | f + 1, listed, w0, F, a, w, hst, hw, hcl, hF, h => by
    have h' := h ⟨w, hw, hcl, hF⟩
    refine ⟨fun h0 => h'.1 h0 w hw hcl hF, fun i hi => ?_⟩
    have h1 := h'.2 i hi
    unfold op4 at h1
    unfold wpOp
    cases ho : ops[i]? with
    | none => simp only [ho] at h1; exact wpAny_of_4 hrefl htr hsp f _ w0 F a w hst hw hcl hF h1
    | some o =>
      simp only [ho] at h1
      by_cases hwant : Region.wanted o (yielded ops a.tmps) = true
      · simp only [hwant, if_true] at h1 ⊢
        cases hs : kd i with
        | none =>
          simp only [hs] at h1
          obtain ⟨c, h2, h3⟩ := h1
          left
          unfold Oper.wp
          rw [show (execOp a.eval o).run P w = .ok (.value c) w from h2 w (fun _ => hw) hcl]
          exact wpAny_of_4 hrefl htr hsp f _ w0 F _ w hst hw hcl hF h3
        | some k2 =>
          cases k2 with
          | none =>
            simp only [hs] at h1
            refine (h1 w hw hcl hF).imp (Oper.wp_mono fun a' w' ⟨hcl', h3⟩ => ?_) id
            exact wpAny_of_4 hrefl htr hsp f _ w' none a' w' (fun _ _ _ _ _ => trivial) (hrefl _) hcl' (fun _ => trivial) h3
          | some S =>
            simp only [hs] at h1
            obtain ⟨h2, h3⟩ := h1
            left
            refine wp_of_rel (h2 w hw hcl (fun i _ => hF i)) fun v w' ⟨hr, hcl', hS⟩ => ?_
            exact wpAny_of_4 hrefl htr hsp f _ w0 _ _ w' (stable_upd hst (hsp i S hs v)) (htr _ _ _ hw hr) hcl' (fun k => ⟨hst k w w' hr (hF k), fun _ => hS⟩) (h3 v)
      · simp only [hwant] at h1 ⊢
        exact wpAny_of_4 hrefl htr hsp f _ w0 F _ w hst hw hcl hF h1

/-- A barrier, put ahead of an operation of kind (a) that is apart from it. -/
theorem wpOp_put4 {j : Nat} {oi oj : Oper} {v : Value} (hj : ops[j]? = .some oj) (hap : oi.apart ops oj = true) (hsj : ∀ cs b, oj.op ≠ .select cs b)
    (hQ : ∀ c a w, Q (.panic c) (a.put oi.dst v) w → Q (.panic c) a w) {K : Act → World → Prop} {a : Act} {w : World}
    (h : oj.wp P (a.put oi.dst v) w K Q ∨ (oj.asks P (a.put oi.dst v) w ∧ LetsOut Q)) :
    oj.wp P a w (fun a' w' => (∃ u D, a' = ({ a with defers := D } : Act).put oj.dst u) ∧ K (a'.put oi.dst v) w') Q ∨ (oj.asks P a w ∧ LetsOut Q) := by
  obtain ⟨h1, h2, h3⟩ := Oper.apart_spec hap
  rcases h with h | ⟨hasks, hlets⟩
  case inr => exact .inr ⟨by unfold Oper.asks at *; rw [execOp_put oj hsj a oi.dst v h1] at hasks; exact hasks, hlets⟩
  refine .inl ?_
  unfold Oper.wp at *
  rw [execOp_put oj hsj a oi.dst v h1] at h
  generalize (execOp a.eval oj).run P w = r at *
  cases r with
  | ok n w' =>
    cases n <;> simp only [Oper.upon] at h ⊢
    case value u => exact ⟨⟨u, a.defers, rfl⟩, by rw [← Act.put_comm a v u h2]; exact h⟩
    case skip => exact ⟨⟨undef, a.defers, rfl⟩, by rw [← Act.put_comm a v undef h2]; exact h⟩
    case defer d =>
      refine ⟨⟨undef, d :: a.defers, rfl⟩, ?_⟩
      rw [← Act.put_comm _ v undef h2, ← Act.put_defers]
      exact h
    case enter f args =>
      refine Calls.mono h fun e w'' he => ?_
      cases e with
      | returned u => exact ⟨⟨u, a.defers, rfl⟩, by rw [← Act.put_comm a v u h2]; exact he⟩
      | panicked c => exact hQ _ _ _ he
      | outgrown => exact he
    case row row args => exact Rows.mono h fun u w'' he => ⟨⟨u, a.defers, rfl⟩, by rw [← Act.put_comm a v u h2]; exact he⟩
  | halt x w' =>
    cases x <;> simp only [Oper.upon] at h ⊢
    case panic u => exact hQ _ _ _ h

/-- **An operation of kind (a) or (b) that may come up now may be taken first.** -/
theorem wpAny4_first (htr : ∀ a b c, Rel a b → Rel b c → Rel a c) (hsp : ∀ k S, kd k = .some (.some S) → ∀ v w w', Rel w w' → S v w → S v w') (hB : befOk ops T = true)
    (hbar : ∀ i j, (isB kd i = true ∨ ld i = true) → isC kd j = true → bef ops T j i = true ∨ bef ops T i j = true) (hQ : ∀ c (a : Act) x v w, Q (.panic c) (a.put x v) w → Q (.panic c) a w)
    {i : Nat} {oi : Oper} (hi : ops[i]? = .some oi) (hic : isC kd i = false) (hsel : ∀ (j : Nat) (o : Oper) cs b, ops[j]? = .some o → o.op ≠ .select cs b) :
    ∀ (f : Nat) (listed : Array Bool) (w0 : World) (F : Facts) (a : Act), StableF Rel F → Closed ops T listed →
      (∀ j oj, ops[j]? = .some oj → j ≠ i → listed.getD j true = false → (∀ e ∈ oj.after, Region.binds .any e = true → e.on ≠ i) → oi.apart ops oj = true) →
      i ∈ Region.ready .any ops listed → op4 P ops T Rel ld Cl kd Q i (wpAny4 P ops T Rel ld Cl kd Q f (listed.setIfInBounds i true)) w0 F a →
      wpAny4 P ops T Rel ld Cl kd Q (f + 1) listed w0 F a := by
  intro f
  induction f with
  | zero =>
    intro listed w0 F a hst hc _ hr H hinh
    refine ⟨fun h => (by rw [h] at hr; cases hr), fun j hj => ?_⟩
    by_cases hji : j = i
    · subst hji; exact H
    · exfalso
      have hrj := ready_mono hj hji
      obtain ⟨w, hw, hcl, hF⟩ := hinh
      unfold op4 at H
      simp only [hi] at H
      by_cases hwant : Region.wanted oi (yielded ops a.tmps) = true
      · simp only [hwant, if_true] at H
        cases hs : kd i with
        | none =>
          simp only [hs] at H
          obtain ⟨c, h2, h3⟩ := H
          have := (h3 ⟨w, hw, hcl, hF⟩).1
          rw [this] at hrj; cases hrj
        | some k2 =>
          cases k2 with
          | none => unfold isC at hic; rw [hs] at hic; cases hic
          | some S =>
            simp only [hs] at H
            obtain ⟨h2, h3⟩ := H
            obtain ⟨v, w', hr', hcl', hS⟩ := relUpon_exists (h2 w hw hcl (fun i _ => hF i))
            have := (h3 v ⟨w', htr _ _ _ hw hr', hcl', fun k => ⟨hst k w w' hr' (hF k), fun _ => hS⟩⟩).1
            rw [this] at hrj; cases hrj
      · simp only [hwant] at H
        have := (H ⟨w, hw, hcl, hF⟩).1
        rw [this] at hrj; cases hrj
  | succ f ih =>
    intro listed w0 F a hst hc hfree hr H hinh
    refine ⟨fun h => (by rw [h] at hr; cases hr), fun j hj => ?_⟩
    by_cases hji : j = i
    · subst hji; exact H
    obtain ⟨hjun, oj, hoj, hall⟩ := mem_ready.1 hj
    have hnot : ∀ e ∈ oj.after, Region.binds .any e = true → e.on ≠ i := fun e he hb heq => by
      have h1 := hall e he hb
      have h0 := (mem_ready.1 hr).1
      rw [heq] at h1
      rcases Nat.lt_or_ge i listed.size with h' | h'
      · simp [h'] at h0 h1; rw [h0] at h1; cases h1
      · simp [Array.getElem?_eq_none h'] at h1
    have hap := hfree j oj hoj hji hjun hnot
    obtain ⟨a1, a2, a3⟩ := Oper.apart_spec hap
    have hseli := fun cs b => hsel i oi cs b hi
    have hselj := fun cs b => hsel j oj cs b hoj
    have hfree' : ∀ k ok, ops[k]? = .some ok → k ≠ i → (listed.setIfInBounds j true).getD k true = false →
        (∀ e ∈ ok.after, Region.binds .any e = true → e.on ≠ i) → oi.apart ops ok = true := fun k ok hk hki hun hno => by
      refine hfree k ok hk hki ?_ hno
      by_cases hjk : j = k
      · subst hjk; exact hjun
      · rw [getD_set_ne true hjk] at hun; exact hun
    have nij : ¬ bef ops T i j = true := not_bef hB hc hr hj
    have nji : ¬ bef ops T j i = true := not_bef hB hc hj hr
    have hc' := closed_set hB hc hj
    have hr' := ready_mono hr (Ne.symm hji)
    have hjr := ready_mono hj hji
    have exi : ∀ u D, execOp (({ a with defers := D } : Act).put oj.dst u).eval oi = execOp a.eval oi := fun u D => (execOp_put oi hseli { a with defers := D } oj.dst u a3).trans rfl
    have wai : ∀ u D, Region.wanted oi (yielded ops (({ a with defers := D } : Act).put oj.dst u).tmps) = Region.wanted oi (yielded ops a.tmps) := fun u D => (wanted_put oi { a with defers := D } oj.dst u a3).trans rfl
    have exi' : ∀ u, execOp (a.put oj.dst u).eval oi = execOp a.eval oi := fun u => exi u a.defers
    have wai' : ∀ u, Region.wanted oi (yielded ops (a.put oj.dst u).tmps) = Region.wanted oi (yielded ops a.tmps) := fun u => wai u a.defers
    have exj : ∀ v, execOp (a.put oi.dst v).eval oj = execOp a.eval oj := fun v => execOp_put oj hselj a oi.dst v a1
    have waj : ∀ v, Region.wanted oj (yielded ops (a.put oi.dst v).tmps) = Region.wanted oj (yielded ops a.tmps) := fun v => wanted_put oj a oi.dst v a1
    have comm : ∀ u v, (a.put oj.dst u).put oi.dst v = (a.put oi.dst v).put oj.dst u := fun u v => (Act.put_comm a v u a2).symm
    have lcomm : (listed.setIfInBounds j true).setIfInBounds i true = (listed.setIfInBounds i true).setIfInBounds j true := Array.setIfInBounds_comm _ _ hji
    -- j is a barrier: i is of kind (a), or passed over
    by_cases hjc : isC kd j = true ∧ Region.wanted oj (yielded ops a.tmps) = true
    · obtain ⟨hjc, hwj⟩ := hjc
      have hjk : kd j = .some .none := by
        unfold isC at hjc; revert hjc; cases kd j with
        | none => intro h; cases h
        | some x => cases x with
          | none => intro _; rfl
          | some S => intro h; cases h
      -- the value of i, at any defers
      obtain ⟨c, hcrun, hcont⟩ : ∃ c, (∀ (u : Value) (D : List Deferred) (w0' : World) (F' : Facts) (K : World → Facts → Act → Prop),
            K w0' F' ((({ a with defers := D } : Act).put oj.dst u).put oi.dst c) → op4 P ops T Rel ld Cl kd Q i K w0' F' (({ a with defers := D } : Act).put oj.dst u)) ∧
          wpAny4 P ops T Rel ld Cl kd Q (f + 1) (listed.setIfInBounds i true) w0 F (a.put oi.dst c) := by
        unfold op4 at H
        simp only [hi] at H
        by_cases hwant : Region.wanted oi (yielded ops a.tmps) = true
        · simp only [hwant, if_true] at H
          cases hs : kd i with
          | none =>
            simp only [hs] at H
            obtain ⟨c, h2, h3⟩ := H
            refine ⟨c, fun u D w0' F' K hK => ?_, h3⟩
            unfold op4
            simp only [hi, wai, hwant, if_true, hs]
            refine ⟨c, fun w hld hcl => ?_, hK⟩
            have := h2 w (fun hl => (by
              rcases hbar i j (.inr hl) hjc with h | h
              · exact absurd h nji
              · exact absurd h nij)) hcl
            unfold stillAt at *
            rw [exi]; exact this
          | some k2 =>
            cases k2 with
            | none => unfold isC at hic; rw [hs] at hic; cases hic
            | some S =>
              exfalso
              rcases hbar i j (.inl (by unfold isB; rw [hs])) hjc with h | h
              · exact nji h
              · exact nij h
        · simp only [hwant] at H
          refine ⟨undef, fun u D w0' F' K hK => ?_, H⟩
          unfold op4
          simp only [hi, wai, hwant]
          exact hK
      have s0 := (hcont hinh).2 j hjr
      unfold op4 at s0 ⊢
      simp only [hoj, waj, hwj, if_true, hjk] at s0 ⊢
      intro w hw hcl hF
      refine (wpOp_put4 hoj hap hselj (fun c a w h => hQ c a _ _ w h) (s0 w hw hcl hF)).imp (Oper.wp_mono fun a' w' ⟨⟨u, D, ha'⟩, hcl', hK⟩ => ⟨hcl', ?_⟩) id
      subst ha'
      refine ih _ w' none _ (fun _ _ _ _ _ => trivial) hc' hfree' hr' (hcrun u D w' none _ ?_)
      rw [lcomm]
      exact hK
    -- the instances of i
    obtain ⟨Inst, hex, hinst, hback⟩ : ∃ Inst : Value → (Facts → Facts) → Prop,
        (∃ v U, Inst v U ∧ Inh4 Rel Cl w0 (U F)) ∧
        (∀ v U, Inst v U → (∀ w, Pre ops T (U F) j w ↔ Pre ops T F j w) ∧ (∀ G S, U (upd G j S) = upd (U G) j S) ∧ (∀ G S, Inh4 Rel Cl w0 (U (upd G j S)) → Inh4 Rel Cl w0 (U G)) ∧ wpAny4 P ops T Rel ld Cl kd Q (f + 1) (listed.setIfInBounds i true) w0 (U F) (a.put oi.dst v)) ∧
        (∀ (G : Facts) (u : Value) (K : World → Facts → Act → Prop), (∀ w, Pre ops T G i w → Pre ops T F i w) → (∀ v U, Inst v U → K w0 (U G) ((a.put oj.dst u).put oi.dst v)) →
          op4 P ops T Rel ld Cl kd Q i K w0 G (a.put oj.dst u)) := by
      obtain ⟨w, hw, hcl, hF⟩ := hinh
      unfold op4 at H
      simp only [hi] at H
      by_cases hwant : Region.wanted oi (yielded ops a.tmps) = true
      · simp only [hwant, if_true] at H
        cases hs : kd i with
        | none =>
          simp only [hs] at H
          obtain ⟨c, h2, h3⟩ := H
          refine ⟨fun v U => v = c ∧ U = id, ⟨c, id, ⟨rfl, rfl⟩, w, hw, hcl, hF⟩, ?_, ?_⟩
          · rintro v U ⟨rfl, rfl⟩
            exact ⟨fun _ => Iff.rfl, fun _ _ => rfl, fun _ _ h => inh4_upd h, h3⟩
          · intro G u K hG hK
            unfold op4
            simp only [hi, wai', hwant, if_true, hs]
            refine ⟨c, fun w hld hcl => ?_, hK c id ⟨rfl, rfl⟩⟩
            have := h2 w hld hcl
            unfold stillAt at *
            rw [exi']; exact this
        | some k2 =>
          cases k2 with
          | none => unfold isC at hic; rw [hs] at hic; cases hic
          | some S =>
            simp only [hs] at H
            obtain ⟨h2, h3⟩ := H
            obtain ⟨v0, w', hr0, hcl0, hS0⟩ := relUpon_exists (h2 w hw hcl (fun i _ => hF i))
            refine ⟨fun v U => U = fun G => upd G i (S v), ⟨v0, _, rfl, w', htr _ _ _ hw hr0, hcl0, fun k => ⟨hst k w w' hr0 (hF k), fun _ => hS0⟩⟩, ?_, ?_⟩
            · rintro v U rfl
              exact ⟨fun w => pre_upd nji, fun G S' => upd_comm _ _ _ _ _, fun G S' h => inh4_upd_mono h, h3 v⟩
            · intro G u K hG hK
              unfold op4
              simp only [hi, wai', hwant, if_true, hs]
              refine ⟨fun w hw hcl hp => ?_, fun v => hK v _ rfl⟩
              have := h2 w hw hcl (hG w hp)
              unfold relAt at *
              rw [exi']; exact this
      · simp only [hwant] at H
        refine ⟨fun v U => v = undef ∧ U = id, ⟨undef, id, ⟨rfl, rfl⟩, w, hw, hcl, hF⟩, ?_, ?_⟩
        · rintro v U ⟨rfl, rfl⟩
          exact ⟨fun _ => Iff.rfl, fun _ _ => rfl, fun _ _ h => inh4_upd h, H⟩
        · intro G u K hG hK
          unfold op4
          simp only [hi, wai', hwant]
          exact hK undef id ⟨rfl, rfl⟩
    obtain ⟨v0, U0, hI0, hinh0⟩ := hex
    have stepj : ∀ v U, Inst v U → Inh4 Rel Cl w0 (U F) → op4 P ops T Rel ld Cl kd Q j (wpAny4 P ops T Rel ld Cl kd Q f ((listed.setIfInBounds i true).setIfInBounds j true)) w0 (U F) (a.put oi.dst v) :=
      fun v U hI hn => ((hinst v U hI).2.2.2 hn).2 j hjr
    have s0 := stepj v0 U0 hI0 hinh0
    unfold op4 at s0 ⊢
    simp only [hoj, waj] at s0 ⊢
    by_cases hwant : Region.wanted oj (yielded ops a.tmps) = true
    · simp only [hwant, if_true] at s0 ⊢
      cases hs : kd j with
      | none =>
        simp only [hs] at s0 ⊢
        obtain ⟨c, hc1, hc2⟩ := s0
        have hstill : ∀ w, (ld j = true → Rel w0 w) → Cl w → stillAt P oj a w c := fun w hld hcl => by
          have := hc1 w hld hcl
          unfold stillAt at *
          rw [← exj v0]; exact this
        refine ⟨c, hstill, ih _ w0 F _ hst hc' hfree' hr' (hback F c _ (fun _ h => h) fun v U hI => wpAny4_of_inh fun hn => ?_)⟩
        have sv := stepj v U hI hn
        unfold op4 at sv
        simp only [hoj, waj, hwant, if_true, hs] at sv
        obtain ⟨c', hc1', hc2'⟩ := sv
        obtain ⟨w, hw, hcl, hF⟩ := hn
        have e1 := hc1' w (fun _ => hw) hcl
        have e2 := hstill w (fun _ => hw) hcl
        unfold stillAt at e1 e2
        rw [exj, e2] at e1
        injection e1 with e1 _
        injection e1 with e1
        subst e1
        rw [lcomm, comm]
        exact hc2'
      | some k2 =>
        cases k2 with
        | none => exact absurd ⟨by unfold isC; rw [hs], hwant⟩ hjc
        | some S =>
          simp only [hs] at s0 ⊢
          obtain ⟨hc1, hc2⟩ := s0
          refine ⟨fun w hw hcl hp => ?_, fun u => ih _ w0 _ _ (stable_upd hst (hsp j S hs u)) hc' hfree' hr' (hback _ u _ (fun w h => (pre_upd nij).1 h) fun v U hI => wpAny4_of_inh fun hn => ?_)⟩
          · have := hc1 w hw hcl (((hinst v0 U0 hI0).1 w).2 hp)
            unfold relAt at *
            rw [← exj v0]; exact this
          · have hn' : Inh4 Rel Cl w0 (U F) := (hinst v U hI).2.2.1 F _ hn
            have sv := stepj v U hI hn'
            unfold op4 at sv
            simp only [hoj, waj, hwant, if_true, hs] at sv
            rw [lcomm, comm, (hinst v U hI).2.1]
            exact sv.2 u
    · simp only [hwant] at s0 ⊢
      refine ih _ w0 F _ hst hc' hfree' hr' (hback F undef _ (fun _ h => h) fun v U hI => wpAny4_of_inh fun hn => ?_)
      have sv := stepj v U hI hn
      unfold op4 at sv
      simp only [hoj, waj, hwant] at sv
      rw [lcomm, comm]
      exact sv

theorem wpAny4_lex (htr : ∀ a b c, Rel a b → Rel b c → Rel a c) (hsp : ∀ k S, kd k = .some (.some S) → ∀ v w w', Rel w w' → S v w → S v w') (hB : befOk ops T = true)
    (hbar : ∀ i j, (isB kd i = true ∨ ld i = true) → isC kd j = true → bef ops T j i = true ∨ bef ops T i j = true) (hQ : ∀ c (a : Act) x v w, Q (.panic c) (a.put x v) w → Q (.panic c) a w)
    (C : List Nat) (hC : ∀ k, isC kd k = C.contains k) (hs : Region.noSelect ops = true) : ∀ (l : List (Nat × Oper)) (listed : Array Bool) (w0 : World) (F : Facts) (a : Act), (∀ p ∈ l, ops[p.1]? = .some p.2) →
    lex4 ops C (l.map (·.1)) listed = true → Closed ops T listed → StableF Rel F → wp4 P ops T Rel ld Cl kd Q l w0 F a → wpAny4 P ops T Rel ld Cl kd Q l.length listed w0 F a
  | [], _, _, _, _, _, hL, _, _, h => fun _ => ⟨by simpa [lex4] using hL, h⟩
  | (k, o) :: l, listed, w0, F, a, hl, hL, hc, hst, h => by
    have h0 : ops[k]? = .some o := hl (k, o) (by simp)
    simp only [List.map_cons, lex4, Bool.and_eq_true] at hL
    obtain ⟨hL1, hL'⟩ := hL
    have hl' : ∀ p ∈ l, ops[p.1]? = .some p.2 := fun p hp => hl p (by simp [hp])
    by_cases hkc : C.contains k = true
    · rw [if_pos hkc, decide_eq_true_eq] at hL1
      have hr' : k ∈ Region.ready .any ops listed := by rw [hL1]; simp
      have IH := fun w0 F a hst h => wpAny4_lex htr hsp hB hbar hQ C hC hs l (listed.setIfInBounds k true) w0 F a hl' hL' (closed_set hB hc hr') hst h
      intro hinh
      refine ⟨fun h => (by rw [hL1] at h; cases h), fun i hi => ?_⟩
      rw [hL1] at hi
      obtain rfl : i = k := by simpa using hi
      have hkk : kd i = .some .none := by
        have := hC i
        rw [hkc] at this
        unfold isC at this; revert this; cases kd i with
        | none => intro h; cases h
        | some x => cases x with
          | none => intro _; rfl
          | some S => intro h; cases h
      unfold op4
      unfold wp4 at h
      simp only [h0]
      by_cases hwant : Region.wanted o (yielded ops a.tmps) = true
      · simp only [hwant, if_true, hkk] at h ⊢
        intro w hw hcl hF
        exact (h w hw hcl hF).imp (Oper.wp_mono fun a' w' ⟨h1, h2⟩ => ⟨h1, IH w' none a' (fun _ _ _ _ _ => trivial) h2⟩) id
      · simp only [hwant] at h ⊢
        exact IH _ _ _ hst h
    · rw [if_neg hkc, Bool.and_eq_true] at hL1
      obtain ⟨hr, hf⟩ := hL1
      have hr' : k ∈ Region.ready .any ops listed := by simpa using hr
      have IH := fun w0 F a hst h => wpAny4_lex htr hsp hB hbar hQ C hC hs l (listed.setIfInBounds k true) w0 F a hl' hL' (closed_set hB hc hr') hst h
      have hkc' : isC kd k = false := by rw [hC]; simpa using hkc
      refine wpAny4_first htr hsp hB hbar hQ h0 hkc' (Region.noSelect_spec hs) l.length listed w0 F a hst hc (Region.free_spec h0 hf) hr' ?_
      unfold op4
      unfold wp4 at h
      simp only [h0]
      by_cases hwant : Region.wanted o (yielded ops a.tmps) = true
      · simp only [hwant, if_true] at h ⊢
        cases hs : kd k with
        | none =>
          simp only [hs] at h ⊢
          obtain ⟨c, h1, h2⟩ := h
          exact ⟨c, h1, IH _ _ _ hst h2⟩
        | some k2 =>
          cases k2 with
          | none => unfold isC at hkc'; rw [hs] at hkc'; cases hkc'
          | some S =>
            simp only [hs] at h ⊢
            obtain ⟨h1, h2⟩ := h
            exact ⟨h1, fun v => wpAny4_of_inh fun ⟨w, hw, hcl, hF⟩ => IH _ _ _ (stable_upd hst (hsp k S hs v)) (h2 v ⟨w, hw, hcl, (hF k).2 rfl⟩)⟩
      · simp only [hwant] at h ⊢
        exact IH _ _ _ hst h

section steps
variable {w0 : World} {o : Oper} {rest : List (Nat × Oper)} {k : Nat} {F : Facts} {a : Act}
theorem w4_nil (h : ∀ w, Rel w0 w → Cl w → All F w → Q .normal a w) : wp4 P ops T Rel ld Cl kd Q [] w0 F a := h
theorem w4_skip (hw : Region.wanted o (yielded ops a.tmps) = false) (h : wp4 P ops T Rel ld Cl kd Q rest w0 F (a.put o.dst undef)) : wp4 P ops T Rel ld Cl kd Q ((k, o) :: rest) w0 F a := by
  unfold wp4; rw [if_neg (by rw [hw]; decide)]; exact h
theorem w4_pure (hw : Region.wanted o (yielded ops a.tmps) = true) (hs : kd k = .none) (h : ∃ c, (∀ w, (ld k = true → Rel w0 w) → Cl w → (execOp a.eval o).run P w = .ok (.value c) w) ∧ wp4 P ops T Rel ld Cl kd Q rest w0 F (a.put o.dst c)) :
    wp4 P ops T Rel ld Cl kd Q ((k, o) :: rest) w0 F a := by
  unfold wp4; rw [if_pos hw, hs]; exact h
theorem w4_any (hw : Region.wanted o (yielded ops a.tmps) = true) (hs : kd k = .none) (h : ∃ c, (∀ w, (execOp a.eval o).run P w = .ok (.value c) w) ∧ wp4 P ops T Rel ld Cl kd Q rest w0 F (a.put o.dst c)) :
    wp4 P ops T Rel ld Cl kd Q ((k, o) :: rest) w0 F a := w4_pure hw hs (let ⟨c, h1, h2⟩ := h; ⟨c, fun w _ _ => h1 w, h2⟩)
theorem w4_read (hw : Region.wanted o (yielded ops a.tmps) = true) (hs : kd k = .none) (hl : ld k = true) (h : ∃ c, (∀ w, Rel w0 w → Cl w → (execOp a.eval o).run P w = .ok (.value c) w) ∧ wp4 P ops T Rel ld Cl kd Q rest w0 F (a.put o.dst c)) :
    wp4 P ops T Rel ld Cl kd Q ((k, o) :: rest) w0 F a := w4_pure hw hs (let ⟨c, h1, h2⟩ := h; ⟨c, fun w q => h1 w (q hl), h2⟩)
theorem w4_cl (hw : Region.wanted o (yielded ops a.tmps) = true) (hs : kd k = .none) (h : ∃ c, (∀ w, Cl w → (execOp a.eval o).run P w = .ok (.value c) w) ∧ wp4 P ops T Rel ld Cl kd Q rest w0 F (a.put o.dst c)) :
    wp4 P ops T Rel ld Cl kd Q ((k, o) :: rest) w0 F a := w4_pure hw hs (let ⟨c, h1, h2⟩ := h; ⟨c, fun w _ => h1 w, h2⟩)
theorem w4_some {S : Value → World → Prop} (hw : Region.wanted o (yielded ops a.tmps) = true) (hs : kd k = .some (.some S)) (hc : ∀ w, Rel w0 w → Cl w → Pre ops T F k w → relAt P o a w (fun v w' => Rel w w' ∧ Cl w' ∧ S v w'))
    (h : ∀ v, (∃ w, Rel w0 w ∧ Cl w ∧ S v w) → wp4 P ops T Rel ld Cl kd Q rest w0 (upd F k (S v)) (a.put o.dst v)) : wp4 P ops T Rel ld Cl kd Q ((k, o) :: rest) w0 F a := by
  unfold wp4; rw [if_pos hw, hs]; exact ⟨hc, h⟩
theorem w4_bar (hw : Region.wanted o (yielded ops a.tmps) = true) (hs : kd k = .some .none)
    (h : ∀ w, Rel w0 w → Cl w → All F w → ∀ K : Act → World → Prop, (∀ a' w', Cl w' ∧ wp4 P ops T Rel ld Cl kd Q rest w' none a' → K a' w') → o.wp P a w K Q) : wp4 P ops T Rel ld Cl kd Q ((k, o) :: rest) w0 F a := by
  unfold wp4; rw [if_pos hw, hs]
  exact fun w hr hcl hF => .inl (h w hr hcl hF _ fun _ _ q => q)
end steps
end
/-- What is asked of a panic does not look at the slots. -/
def PB (Q : Exit → Act → World → Prop) : Prop := ∀ c (a : Act) x v w, Q (.panic c) (a.put x v) w → Q (.panic c) a w
theorem pb_then {K : Act → World → Prop} {Q : Exit → Act → World → Prop} (h : PB Q) : PB (Exit.then K Q) := fun c a x v w q => h c a x v w q
theorem pb_inBlock {i : Nat} {Q : Exit → Act → World → Prop} (h : PB Q) : PB (Exit.inBlock i Q) := fun c a x v w q => h c a x v w q
theorem pb_noGoto {Q : Exit → Act → World → Prop} (h : PB Q) : PB (Exit.noGoto Q) := fun c a x v w q => h c a x v w q
theorem pb_body {P : Program} {fn : Func} {R : Ending → World → Prop} : PB (bodyPost P fn R) := fun c a x v w q => ⟨by cases x <;> exact q.1, q.2⟩
theorem leaves0 {P : Program} {fn : Func} {R : Ending → World → Prop} {tmps tmps' : Array Value} (hr : fn.results = #[]) : ∀ {ds : List Deferred} {u : FrameMode} {w : World}, Leaves P fn tmps R ds u w → Leaves P fn tmps' R ds u w
  | [], .run, _, h => h
  | [], .returning, _, ⟨v, h1, h2⟩ => by
    rw [results_none hr] at h1
    exact ⟨v, by rw [results_none hr]; exact h1, h2⟩
  | [], .panicking _, _, h => h
  | _ :: _, _, _, ⟨hu, fv, cap, f, args, ht, hi, hc⟩ => ⟨hu, fv, cap, f, args, ht, hi, fun c cs hm => by
    obtain ⟨e, u', w', fr, h1, h2⟩ := hc c cs hm
    refine ⟨e, u', w', fr, ?_, h2⟩
    cases e with
    | returned v => exact leaves0 hr h1
    | panicked ch => exact leaves0 hr h1
    | outgrown => exact h1⟩
theorem pb_bodyD {P : Program} {fn : Func} {R : Ending → World → Prop} (hr : fn.results = #[]) : PB (bodyPostD P fn R) := fun c a x v w q => by
  cases x with
  | none => exact q
  | some x => exact leaves0 hr q
/-- A guard's Bool is there, as it is wanted, or not. -/
theorem want_of {ops : Array Oper} {o : Oper} {a : Act} (g d : Nat) (gb : Bool) (h : o.guard = some (g, gb)) (hd : (ops[g]?).bind (·.dst) = some d) (ht : a.tmps[d]? = some (.bool gb)) : Region.wanted o (yielded ops a.tmps) = true := by
  simp [Region.wanted, yielded, h, hd, ht]
theorem unwant_of {ops : Array Oper} {o : Oper} {a : Act} (g d : Nat) (gb : Bool) (h : o.guard = some (g, gb)) (hd : (ops[g]?).bind (·.dst) = some d) (ht : a.tmps[d]? = some (.bool (!gb))) : Region.wanted o (yielded ops a.tmps) = false := by
  simp [Region.wanted, yielded, h, hd, ht]
theorem unwant_nil {ops : Array Oper} {o : Oper} {a : Act} (g d : Nat) (gb : Bool) (h : o.guard = some (g, gb)) (hd : (ops[g]?).bind (·.dst) = some d) (ht : a.tmps[d]? = some undef) : Region.wanted o (yielded ops a.tmps) = false := by
  simp [Region.wanted, yielded, h, hd, ht, undef]
theorem want_none {ops : Array Oper} {o : Oper} {a : Act} (h : o.guard = .none) : Region.wanted o (yielded ops a.tmps) = true := by
  simp [Region.wanted, h]
/-- The kinds: the listed specifications; the listed barriers; all else is of kind (a). -/
def kdOf {Rel : World → World → Prop} (Bs : List (Nat × Sp Rel)) (Cs : List Nat) (k : Nat) : Kd := if Cs.contains k then .some .none else (spOf Bs k).map .some
theorem kdOf_C {Rel : World → World → Prop} (Bs : List (Nat × Sp Rel)) (Cs : List Nat) (k : Nat) : isC (kdOf Bs Cs) k = Cs.contains k := by
  unfold isC kdOf
  cases h : Cs.contains k
  · simp only [Bool.false_eq_true, if_false]
    cases spOf Bs k <;> rfl
  · rfl
theorem kdOf_B {Rel : World → World → Prop} (Bs : List (Nat × Sp Rel)) (Cs : List Nat) (k : Nat) (h : isB (kdOf Bs Cs) k = true) : k ∈ Bs.map (·.1) := by
  unfold isB kdOf at h
  cases h' : Cs.contains k
  · rw [h'] at h
    simp only [Bool.false_eq_true, if_false] at h
    clear h'
    induction Bs with
    | nil => simp [spOf] at h
    | cons p Bs ih =>
      obtain ⟨i, s⟩ := p
      unfold spOf at h
      by_cases hk : k = i
      · simp [hk]
      · rw [if_neg hk] at h
        simp only [List.map_cons, List.mem_cons]
        exact .inr (ih h)
  · rw [h'] at h; simp at h
theorem kdOf_sp {Rel : World → World → Prop} (Bs : List (Nat × Sp Rel)) (Cs : List Nat) (k : Nat) (S : Value → World → Prop) (h : kdOf Bs Cs k = .some (.some S)) : ∀ v w w', Rel w w' → S v w → S v w' := by
  unfold kdOf at h
  split at h
  · cases h
  · cases hs : spOf Bs k with
    | none => rw [hs] at h; cases h
    | some S' =>
      rw [hs] at h
      injection h with h
      injection h with h
      subst h
      exact spOf_stable Bs k S' hs
/-- The operations in a lawful order of their own. -/
def inOrd (l : List Oper) (ord : List Nat) : List (Nat × Oper) := ord.filterMap fun k => (l[k]?).map fun o => (k, o)
theorem inOrd_mem {l : List Oper} {ord : List Nat} : ∀ p ∈ inOrd l ord, l.toArray[p.1]? = .some p.2 := by
  intro p hp
  unfold inOrd at hp
  rw [List.mem_filterMap] at hp
  obtain ⟨k, _, hk⟩ := hp
  cases h : l[k]? with
  | none => rw [h] at hk; cases hk
  | some o => rw [h] at hk; injection hk with hk; subst hk; simpa using h
theorem wp_region4 {P : Program} {Rel : World → World → Prop} (T : Array Nat) (Bs : List (Nat × Sp Rel)) (Cs Ls : List Nat) (Cl : World → Prop) (ord : List Nat) {id : Nat} {Q : Exit → Act → World → Prop} {a : Act} {w : World} {l : List Oper} (hm : P.follows .mixedOrders = true)
    (hL : (Region.noSelect l.toArray && (lex4 l.toArray Cs ((inOrd l ord).map (·.1)) (Array.replicate l.length false) && (inOrd l ord).length == l.length)) = true) (hB : befOk l.toArray T = true) (hb : barB l.toArray T (Bs.map (·.1) ++ Ls) Cs = true)
    (hrefl : ∀ w, Rel w w) (htr : ∀ a b c, Rel a b → Rel b c → Rel a c) (hQ : ∀ c (a : Act) x v w, Q (.panic c) (a.put x v) w → Q (.panic c) a w) (hcl : Cl { w with drawn := w.drawn + 1 })
    (h : wp4 P l.toArray T Rel (fun k => Ls.contains k) Cl (kdOf Bs Cs) Q (inOrd l ord) { w with drawn := w.drawn + 1 } none a) : (Code.region id l.toArray true).wp P Q a w := by
  rw [Bool.and_eq_true, Bool.and_eq_true] at hL
  have hlen : (inOrd l ord).length = l.length := by simpa using hL.2.2
  refine wp_region_any hm (wpAny_of_4 (T := T) (ld := fun k => Ls.contains k) hrefl htr (kdOf_sp Bs Cs) _ _ { w with drawn := w.drawn + 1 } none _ _ (fun _ _ _ _ _ => trivial) (hrefl _) hcl (fun _ => trivial) ?_)
  have := wpAny4_lex (P := P) (Q := Q) (ld := fun k => Ls.contains k) (Cl := Cl) htr (kdOf_sp Bs Cs) hB (fun i j hi hj => ?_) hQ Cs (kdOf_C Bs Cs) hL.1 (inOrd l ord) (Array.replicate l.length false) { w with drawn := w.drawn + 1 } none a inOrd_mem hL.2.1 (fun k m hk => by
    exfalso
    by_cases h : k < l.length <;> simp [h] at hk) (fun _ _ _ _ _ => trivial) h
  · rw [hlen] at this; simpa using this
  · rw [kdOf_C] at hj
    have h1 := List.all_eq_true.1 hb j (by simpa using hj)
    have h2 := List.all_eq_true.1 h1 i (by
      rw [List.mem_append]
      rcases hi with hi | hi
      · exact .inl (kdOf_B Bs Cs i hi)
      · exact .inr (by simpa using hi))
    simpa using h2
/-- Where nothing but the barriers touches the world. -/
theorem wp_region4_eq {P : Program} (T : Array Nat) (Cs Ls : List Nat) (Cl : World → Prop) (ord : List Nat) {id : Nat} {Q : Exit → Act → World → Prop} {a : Act} {w : World} {l : List Oper} (hm : P.follows .mixedOrders = true)
    (hL : (Region.noSelect l.toArray && (lex4 l.toArray Cs ((inOrd l ord).map (·.1)) (Array.replicate l.length false) && (inOrd l ord).length == l.length)) = true) (hB : befOk l.toArray T = true) (hb : barB l.toArray T Ls Cs = true)
    (hQ : ∀ c (a : Act) x v w, Q (.panic c) (a.put x v) w → Q (.panic c) a w) (hcl : Cl { w with drawn := w.drawn + 1 })
    (h : wp4 P l.toArray T (· = ·) (fun k => Ls.contains k) Cl (kdOf (Rel := (· = ·)) [] Cs) Q (inOrd l ord) { w with drawn := w.drawn + 1 } none a) : (Code.region id l.toArray true).wp P Q a w :=
  wp_region4 T [] Cs Ls Cl ord hm hL hB (by simpa using hb) (fun _ => rfl) (fun _ _ _ h k => h.trans k) hQ hcl h
/-- A slot that is put, for simp. -/
theorem nrm : (∀ (a : Act) (d : Nat) (v : Value), a.put (some d) v = { a with tmps := a.tmps.setIfInBounds d v }) ∧ (∀ (a : Act) (v : Value), a.put none v = a) ∧ (∀ (α : Type) (xs : List α) (i : Nat) (a : α), xs.toArray.setIfInBounds i a = (xs.set i a).toArray) ∧
    (∀ (α : Type) (i : Nat) (a : α), ([] : List α).set i a = []) ∧ (∀ (α : Type) (x a : α) (l : List α), (x :: l).set 0 a = a :: l) ∧ (∀ (α : Type) (x a : α) (l : List α) (n : Nat), (x :: l).set (n + 1) a = x :: l.set n a) :=
  ⟨fun _ _ _ => rfl, fun _ _ => rfl, fun _ xs i a => List.setIfInBounds_toArray xs i a, fun _ _ _ => rfl, fun _ _ _ _ => rfl, fun _ _ _ _ _ => rfl⟩
theorem wt {ops : Array Oper} {o : Oper} {a : Act} {g d : Nat} {gb : Bool} (h : o.guard = some (g, gb)) (hd : (ops[g]?).bind (·.dst) = some d) (ht : a.tmps[d]? = some (.bool gb)) : Region.wanted o (yielded ops a.tmps) = true := want_of g d gb h hd ht
theorem uw {ops : Array Oper} {o : Oper} {a : Act} {g d : Nat} {gb : Bool} (h : o.guard = some (g, gb)) (hd : (ops[g]?).bind (·.dst) = some d) (ht : a.tmps[d]? = some (.bool (!gb))) : Region.wanted o (yielded ops a.tmps) = false := unwant_of g d gb h hd ht
theorem un {ops : Array Oper} {o : Oper} {a : Act} {g d : Nat} {gb : Bool} (h : o.guard = some (g, gb)) (hd : (ops[g]?).bind (·.dst) = some d) (ht : a.tmps[d]? = some undef) : Region.wanted o (yielded ops a.tmps) = false := unwant_nil g d gb h hd ht
attribute [irreducible] wp4
end Go.Proofs.Ytekngjkjgmplpaa.Rg4

namespace Go.Proofs.Ytekngjkjgmplpaa
set_option linter.unusedSimpArgs false
set_option linter.unusedVariables false
open Go Go.RowKit
theorem Own.refUp {fr al : Nat → Prop} {w w' : World} {t : Nat} {vs0 vs : List Value} (st : Own fr al w [blkI t vs0] w) (hm : MutO (fun k => k = t) w w') (hb : Blk w' t vs) : Own fr al w [blkI t vs] w' :=
  st.upd (i := 0) (I' := blkI t vs) rfl fun e s ⟨h1, h2⟩ h3 h4 => ⟨e, s, ⟨h1, hb⟩, fun b hb => ⟨Nat.lt_of_lt_of_le (h3 b (.inl hb)) hm.size, .inl hb⟩, fun b hb => ⟨Nat.lt_of_lt_of_le (h3 b (.inr hb)) hm.size, .inr (.inl hb)⟩, h4, hm.mono fun k hk => by obtain rfl : k = t := hk; exact h1⟩
/-- The reference's tape: what is left, and the error. -/
def refI (t : Nat) (res : Except Int (List UInt8)) : It where
  P e s w := ∃ xs n, (match res with | .ok ys => xs = ys ∧ n = 0 | .error er => n = er ∧ er ≠ 0) ∧ (blkI t [S xs, .int .i64 n]).P e s w
  st := fun ⟨xs, n, h1, h2⟩ hag => ⟨xs, n, h1, (blkI t [S xs, .int .i64 n]).st h2 hag⟩
  facts _ := True
  ok := fun _ => trivial
theorem Own.refOk {fr al : Nat → Prop} {w0 w : World} {L : List It} (st : Own fr al w0 L w) {i t : Nat} {xs : List UInt8} (hi : L[i]? = some (refI t (.ok xs))) : Own fr al w0 (L.set i (blkI t [S xs, .int .i64 0])) w :=
  st.conv hi fun e s ⟨ys, n, ⟨h1, h2⟩, h3⟩ h4 => by subst h1 h2; exact ⟨e, s, h3, fun _ q => q, fun _ q => .inr q, h4⟩
theorem Own.refMk {fr al : Nat → Prop} {w0 w : World} {L : List It} (st : Own fr al w0 L w) {i t : Nat} {xs : List UInt8} (hi : L[i]? = some (blkI t [S xs, .int .i64 0])) : Own fr al w0 (L.set i (refI t (.ok xs))) w :=
  st.conv hi fun e s h3 h4 => ⟨e, s, ⟨xs, 0, ⟨rfl, rfl⟩, h3⟩, fun _ q => q, fun _ q => .inr q, h4⟩
theorem Own.refMkE {fr al : Nat → Prop} {w0 w : World} {L : List It} (st : Own fr al w0 L w) {i t : Nat} {xs : List UInt8} {er : Int} (hi : L[i]? = some (blkI t [S xs, .int .i64 er])) (he : er ≠ 0) : Own fr al w0 (L.set i (refI t (.error er))) w :=
  st.conv hi fun e s h3 h4 => ⟨e, s, ⟨xs, er, ⟨rfl, he⟩, h3⟩, fun _ q => q, fun _ q => .inr q, h4⟩
theorem Own.refErr {fr al : Nat → Prop} {w0 w : World} {L : List It} (st : Own fr al w0 L w) {i t : Nat} {er : Int} (hi : L[i]? = some (refI t (.error er))) : ∃ xs, er ≠ 0 ∧ Own fr al w0 (L.set i (blkI t [S xs, .int .i64 er])) w := by
  obtain ⟨e0, s0, ⟨xs, n, ⟨h1, h1'⟩, h2⟩, _⟩ := st.get hi
  subst h1
  refine ⟨xs, h1', st.conv hi fun e s ⟨ys, m, ⟨q1, q1'⟩, q2⟩ h4 => ?_⟩
  subst q1
  have e1 := h2.2.cell 0
  have e2 := q2.2.cell 0
  rw [e1] at e2
  simp at e2
  rw [← e2] at q2
  exact ⟨e, s, q2, fun _ q => q, fun _ q => .inr q, h4⟩
/-- What a method of the reference's tape does: the value, and what is left. -/
def RefC {α : Type} (fr al : Nat → Prop) (w : World) (t : Nat) (res : Except Int (α × List UInt8)) (z : Value) (vl : α → Value) (en : Ending) (w' : World) : Prop :=
  match res with
  | .error e => en = .returned z ∧ Own fr al w [refI t (.error e)] w'
  | .ok (x, ys) => en = .returned (vl x) ∧ Own fr al w [refI t (.ok ys)] w'
theorem rdNum_er {xs : List UInt8} {e : Int} (h : rdNum xs = .error e) : e ≠ 0 := rdNum_err h
theorem rdNumber_er {most : Int} {xs : List UInt8} {e : Int} (h : rdNumber most xs = .error e) : e ≠ 0 := by
  unfold rdNumber at h
  cases hr : rdNum xs with
  | error e' => rw [hr] at h; simp at h; subst h; exact rdNum_er hr
  | ok p =>
    obtain ⟨n, ys⟩ := p
    rw [hr] at h
    simp only at h
    split at h
    · simp at h; subst h; decide
    · simp at h
theorem rdText_er {most : Int} {xs : List UInt8} {e : Int} (h : rdText most xs = .error e) : e ≠ 0 := by
  unfold rdText at h
  cases hr : rdNum xs with
  | error e' => rw [hr] at h; simp at h; subst h; exact rdNum_er hr
  | ok p =>
    obtain ⟨n, ys⟩ := p
    rw [hr] at h
    simp only at h
    split at h
    · simp at h; subst h; decide
    · split at h
      · simp at h; subst h; decide
      · simp at h
theorem refNumber_c {fr al : Nat → Prop} {w : World} {t : Nat} {xs : List UInt8} (st : Own fr al w [refI t (.ok xs)] w) (most : Int) :
    Calls Try.prog 126 #[.pointer (some ⟨t, 0, none⟩), .int .i64 most] w (RefC fr al w t (rdNumber most xs) (.int .i64 0) fun n => .int .i64 (n : Int)) := by
  have st1 := st.refOk (i := 0) get0
  refine (refTNumber_any w t xs most (st1.blk (i := 0) rfl)).mono ?_
  rintro en w' ⟨hm, h⟩
  unfold RefC
  cases hr : rdNumber most xs with
  | error e => rw [hr] at h; obtain ⟨h1, s, h2⟩ := h; exact ⟨h1, (st1.refUp hm h2).refMkE (i := 0) rfl (rdNumber_er hr)⟩
  | ok p => obtain ⟨n, ys⟩ := p; rw [hr] at h; exact ⟨h.1, (st1.refUp hm h.2).refMk (i := 0) rfl⟩
theorem refText_c {fr al : Nat → Prop} {w : World} {t : Nat} {xs : List UInt8} (st : Own fr al w [refI t (.ok xs)] w) (most : Int) (hl : xs.length ≤ 100000000000) :
    Calls Try.prog 181 #[.pointer (some ⟨t, 0, none⟩), .int .i64 most] w (RefC fr al w t (rdText most xs) (S []) fun bs => S bs) := by
  have st1 := st.refOk (i := 0) get0
  refine (refTText_any w t xs most (st1.blk (i := 0) rfl) hl).mono ?_
  rintro en w' ⟨hm, h⟩
  unfold RefC
  cases hr : rdText most xs with
  | error e => rw [hr] at h; obtain ⟨h1, s, h2⟩ := h; exact ⟨h1, (st1.refUp hm h2).refMkE (i := 0) rfl (rdText_er hr)⟩
  | ok p => obtain ⟨n, ys⟩ := p; rw [hr] at h; exact ⟨h.1, (st1.refUp hm h.2).refMk (i := 0) rfl⟩
set_option maxRecDepth 100000 in
set_option maxHeartbeats 1000000 in
theorem refNumber_e {fr al : Nat → Prop} {w0 w : World} {L : List It} (st : Own fr al w0 L w) (i : Nat) {t : Nat} {er : Int} (hi : L[i]? = some (refI t (.error er))) (most : Int) :
    Calls Try.prog 126 #[.pointer (some ⟨t, 0, none⟩), .int .i64 most] w fun e w' => e = .returned (.int .i64 0) ∧ w = w' := by
  obtain ⟨xs, he, st1⟩ := st.refErr hi
  have hb := st1.blk (i := i) (b := t) (vs := [S xs, .int .i64 er]) (by simp [List.getElem?_set, get_lt hi])
  have r1 := hb.cell 1
  simp only [List.getElem?_cons_succ, List.getElem?_cons_zero] at r1
  have hne : (er != 0) = true := by simpa using he
  clear st st1 hb hi
  go_enter Try.func126, Try.ntmps126
  go_wp2_with fail
  go_ret
  exact ⟨rfl, rfl⟩
set_option maxRecDepth 100000 in
set_option maxHeartbeats 1000000 in
theorem refText_e {fr al : Nat → Prop} {w0 w : World} {L : List It} (st : Own fr al w0 L w) (i : Nat) {t : Nat} {er : Int} (hi : L[i]? = some (refI t (.error er))) (most : Int) :
    Calls Try.prog 181 #[.pointer (some ⟨t, 0, none⟩), .int .i64 most] w fun e w' => e = .returned (S []) ∧ w = w' := by
  have HST := Lib.hid (And.intro st hi)
  obtain ⟨xs, he, st1⟩ := st.refErr hi
  have hb := st1.blk (i := i) (b := t) (vs := [S xs, .int .i64 er]) (by simp [List.getElem?_set, get_lt hi])
  have r1 := hb.cell 1
  simp only [List.getElem?_cons_succ, List.getElem?_cons_zero] at r1
  have hne : (er != 0) = true := by simpa using he
  have hne2 : (er == 0) = false := by simpa using he
  clear st st1 hb hi
  go_enter Try.func181, Try.ntmps181
  go_wp2_with fail
  refine (refNumber_e HST.out.1 i HST.out.2 _).mono ?_
  rintro en w' ⟨rfl, rfl⟩
  go_wp2_with fail
  go_ret
  exact ⟨rfl, rfl⟩
def bnd {α : Type} (res : Except Int (List UInt8)) (f : List UInt8 → Except Int (α × List UInt8)) : Except Int (α × List UInt8) := match res with | .error e => .error e | .ok xs => f xs
theorem refNumber_m {fr al : Nat → Prop} {w : World} {t : Nat} {res : Except Int (List UInt8)} (st : Own fr al w [refI t res] w) (most : Int) :
    Calls Try.prog 126 #[.pointer (some ⟨t, 0, none⟩), .int .i64 most] w (RefC fr al w t (bnd res (rdNumber most)) (.int .i64 0) fun n => .int .i64 (n : Int)) := by
  cases res with
  | ok xs => exact refNumber_c st most
  | error er =>
    refine (refNumber_e st 0 get0 most).mono ?_
    rintro en w' ⟨rfl, rfl⟩
    exact ⟨rfl, st⟩
theorem refText_m {fr al : Nat → Prop} {w : World} {t : Nat} {res : Except Int (List UInt8)} (st : Own fr al w [refI t res] w) (most : Int) (hl : ∀ xs, res = .ok xs → xs.length ≤ 100000000000) :
    Calls Try.prog 181 #[.pointer (some ⟨t, 0, none⟩), .int .i64 most] w (RefC fr al w t (bnd res (rdText most)) (S []) fun s => S s) := by
  cases res with
  | ok xs => exact refText_c st most (hl xs rfl)
  | error er =>
    refine (refText_e st 0 get0 most).mono ?_
    rintro en w' ⟨rfl, rfl⟩
    exact ⟨rfl, st⟩
theorem refEnd_c {fr al : Nat → Prop} {w0 w : World} {L : List It} (st : Own fr al w0 L w) (i : Nat) {t : Nat} {res : Except Int (List UInt8)} (hi : L[i]? = some (refI t res)) :
    Calls Try.prog 51 #[.pointer (some ⟨t, 0, none⟩)] w fun e w' => e = .returned (.int .i64 (match res with | .ok ys => if ys = [] then 0 else 13 | .error er => er)) ∧ w = w' := by
  cases res with
  | ok ys =>
    have st1 := st.refOk hi
    refine (refEnd_any w t ys 0 (st1.blk (i := i) (by simp [List.getElem?_set, get_lt hi]))).mono ?_
    rintro e w' ⟨h1, h2⟩
    exact ⟨by rw [h1]; simp, h2⟩
  | error er =>
    obtain ⟨xs, he, st1⟩ := st.refErr hi
    refine (refEnd_any w t xs er (st1.blk (i := i) (by simp [List.getElem?_set, get_lt hi]))).mono ?_
    rintro e w' ⟨h1, h2⟩
    exact ⟨by rw [h1, if_neg he], h2⟩
end Go.Proofs.Ytekngjkjgmplpaa

namespace Go.Proofs.Ytekngjkjgmplpaa
set_option linter.unusedSimpArgs false
set_option linter.unusedVariables false
open Go Go.RowKit
/-- How a function that tape.Read is given ends, over a block b that holds z. -/
def GetPost {α : Type} (fr al : Nat → Prop) (w : World) (r b : Nat) (res : Except Int (α × List UInt8)) (z : List Value) (vl : α → List Value) (en : Ending) (w' : World) : Prop :=
  match res with
  | .error e => en = .panicked [{ v := failV r e, recovered := false }] ∧ Own fr al w [rdAnyI r, blkI b z] w'
  | .ok (s, ys) => en = .returned (.tuple #[]) ∧ Own fr al w [rdI r ys, blkI b (vl s)] w'
/-- The error, and what the block holds behind it. -/
def gotE {α : Type} (res : Except Int (α × List UInt8)) : Int := match res with
  | .error e => e
  | .ok (_, ys) => if ys = [] then 0 else 13
def gotZ {α : Type} (res : Except Int (α × List UInt8)) (z : List Value) (vl : α → List Value) : List Value := match res with
  | .error _ => z
  | .ok (s, _) => vl s
theorem pick_range (L : List It) (x : It) : pick (L ++ [x]) (L.length :: List.range L.length) = x :: L := by
  unfold pick
  rw [List.map_cons]
  congr 1
  · simp
  · apply List.ext_getElem
    · simp
    · intro i h1 h2
      simp [List.getElem?_append_left h2, List.getElem?_eq_getElem h2]
theorem putIt_two (L : List It) (I A B : It) (i : Nat) (hi : i < L.length) : putIt (L ++ [I]) [A, B] 0 [L.length, i] = L.set i B ++ [A] := by
  simp only [putIt, List.getElem?_cons_zero, List.getElem?_cons_succ, Option.getD_some, List.drop_succ_cons, List.drop_zero, List.drop_nil, List.append_nil]
  rw [List.set_append_right _ _ (Nat.le_refl _), Nat.sub_self, List.set_cons_zero, List.set_append_left _ _ hi]
theorem readGet_c {α : Type} {fr al : Nat → Prop} {w0 w : World} {L : List It} (st : Own fr al w0 L w) (i : Nat) {b : Nat} {z : List Value} (hi : L[i]? = some (blkI b z)) {a : Option Addr} {n c : Nat} {xs : List UInt8} (h : By w a n xs) (hc : n ≤ c ∧ c ≤ maxLen) (hn : n ≤ 100000000000) (F : FuncId)
    (hinv : ∀ w r, (callFunc F (#[.pointer (some ⟨r, 0, none⟩)] ++ #[.pointer (some ⟨b, 0, none⟩)])).run Try.prog w = .ok (.enter F (#[.pointer (some ⟨r, 0, none⟩)] ++ #[.pointer (some ⟨b, 0, none⟩)])) w)
    (res : Except Int (α × List UInt8)) (vl : α → List Value)
    (hclo : ∀ fr al w r, Own fr al w [rdI r xs, blkI b z] w → Calls Try.prog F #[.pointer (some ⟨r, 0, none⟩), .pointer (some ⟨b, 0, none⟩)] w (GetPost fr al w r b res z vl)) :
    Calls Try.prog 46 #[.slice a n c, .func (.func F) #[] #[.pointer (some ⟨b, 0, none⟩)]] w fun en w' => ∃ r, en = .returned (.int .i64 (gotE res)) ∧ Own fr al w0 (rdOverI r :: L.set i (blkI b (gotZ res z vl))) w' := by
  have hil := get_lt hi
  have fin : ∀ {fr' al' : Nat → Prop} {w1 w2 : World} {A B I : It}, Own fr' al' w1 (putIt (L ++ [I]) [A, B] 0 [L.length, i]) w2 → Own fr' al' w1 (A :: L.set i B) w2 := by
    intro fr' al' w1 w2 A B I st3
    rw [putIt_two L I A B i hil] at st3
    have hk := st3.keep ((L.set i B).length :: List.range (L.set i B).length) (by
      rw [List.nodup_cons]; exact ⟨by simp, List.nodup_range⟩) (by
      intro q hq
      rcases List.mem_cons.1 hq with e | e
      · rw [e]; simp
      · have := List.mem_range.1 e; simp at this ⊢; omega)
    rwa [pick_range] at hk
  refine (read_c st h hc hn F #[.pointer (some ⟨b, 0, none⟩)] hinv (fun r e M => e = gotE res ∧ M = L.set i (blkI b (gotZ res z vl))) fun fr' al' w1 r hr st1 => ?_).mono ?_
  · obtain ⟨fr2, al2, st2, back⟩ := st1.sub [L.length, i] (by simp; omega) (by
      intro q hq; simp at hq ⊢; omega)
    have hp : pick (L ++ [rdI r xs]) [L.length, i] = [rdI r xs, blkI b z] := by
      simp [pick, List.getElem?_append_left hil, hi]
    rw [hp] at st2
    refine (hclo _ _ _ r st2).mono ?_
    intro en w2 hen
    unfold GetPost at hen
    cases hres : res with
    | error e =>
      rw [hres] at hen
      obtain ⟨rfl, st3⟩ := hen
      exact .inr ⟨e, [], _, rfl, rfl, ⟨rfl, rfl⟩, fin (back _ _ (by simp) st3)⟩
    | ok p =>
      obtain ⟨s, ys⟩ := p
      rw [hres] at hen
      obtain ⟨rfl, st3⟩ := hen
      exact .inl ⟨_, ys, _, rfl, ⟨rfl, rfl⟩, fin (back _ _ (by simp) st3)⟩
  · rintro en w' ⟨r, e, M, rfl, ⟨rfl, rfl⟩, st'⟩
    exact ⟨r, rfl, st'⟩
/-- A function that fails, over nothing. -/
theorem readErr_c {fr al : Nat → Prop} {w0 w : World} {L : List It} (st : Own fr al w0 L w) {a : Option Addr} {n c : Nat} {xs : List UInt8} (h : By w a n xs) (hc : n ≤ c ∧ c ≤ maxLen) (hn : n ≤ 100000000000) (F : FuncId)
    (hinv : ∀ w r, (callFunc F (#[.pointer (some ⟨r, 0, none⟩)] ++ #[])).run Try.prog w = .ok (.enter F (#[.pointer (some ⟨r, 0, none⟩)] ++ #[])) w) (er : Int)
    (hclo : ∀ fr al w r, Own fr al w [rdI r xs] w → Calls Try.prog F #[.pointer (some ⟨r, 0, none⟩)] w fun en w' => en = .panicked [{ v := failV r er, recovered := false }] ∧ Own fr al w [rdAnyI r] w') :
    Calls Try.prog 46 #[.slice a n c, .func (.func F) #[] #[]] w fun en w' => ∃ r, en = .returned (.int .i64 er) ∧ Own fr al w0 (rdOverI r :: L) w' := by
  refine (read_c st h hc hn F #[] hinv (fun r e M => e = er ∧ M = L) fun fr' al' w1 r hr st1 => ?_).mono ?_
  · obtain ⟨fr2, al2, st2, back⟩ := st1.sub [L.length] (by simp) (by simp)
    have hp : pick (L ++ [rdI r xs]) [L.length] = [rdI r xs] := by simp [pick]
    rw [hp] at st2
    refine (hclo _ _ _ r st2).mono ?_
    rintro en w2 ⟨rfl, st3⟩
    have st4 := back _ _ (by simp) st3
    simp only [putIt, List.getElem?_cons_zero, Option.getD_some, List.drop_succ_cons, List.drop_zero, List.append_nil] at st4
    rw [List.set_append_right _ _ (Nat.le_refl _), Nat.sub_self, List.set_cons_zero] at st4
    have hk := st4.keep (L.length :: List.range L.length) (by rw [List.nodup_cons]; exact ⟨by simp, List.nodup_range⟩) (by
      intro q hq
      rcases List.mem_cons.1 hq with e | e
      · rw [e]; simp
      · have := List.mem_range.1 e; simp; omega)
    rw [pick_range] at hk
    exact .inr ⟨er, [], _, rfl, rfl, ⟨rfl, rfl⟩, hk⟩
  · rintro en w' ⟨r, e, M, rfl, ⟨rfl, rfl⟩, st'⟩
    exact ⟨r, rfl, st'⟩
end Go.Proofs.Ytekngjkjgmplpaa

namespace Go.Proofs.Ytekngjkjgmplpaa
set_option linter.unusedSimpArgs false
set_option linter.unusedVariables false
open Go Go.RowKit
/-- A datum of k cells, none of which points. -/
class Flt (α : Type) where
  k : Nat
  cells : α → List Value
  len : ∀ x, (cells x).length = k
  pos : 0 < k
  one : ∀ x, ∀ u ∈ cells x, u.oneCell' = true
def fltR {α : Type} [Flt α] : World → Nat → Nat → α → Prop := fun w b o x => ∀ (j : Nat) (v : Value), (Flt.cells x)[j]? = some v → w.cell? ⟨b, o + j, none⟩ = some v
instance fltR_stb {α : Type} [Flt α] : Stb (fltR (α := α)) := ⟨fun _ _ _ _ _ hx h j v hj => hx.cell (h j v hj)⟩
/-- The slice (a, n) reads as xs. -/
abbrev Fl {α : Type} [Flt α] (w : World) (a : Option Addr) (n : Nat) (xs : List α) : Prop := Arr (Flt.k α) fltR w a n xs
def cellsL {α : Type} [Flt α] (xs : List α) : List Value := xs.flatMap Flt.cells
section
variable {α : Type} [Flt α]
theorem cellsL_nil : cellsL ([] : List α) = [] := rfl
theorem cellsL_cons (x : α) (xs : List α) : cellsL (x :: xs) = Flt.cells x ++ cellsL xs := rfl
theorem cellsL_append (xs ys : List α) : cellsL (xs ++ ys) = cellsL xs ++ cellsL ys := by simp [cellsL]
theorem cellsL_one' (x : α) : cellsL [x] = Flt.cells x := by simp [cellsL]
theorem cellsL_len (xs : List α) : (cellsL xs).length = xs.length * Flt.k α := by
  induction xs with
  | nil => simp [cellsL]
  | cons x xs ih => rw [cellsL_cons, List.length_append, ih, Flt.len, List.length_cons, Nat.add_mul, Nat.one_mul, Nat.add_comm]
theorem cellsL_get : ∀ {xs : List α} {i j : Nat} {x : α}, xs[i]? = some x → j < Flt.k α → (cellsL xs)[i * Flt.k α + j]? = (Flt.cells x)[j]?
  | [], i, j, x, h, _ => by simp at h
  | y :: xs, 0, j, x, h, hj => by
    simp at h; subst h
    rw [cellsL_cons, Nat.zero_mul, Nat.zero_add, List.getElem?_append_left (by rw [Flt.len]; exact hj)]
  | y :: xs, i + 1, j, x, h, hj => by
    have := cellsL_get (xs := xs) (i := i) (j := j) (x := x) (by simpa using h) hj
    rw [cellsL_cons, List.getElem?_append_right (by rw [Flt.len, Nat.add_mul]; omega), Flt.len, ← this]
    congr 1
    rw [Nat.add_mul]; omega
theorem cellsL_all (xs : List α) : ∀ u ∈ cellsL xs, u.oneCell' = true := by
  intro u hu
  obtain ⟨x, _, hx⟩ := List.mem_flatMap.1 hu
  exact Flt.one x u hx
theorem Fl.nil (w : World) (a : Option Addr) : Fl w a 0 ([] : List α) := ⟨rfl, fun h => by omega⟩
theorem Fl.flat {w : World} {a : Option Addr} {n : Nat} {xs : List α} (h : Fl w a n xs) : Flat w a n (Flt.k α) (cellsL xs) := by
  refine ⟨by rw [cellsL_len, h.1], fun h0 => ?_⟩
  have hk := Flt.pos (α := α)
  have hn : 0 < n := by
    rcases Nat.eq_zero_or_pos n with q | q
    · rw [cellsL_len, ← h.1, q] at h0; simp at h0
    · exact q
  obtain ⟨b, off, rfl, hc⟩ := h.2 hn
  refine ⟨_, rfl, fun j u hj => ?_⟩
  have hjl := (List.getElem?_eq_some_iff.1 hj).1
  rw [cellsL_len] at hjl
  have hi : j / Flt.k α < xs.length := (Nat.div_lt_iff_lt_mul hk).2 hjl
  have hr : j % Flt.k α < Flt.k α := Nat.mod_lt _ hk
  have e : j / Flt.k α * Flt.k α + j % Flt.k α = j := by rw [Nat.mul_comm]; exact Nat.div_add_mod _ _
  have h1 := cellsL_get (List.getElem?_eq_getElem hi) hr
  rw [e, hj] at h1
  have := hc _ _ (List.getElem?_eq_getElem hi) _ _ h1.symm
  rw [addr_add, ← this, Nat.add_assoc, e]
theorem Fl.of_cells {w : World} {b off : Nat} {xs : List α} (h : ∀ j u, (cellsL xs)[j]? = some u → w.cell? ⟨b, off + j, none⟩ = some u) : Fl w (some ⟨b, off, none⟩) xs.length xs :=
  ⟨rfl, fun _ => ⟨b, off, rfl, fun i x hi j v hj => by
    have hjl := (List.getElem?_eq_some_iff.1 hj).1
    rw [Flt.len] at hjl
    have := h _ v ((cellsL_get hi hjl).trans hj)
    rwa [Nat.add_assoc]⟩⟩
theorem fl_lit {w : World} {b : Nat} {vs : List Value} (h : Blk w b vs) (xs : List α) (he : vs = cellsL xs) : Fl w (some ⟨b, 0, none⟩) xs.length xs :=
  Fl.of_cells fun j u hj => by rw [Nat.zero_add, h.cell, he]; exact hj
/-- A part of a slice. -/
theorem Fl.part {w : World} {b off n : Nat} {xs : List α} (h : Fl w (some ⟨b, off, none⟩) n xs) (i m : Nat) (him : i + m ≤ n) : Fl w (some ⟨b, off + i * Flt.k α, none⟩) m ((xs.drop i).take m) := by
  have hn := h.1
  refine ⟨by simp; omega, fun h0 => ?_⟩
  obtain ⟨b', off', e, hc⟩ := h.2 (by omega)
  cases e
  refine ⟨_, _, rfl, fun j x hj => ?_⟩
  have hjm : j < m := by
    have := (List.getElem?_eq_some_iff.1 hj).1
    simp at this; omega
  rw [List.getElem?_take_of_lt hjm, List.getElem?_drop] at hj
  have := hc (i + j) x hj
  rwa [Nat.add_mul, ← Nat.add_assoc] at this
end
/-- Blocks made since W hold the item; nothing old has changed. -/
def FreshI (W w' : World) (I : It) : Prop := Ext W w' ∧ ∃ e : Nat → Prop, I.P e (fun _ => False) w' ∧ ∀ b, e b → W.heap.size ≤ b ∧ b < w'.heap.size
section
variable {fr al : Nat → Prop} {w0 w w' : World} {L : List It}
theorem Own.fresh (st : Own fr al w0 L w) {I : It} (h : FreshI w w' I) : Own fr al w0 (L ++ [I]) w' :=
  let ⟨hx, e, h1, h2⟩ := h
  st.new hx h1 (fun b hb => ⟨(h2 b hb).2, (h2 b hb).1⟩) (fun _ q => q.elim) (fun _ _ q => q)
theorem Own.toFresh (st : Own (fun _ => False) al w0 L w) {i k n : Nat} {E : TypeId} {v : Value} {xs : List Value} (hi : L[i]? = some (rowI E k v n xs)) : FreshI w0 w (rowI E k v n xs) := by
  have hx := st.ext0
  obtain ⟨hm, e, s, F⟩ := st
  refine ⟨hx, e i, F.holds i _ hi, fun b hb => ⟨?_, F.lo i b (get_lt hi) (.inl hb)⟩⟩
  rcases Nat.lt_or_ge b w0.heap.size with q | q
  · exact (F.fr i b (get_lt hi) hb q).elim
  · exact q
theorem FreshI.ext {I : It} (h : FreshI w w' I) : Ext w w' := h.1
theorem FreshI.pre {W : World} {I : It} (h : FreshI w w' I) (hx : Ext W w) : FreshI W w' I := let ⟨h1, e, h2, h3⟩ := h; ⟨hx.trans h1, e, h2, fun b hb => ⟨Nat.le_trans hx.le (h3 b hb).1, (h3 b hb).2⟩⟩
theorem FreshI.post {w'' : World} {I : It} (h : FreshI w w' I) (hx : Ext w' w'') : FreshI w w'' I :=
  let ⟨h1, e, h2, h3⟩ := h
  ⟨h1.trans hx, e, I.st h2 fun b hb => by rcases hb with hb | hb; exact Below.block hx.bel b (h3 b hb).2; exact hb.elim, fun b hb => ⟨(h3 b hb).1, Nat.lt_of_lt_of_le (h3 b hb).2 hx.le⟩⟩
theorem FreshI.nilRow (w : World) (E : TypeId) (k : Nat) : FreshI w w (rowI E k (.slice none 0 0) 0 []) := ⟨Ext.refl w, fun _ => False, ⟨⟨by simp, .inl ⟨rfl, rfl⟩⟩, fun k hk => by simp [Value.ownBlock] at hk⟩, fun _ q => q.elim⟩
/-- A slice of one's own reads as its list. -/
theorem row_fl {α : Type} [Flt α] {W : World} {E : TypeId} {v : Value} {n : Nat} {xs : List α} (h : W.ownsRow 0 E (Flt.k α) v n (cellsL xs)) : ∃ a c, v = .slice a n c ∧ (n ≤ c ∧ c ≤ maxLen) ∧ Fl W a n xs := by
  have hk := Flt.pos (α := α)
  have hn : n = xs.length := by
    have := h.1
    rw [cellsL_len] at this
    exact (Nat.eq_of_mul_eq_mul_right hk this).symm
  subst hn
  rcases h.2 with ⟨rfl, h0⟩ | ⟨g, cap, cur, rfl, hb, hg, hc, hm, hs, ht⟩
  · have : xs = [] := List.eq_nil_of_length_eq_zero h0
    subst this
    exact ⟨none, 0, rfl, ⟨Nat.le_refl _, by simp [maxLen]⟩, Fl.nil _ _⟩
  · refine ⟨_, cap, rfl, ⟨hc, hm⟩, Fl.of_cells fun j u hj => ?_⟩
    have := h.cells (g := g) rfl j u hj
    rwa [addr_add] at this
theorem Own.rowFl {α : Type} [Flt α] (st : Own fr al w0 L w) {i n : Nat} {E : TypeId} {v : Value} {xs : List α} (hi : L[i]? = some (rowI E (Flt.k α) v n (cellsL xs))) : ∃ a c, v = .slice a n c ∧ (n ≤ c ∧ c ≤ maxLen) ∧ Fl w a n xs := row_fl (st.row hi)
theorem FreshI.fl {α : Type} [Flt α] {a : Option Addr} {n c : Nat} {E : TypeId} {xs : List α} (h : FreshI w w' (rowI E (Flt.k α) (.slice a n c) n (cellsL xs))) : (n ≤ c ∧ c ≤ maxLen) ∧ Fl w' a n xs := by
  obtain ⟨_, e, ⟨h1, _⟩, _⟩ := h
  obtain ⟨a', c', hv, h2, h3⟩ := row_fl h1
  injection hv with q1 q2 q3
  subst q1 q3
  exact ⟨h2, h3⟩
theorem Own.oldFl {α : Type} [Flt α] (st : Own fr al w0 L w) {i : Nat} {W0 : World} (hi : L[i]? = some (oldI W0)) {A : Option Addr} {n : Nat} {xs : List α} (h : Fl W0 A n xs) : Fl w A n xs :=
  ⟨h.1, fun h0 => let ⟨b, off, e, hc⟩ := h.2 h0; ⟨b, off, e, fun j x hj q v hq => st.oldCell hi (hc j x hj q v hq)⟩⟩
end
/-- A string. -/
instance fltStr : Flt (List UInt8) := ⟨1, fun s => [S s], fun _ => rfl, by decide, fun x u hu => by simp at hu; subst hu; rfl⟩
theorem str_cells (y : List UInt8) : Flt.cells y = [.string ⟨y.toArray⟩] := rfl
theorem fltStr_k : Flt.k (List UInt8) = 1 := rfl
theorem Fl.str {w : World} {a : Option Addr} {n : Nat} {xs : List (List UInt8)} (h : Fl w a n xs) (h0 : 0 < n) : ∃ b off, a = some ⟨b, off, none⟩ ∧ ∀ j x, xs[j]? = some x → w.cell? ⟨b, off + j, none⟩ = some (S x) := by
  obtain ⟨b, off, rfl, hc⟩ := h.2 h0
  refine ⟨b, off, rfl, fun j x hj => ?_⟩
  have := hc j x hj 0 (S x) rfl
  simpa [fltStr_k] using this
end Go.Proofs.Ytekngjkjgmplpaa

namespace Go.Proofs.Ytekngjkjgmplpaa
set_option linter.unusedSimpArgs false
set_option linter.unusedVariables false
open Go Go.RowKit
section
variable {fr al : Nat → Prop} {w0 w w' : World} {L : List It} {P : Program} {o : Oper} {a : Act} {K : Act → World → Prop} {Q : Exit → Act → World → Prop}
theorem Own.tail {I : It} (st : Own fr al w0 (I :: L) w) : Own fr al w0 L w := by
  obtain ⟨hm, e, s, F⟩ := st
  exact ⟨hm, fun i => e (i + 1), fun i => s (i + 1), fun i J hi => F.holds (i + 1) J (by simpa using hi), fun i b hi => F.lo (i + 1) b (by simpa using hi), fun i b hi => F.fr (i + 1) b (by simpa using hi), fun i b hi => F.al (i + 1) b (by simpa using hi),
    fun i j b hi hj hne => F.ee (i + 1) (j + 1) b (by simpa using hi) (by simpa using hj) (by omega), fun i j b hi hj => F.es (i + 1) (j + 1) b (by simpa using hi) (by simpa using hj)⟩
theorem set_take_list {α : Type} (l : List α) (m i : Nat) (v : α) (h : i < m) : (l.set i v).take m = (l.take m).set i v := by rw [List.take_set]
/-- A cell of the row is stored. -/
theorem Own.rowSet1 (st : Own fr al w0 L w) {i k n c g : Nat} {E : TypeId} {xs : List Value} (hi : L[i]? = some (rowI E k (.slice (some ⟨g, 0, none⟩) n c) n xs)) (j : Nat) (v : Value) (hj : j < n * k) :
    Own fr al w0 (L.set i (rowI E k (.slice (some ⟨g, 0, none⟩) n c) n (xs.set j v))) (w.setCell ⟨g, j, none⟩ v) := by
  refine st.upd hi fun e s ⟨h1, h2⟩ h3 h4 => ⟨e, s, ⟨⟨by simpa using h1.1, ?_⟩, h2⟩, fun q hq => ⟨by simpa [World.setCell] using h3 q (.inl hq), .inl hq⟩, fun q hq => ⟨by simpa [World.setCell] using h3 q (.inr hq), .inr (.inl hq)⟩, h4, MutO.set (MutO.refl _ _) (h2 g rfl) _⟩
  rcases h1.2 with ⟨h5, _⟩ | ⟨g', cap, cur, hv, hb, hg, hc, hm, hs, ht⟩
  · cases h5
  · cases hv
    refine .inr ⟨g, c, cur.setIfInBounds j v, rfl, hb, ?_, hc, hm, by simpa using hs, ?_⟩
    · simp only [World.setCell, Array.getElem?_modify, hg]; simp
    · rw [Array.toList_setIfInBounds, List.take_set, ht]
theorem Own.rowSet (cs : List Value) : ∀ {w : World} {L : List It} {i k n c g : Nat} {E : TypeId} {xs : List Value} (_ : Own fr al w0 L w) (_ : L[i]? = some (rowI E k (.slice (some ⟨g, 0, none⟩) n c) n xs)) (j : Nat) (_ : j + cs.length ≤ n * k),
    Own fr al w0 (L.set i (rowI E k (.slice (some ⟨g, 0, none⟩) n c) n (spl xs j cs))) (w.setCells g j cs) := by
  induction cs with
  | nil =>
    intro w L i k n c g E xs st hi j hj
    have : L.set i (rowI E k (.slice (some ⟨g, 0, none⟩) n c) n xs) = L := by
      apply List.ext_getElem?
      intro q
      rw [List.getElem?_set]
      split
      · rename_i h; subst h; rw [hi, if_pos (get_lt hi)]
      · rfl
    simpa [spl, World.setCells, this] using st
  | cons u cs ih =>
    intro w L i k n c g E xs st hi j hj
    simp only [List.length_cons] at hj
    have h1 := st.rowSet1 hi j u (by omega)
    have h2 := ih h1 (i := i) (k := k) (n := n) (c := c) (g := g) (E := E) (xs := xs.set j u) (by simp [List.getElem?_set, get_lt hi]) (j + 1) (by omega)
    rw [List.set_set] at h2
    exact h2
/-- What a row's store needs to know of its cells. -/
theorem row_cell {E : TypeId} {k n c g : Nat} {xs : List Value} (h : w.ownsRow 0 E k (.slice (some ⟨g, 0, none⟩) n c) n xs) (j : Nat) (hj : j < n * k) : w.cell? ⟨g, j, none⟩ = xs[j]? ∧ w.frozen? ⟨g, j, none⟩ = false ∧ j < xs.length := by
  rcases h.2 with ⟨h5, _⟩ | ⟨g', cap, cur, hv, hb, hg, hc, hm, hs, ht⟩
  · cases h5
  · cases hv
    have hcn : n * k ≤ c * k := Nat.mul_le_mul_right _ hc
    have hjc : j < cur.size := by omega
    have hx : xs[j]? = cur[j]? := by rw [← ht, List.getElem?_take_of_lt hj]; simp
    have hlt : j < xs.length := by
      rw [Array.getElem?_eq_getElem hjc] at hx
      exact (List.getElem?_eq_some_iff.1 hx).1
    refine ⟨?_, by simp [World.frozen?, hg], hlt⟩
    rw [hx]; simp [World.cell?, hg]
theorem run_storeAt_row {E T : TypeId} {k n c g j : Nat} {xs cs : List Value} {v : Value} (h : w.ownsRow 0 E k (.slice (some ⟨g, 0, none⟩) n c) n xs) (hcs : v.cells.toList = cs) (hT : (P.info? T).map (·.size) = some cs.length) (hk : j + cs.length ≤ n * k) (h1 : cs.all (·.oneCell') = true) :
    (Instr.storeAt T (.pointer (some ⟨g, j, none⟩)) v).run P w = .ok () (w.setCells g j cs) := by
  subst hcs
  have := run_storeCells_cells (P := P) g j v.cells.toList 0 w (fun q hq => by
      have := row_cell h (j + q) (by omega)
      rw [Nat.add_zero, this.1, List.getElem?_eq_getElem this.2.2]; rfl) (fun q hq => (row_cell h (j + 0 + q) (by omega)).2.1) (fun u hu => (List.all_eq_true.1 h1) u hu)
  cases hq : P.info? T with
  | none => simp [hq] at hT
  | some i =>
    have hs : v.cells.size = i.size := by simp [hq] at hT; omega
    simp only [Nat.add_zero] at this
    simp [Instr.storeAt, Instr.sureAddr, storeVar, sizeOf, typeInfo, hq, hs, this]
/-- An element of the row is stored. -/
theorem owp_storeRow {T : TypeId} {x y : Operand} (ho : o.op = .store T x y) (st : Own fr al w0 L w) (i : Nat) {E : TypeId} {k n c g j : Nat} {xs cs : List Value} {v : Value}
    (hi : L[i]? = some (rowI E k (.slice (some ⟨g, 0, none⟩) n c) n xs)) (hx : a.eval x = .pointer (some ⟨g, j, none⟩)) (hy : a.eval y = v) (hcs : v.cells.toList = cs) (hT : (P.info? T).map (·.size) = some cs.length) (hj : j + cs.length ≤ n * k) (h1 : cs.all (·.oneCell') = true)
    (h : ∀ w', Own fr al w0 (L.set i (rowI E k (.slice (some ⟨g, 0, none⟩) n c) n (spl xs j cs))) w' → K (a.put o.dst undef) w') : o.wp P a w K Q := by
  unfold Oper.wp execOp
  simp only [ho, hx, hy, Sem.run_bind, run_storeAt_row (P := P) (st.row hi) hcs hT hj h1, Result.andThen, Sem.run_pure]
  exact h _ (st.rowSet cs hi j hj)
theorem owp_storeRow' {T : TypeId} {x y : Operand} (ho : o.op = .store T x y) (st : Own fr al w0 L w)
    (h : ∃ ad v, a.eval x = .pointer (some ad) ∧ a.eval y = v ∧ ∃ (i : Nat) (E : TypeId) (k n c g j : Nat) (xs cs : List Value), L[i]? = some (rowI E k (.slice (some ⟨g, 0, none⟩) n c) n xs) ∧ ad = ⟨g, j, none⟩ ∧ v.cells.toList = cs ∧ (P.info? T).map (·.size) = some cs.length ∧ j + cs.length ≤ n * k ∧ cs.all (·.oneCell') = true ∧
      ∀ w', Own fr al w0 (L.set i (rowI E k (.slice (some ⟨g, 0, none⟩) n c) n (spl xs j cs))) w' → K (a.put o.dst undef) w') : o.wp P a w K Q := by
  obtain ⟨ad, v, hx, hy, i, E, k, n, c, g, j, xs, cs, hi, rfl, hcs, hT, hj, h1, h⟩ := h
  exact owp_storeRow ho st i hi hx hy hcs hT hj h1 h
theorem spl_take (cs : List Value) : ∀ (xs : List Value) (j q : Nat), q ≤ j → (spl xs j cs).take q = xs.take q := by
  induction cs with
  | nil => intro xs j q _; rfl
  | cons u cs ih =>
    intro xs j q h
    rw [spl, ih _ _ _ (by omega), List.take_set]
    apply List.ext_getElem?
    intro m
    rw [List.getElem?_set]
    split
    · rename_i e; subst e
      split
      · rename_i hh; simp at hh; omega
      · rename_i hh; rw [List.getElem?_eq_none (by simp at hh ⊢; omega)]
    · rfl
/-- clear(s[m:]): the elements from m on are turned, the others stay. -/
theorem owp_clearRow {x : Operand} {t E : TypeId} (ho : o.op = .call { callee := .builtin .clear, args := #[x], argTypes := #[t] }) (st : Own fr al w0 L w) (i : Nat) {k n c g m c' : Nat} {xs : List Value} {inf : TypeInfo} {z : Value}
    (hi : L[i]? = some (rowI E k (.slice (some ⟨g, 0, none⟩) n c) n xs)) (ht : P.underlying t = some (.slice E)) (hinf : P.info? E = some inf) (hz : inf.zero = some z) (hk : 0 < k) (hzs : z.cells.size = k) (hz1 : z.cells.toList.all (·.oneCell') = true)
    (hmn : m ≤ n) (hx : a.eval x = .slice (some ⟨g, m * k, none⟩) (n - m) c')
    (h : ∀ w' ys, ys.take (m * k) = xs.take (m * k) → ys.length = xs.length → Own fr al w0 (L.set i (rowI E k (.slice (some ⟨g, 0, none⟩) n c) n ys)) w' → K (a.put o.dst (.tuple #[])) w') : o.wp P a w K Q := by
  have hrow := st.row hi
  by_cases h0 : n - m = 0
  · refine owp_run (v := .tuple #[]) (w' := w) ?_ (h w xs rfl rfl ?_)
    · rw [h0] at hx
      simp [execOp, ho, resolve, invoke, builtin, hx, Builtin.clear_, run_underlying ht]
    · have : L.set i (rowI E k (.slice (some ⟨g, 0, none⟩) n c) n xs) = L := by
        apply List.ext_getElem?
        intro q
        rw [List.getElem?_set]
        split
        · rename_i h; subst h; rw [hi, if_pos (get_lt hi)]
        · rfl
      rw [this]; exact st
  · obtain ⟨q, hq⟩ : ∃ q, n - m = q + 1 := ⟨n - m - 1, by omega⟩
    have hlen : (Builtin.zeroCells z.cells (n - m)).toList.length = (n - m) * k := by
      rw [Array.length_toList, size_zeroCells, hzs]
    have hnk : m * k + (n - m) * k = n * k := by rw [← Nat.add_mul]; congr 1; omega
    have hall : (Builtin.zeroCells z.cells (n - m)).toList.all (·.oneCell') = true := by
      rw [List.all_eq_true] at hz1 ⊢
      intro u hu
      simp only [Builtin.zeroCells, Array.toList_map, List.mem_map] at hu
      obtain ⟨r, _, rfl⟩ := hu
      have hr : r % z.cells.size < z.cells.size := Nat.mod_lt _ (by omega)
      apply hz1
      rw [getElem!_pos z.cells _ hr]
      exact Array.getElem_mem_toList hr
    have hst := run_storeCells_cells (P := P) g (m * k) (Builtin.zeroCells z.cells (n - m)).toList 0 w (fun q hq => by
        have := row_cell hrow (m * k + q) (by omega)
        rw [Nat.add_zero, this.1, List.getElem?_eq_getElem this.2.2]; rfl) (fun q hq => (row_cell hrow (m * k + 0 + q) (by omega)).2.1) (fun u hu => (List.all_eq_true.1 hall) u hu)
    simp only [Nat.add_zero] at hst
    refine owp_run (v := .tuple #[]) (w' := w.setCells g (m * k) (Builtin.zeroCells z.cells (n - m)).toList) ?_ (h _ _ (spl_take _ _ _ _ (Nat.le_refl _)) (spl_len _ _ _) (st.rowSet _ hi (m * k) (by omega)))
    rw [hq] at hx hst ⊢
    simp [execOp, ho, resolve, invoke, builtin, hx, Builtin.clear_, run_underlying ht, zeroValue, typeInfo, hinf, hz, hst, Result.andThen]
theorem owp_clearRow' {x : Operand} {t E : TypeId} (ho : o.op = .call { callee := .builtin .clear, args := #[x], argTypes := #[t] }) (st : Own fr al w0 L w) (ht : P.underlying t = some (.slice E))
    (h : ∃ ad q c', a.eval x = .slice (some ad) q c' ∧ ∃ (i : Nat) (k n c g m : Nat) (xs : List Value) (inf : TypeInfo) (z : Value), L[i]? = some (rowI E k (.slice (some ⟨g, 0, none⟩) n c) n xs) ∧ P.info? E = some inf ∧ inf.zero = some z ∧ 0 < k ∧ z.cells.size = k ∧ z.cells.toList.all (·.oneCell') = true ∧
      m ≤ n ∧ ad = ⟨g, m * k, none⟩ ∧ q = n - m ∧ ∀ w' ys, ys.take (m * k) = xs.take (m * k) → ys.length = xs.length → Own fr al w0 (L.set i (rowI E k (.slice (some ⟨g, 0, none⟩) n c) n ys)) w' → K (a.put o.dst (.tuple #[])) w') : o.wp P a w K Q := by
  obtain ⟨ad, q, c', hx, i, k, n, c, g, m, xs, inf, z, hi, hinf, hz, hk, hzs, hz1, hmn, rfl, rfl, h⟩ := h
  exact owp_clearRow ho st i hi ht hinf hz hk hzs hz1 hmn hx h
/-- A slice literal as a row that may grow. -/
theorem owp_buildRow {T : TypeId} {q : Nat} {ps : Array (Nat × Operand)} (ho : o.op = .buildSlice T q ps) (st : Own fr al w0 L w) (E : TypeId) (k : Nat) (h : ∃ (m : Nat) (cs : Array Value), (execOp a.eval o).run P w = .ok (.value (.slice (some ⟨w.heap.size, 0, none⟩) m m)) (w.alloc (.cells cs E)) ∧
    cs.size = m * k ∧ m ≤ maxLen ∧ ∀ b w', w.heap.size ≤ b → Own fr al w0 (L ++ [rowI E k (.slice (some ⟨b, 0, none⟩) m m) m cs.toList]) w' → K (a.put o.dst (.slice (some ⟨b, 0, none⟩) m m)) w') : o.wp P a w K Q := by
  obtain ⟨m, cs, hr, h1, h2, h⟩ := h
  refine owp_run hr (h _ _ (Nat.le_refl _) (st.new (Ext.new w _) (e' := fun b => b = w.heap.size) (s' := fun _ => False) ⟨⟨by simpa using h1, .inr ⟨w.heap.size, m, cs, rfl, Nat.zero_le _, ?_, Nat.le_refl _, h2, h1, ?_⟩⟩, fun b hb => by cases hb; rfl⟩ (fun b hb => ?_) (fun _ q => q.elim) (fun _ _ q => q)))
  · show (w.heap.push _)[_]? = _; simp
  · rw [List.take_of_length_le]; simp [h1]
  · subst hb; exact ⟨by show _ < (w.heap.push _).size; simp, Nat.le_refl _⟩
/-- s[:m] -/
theorem Own.rowCut (st : Own fr al w0 L w) {i k n c g : Nat} {E : TypeId} {xs : List Value} (hi : L[i]? = some (rowI E k (.slice (some ⟨g, 0, none⟩) n c) n xs)) (m : Nat) (hm : m ≤ n) :
    Own fr al w0 (L.set i (rowI E k (.slice (some ⟨g, 0, none⟩) m c) m (xs.take (m * k)))) w := by
  refine st.conv hi fun e s ⟨h1, h2⟩ h3 => ⟨e, s, ⟨⟨?_, ?_⟩, fun q hq => h2 q hq⟩, fun _ q => q, fun _ q => .inr q, h3⟩
  · have := h1.1
    have : m * k ≤ n * k := Nat.mul_le_mul_right _ hm
    simp; omega
  · rcases h1.2 with ⟨h5, _⟩ | ⟨g', cap, cur, hv, hb, hg, hc, hmx, hs, ht⟩
    · cases h5
    · cases hv
      refine .inr ⟨g, c, cur, rfl, hb, hg, Nat.le_trans hm hc, hmx, hs, ?_⟩
      rw [← ht, List.take_take, Nat.min_eq_left (Nat.mul_le_mul_right _ hm)]
end
section
variable {α : Type} [Flt α]
theorem spl_in (cs : List Value) : ∀ (xs : List Value) (j q : Nat), (spl xs j cs)[q]? = if j ≤ q ∧ q < j + cs.length ∧ q < xs.length then cs[q - j]? else xs[q]? := by
  induction cs with
  | nil => intro xs j q; simp [spl]; intro h1 h2; omega
  | cons u cs ih =>
    intro xs j q
    rw [spl, ih]
    simp only [List.length_set, List.length_cons]
    by_cases h1 : q = j
    · subst h1
      rw [if_neg (by omega)]
      by_cases h2 : q < xs.length
      · rw [if_pos ⟨Nat.le_refl _, by omega, h2⟩]; simp [h2]
      · rw [if_neg (by omega)]; simp [h2]
    · rw [List.getElem?_set, if_neg (Ne.symm h1)]
      by_cases h2 : j + 1 ≤ q ∧ q < j + 1 + cs.length ∧ q < xs.length
      · rw [if_pos h2, if_pos (by omega), show q - j = (q - (j + 1)) + 1 by omega, List.getElem?_cons_succ]
      · rw [if_neg h2, if_neg (by omega)]
theorem cellsL_set (xs : List α) (i : Nat) (y : α) (hi : i < xs.length) : spl (cellsL xs) (i * Flt.k α) (Flt.cells y) = cellsL (xs.set i y) := by
  have hk := Flt.pos (α := α)
  apply List.ext_getElem?
  intro q
  rw [spl_in, Flt.len, cellsL_len]
  have e : q / Flt.k α * Flt.k α + q % Flt.k α = q := by rw [Nat.mul_comm]; exact Nat.div_add_mod _ _
  have hr : q % Flt.k α < Flt.k α := Nat.mod_lt _ hk
  by_cases hq : q < xs.length * Flt.k α
  · have hd : q / Flt.k α < xs.length := (Nat.div_lt_iff_lt_mul hk).2 hq
    by_cases hiq : q / Flt.k α = i
    · have h1 : (cellsL (xs.set i y))[q]? = (Flt.cells y)[q % Flt.k α]? := by
        have := cellsL_get (xs := xs.set i y) (i := q / Flt.k α) (j := q % Flt.k α) (x := y) (by rw [hiq]; simp [hi]) hr
        rwa [e] at this
      have e2 : i * Flt.k α + q % Flt.k α = q := by rw [← hiq]; exact e
      rw [h1, if_pos ⟨by omega, by omega, hq⟩]
      congr 1; omega
    · have h1 : (cellsL (xs.set i y))[q]? = (cellsL xs)[q]? := by
        have g1 := cellsL_get (xs := xs.set i y) (i := q / Flt.k α) (j := q % Flt.k α) (x := xs[q / Flt.k α]) (by rw [List.getElem?_set, if_neg (Ne.symm hiq)]; exact List.getElem?_eq_getElem hd) hr
        have g2 := cellsL_get (xs := xs) (List.getElem?_eq_getElem hd) hr
        rw [e] at g1 g2; rw [g1, g2]
      rw [h1, if_neg]
      rintro ⟨h2, h3, _⟩
      apply hiq
      have : i * Flt.k α + Flt.k α = (i + 1) * Flt.k α := by rw [Nat.add_mul, Nat.one_mul]
      have h5 : i ≤ q / Flt.k α := (Nat.le_div_iff_mul_le hk).2 h2
      have h6 : q / Flt.k α < i + 1 := (Nat.div_lt_iff_lt_mul hk).2 (by omega)
      omega
  · rw [if_neg (by omega)]
    rw [List.getElem?_eq_none (by rw [cellsL_len]; omega), List.getElem?_eq_none (by rw [cellsL_len, List.length_set]; omega)]
theorem cellsL_take (xs : List α) (m : Nat) : (cellsL xs).take (m * Flt.k α) = cellsL (xs.take m) := by
  by_cases hm : m ≤ xs.length
  · have h1 : cellsL xs = cellsL (xs.take m) ++ cellsL (xs.drop m) := by rw [← cellsL_append, List.take_append_drop]
    have h2 : (cellsL (xs.take m)).length = m * Flt.k α := by rw [cellsL_len]; simp [Nat.min_eq_left hm]
    rw [h1, List.take_append_of_le_length (by omega), List.take_of_length_le (by omega)]
  · rw [List.take_of_length_le (l := xs) (by omega), List.take_of_length_le]
    rw [cellsL_len]; exact Nat.mul_le_mul_right _ (by omega)
end
end Go.Proofs.Ytekngjkjgmplpaa

namespace Go.Proofs.Ytekngjkjgmplpaa
set_option linter.unusedSimpArgs false
set_option linter.unusedVariables false
open Go
/-- An order on what P lets. -/
structure SOrd {α : Type} (lt : α → α → Bool) (P : α → Bool) : Prop where
  irr : ∀ x, lt x x = false
  tr : ∀ x y z, lt x y = true → lt y z = true → lt x z = true
  tri : ∀ x y, P x = true → P y = true → lt x y = true ∨ x = y ∨ lt y x = true
/-- Strictly rising, and just those of l that P lets. -/
def SSet {α : Type} (lt : α → α → Bool) (P : α → Bool) (l out : List α) : Prop := out.Pairwise (fun x y => lt x y = true) ∧ ∀ x, x ∈ out ↔ x ∈ l ∧ P x = true
section
variable {α : Type} {lt : α → α → Bool} {P : α → Bool}
theorem pairwise_ext (irr : ∀ x, lt x x = false) (tr : ∀ x y z, lt x y = true → lt y z = true → lt x z = true) : ∀ {a b : List α}, a.Pairwise (fun x y => lt x y = true) → b.Pairwise (fun x y => lt x y = true) → (∀ x, x ∈ a ↔ x ∈ b) → a = b
  | [], [], _, _, _ => rfl
  | [], y :: b, _, _, h => absurd ((h y).2 (by simp)) (by simp)
  | x :: a, [], _, _, h => absurd ((h x).1 (by simp)) (by simp)
  | x :: a, y :: b, ha, hb, h => by
    obtain ⟨ha1, ha2⟩ := List.pairwise_cons.1 ha
    obtain ⟨hb1, hb2⟩ := List.pairwise_cons.1 hb
    have hxy : x = y := by
      rcases List.mem_cons.1 ((h x).1 (by simp)) with e | e
      · exact e
      · rcases List.mem_cons.1 ((h y).2 (by simp)) with e' | e'
        · exact e'.symm
        · have := tr _ _ _ (hb1 x e) (ha1 y e'); rw [irr] at this; cases this
    subst hxy
    have : a = b := pairwise_ext irr tr ha2 hb2 fun z => by
      have hz := h z
      simp only [List.mem_cons] at hz
      constructor
      · intro q
        rcases hz.1 (.inr q) with e | e
        · subst e; have := ha1 z q; rw [irr] at this; cases this
        · exact e
      · intro q
        rcases hz.2 (.inr q) with e | e
        · subst e; have := hb1 z q; rw [irr] at this; cases this
        · exact e
    rw [this]
theorem SSet.uniq (o : SOrd lt P) {l a b : List α} (ha : SSet lt P l a) (hb : SSet lt P l b) : a = b := pairwise_ext o.irr o.tr ha.1 hb.1 fun x => (ha.2 x).trans (hb.2 x).symm
/-- Of the same members. -/
theorem SSet.mem {l l' a b : List α} (o : SOrd lt P) (ha : SSet lt P l a) (hb : SSet lt P l' b) (h : ∀ x, P x = true → (x ∈ l ↔ x ∈ l')) : a = b := by
  refine pairwise_ext o.irr o.tr ha.1 hb.1 fun x => ?_
  rw [ha.2, hb.2]
  constructor
  · rintro ⟨h1, h2⟩; exact ⟨(h x h2).1 h1, h2⟩
  · rintro ⟨h1, h2⟩; exact ⟨(h x h2).2 h1, h2⟩
/-- The least candidate, the first of the like. -/
def pickMin (lt : α → α → Bool) (cand : α → Bool) (l : List α) : Option α := l.foldl (fun b x => if cand x && b.all (fun y => lt x y) then some x else b) none
theorem pickMin_snoc (cand : α → Bool) (l : List α) (x : α) : pickMin lt cand (l ++ [x]) = if cand x && (pickMin lt cand l).all (fun y => lt x y) then some x else pickMin lt cand l := by
  unfold pickMin; rw [List.foldl_append]; rfl
theorem pickMin_take (cand : α → Bool) (l : List α) (j : Nat) (h : j < l.length) : pickMin lt cand (l.take (j + 1)) = if cand l[j] && (pickMin lt cand (l.take j)).all (fun y => lt l[j] y) then some l[j] else pickMin lt cand (l.take j) := by
  rw [← List.take_append_getElem h, pickMin_snoc]
theorem list_snoc {motive : List α → Prop} (nil : motive []) (snoc : ∀ l x, motive l → motive (l ++ [x])) : ∀ l, motive l := by
  intro l
  have : ∀ r : List α, motive r.reverse := by
    intro r
    induction r with
    | nil => exact nil
    | cons x r ih => rw [List.reverse_cons]; exact snoc _ _ ih
  have := this l.reverse
  rwa [List.reverse_reverse] at this
theorem pickMin_spec (tr : ∀ x y z, lt x y = true → lt y z = true → lt x z = true) (irr : ∀ x, lt x x = false) (cand : α → Bool) (l : List α) :
    (pickMin lt cand l = none → ∀ x ∈ l, cand x = false) ∧ (∀ y, pickMin lt cand l = some y → y ∈ l ∧ cand y = true ∧ ∀ x ∈ l, cand x = true → lt x y = false) := by
  induction l using list_snoc with
  | nil => exact ⟨fun _ x hx => by simp at hx, fun y hy => by simp [pickMin] at hy⟩
  | snoc l x ih =>
    rw [pickMin_snoc]
    by_cases hc : (cand x && (pickMin lt cand l).all (fun y => lt x y)) = true
    · rw [if_pos hc]
      simp only [Bool.and_eq_true] at hc
      refine ⟨fun h => (by cases h), fun y hy => ?_⟩
      cases hy
      refine ⟨by simp, hc.1, fun z hz hcz => ?_⟩
      rcases List.mem_append.1 hz with q | q
      · cases hp : pickMin lt cand l with
        | none => have := ih.1 hp z q; rw [this] at hcz; cases hcz
        | some y0 =>
          have h1 := (ih.2 y0 hp).2.2 z q hcz
          have h2 : lt x y0 = true := by have := hc.2; rw [hp] at this; simpa using this
          cases h3 : lt z x with
          | false => rfl
          | true => have := tr _ _ _ h3 h2; rw [this] at h1; cases h1
      · rw [List.mem_singleton.1 q]; exact irr x
    · rw [if_neg hc]
      refine ⟨fun h z hz => ?_, fun y hy => ?_⟩
      · rcases List.mem_append.1 hz with q | q
        · exact ih.1 h z q
        · rw [List.mem_singleton.1 q]
          cases hcx : cand x with
          | false => rfl
          | true => rw [h, hcx] at hc; simp at hc
      · obtain ⟨h1, h2, h3⟩ := ih.2 y hy
        refine ⟨List.mem_append.2 (.inl h1), h2, fun z hz hcz => ?_⟩
        rcases List.mem_append.1 hz with q | q
        · exact h3 z q hcz
        · rw [List.mem_singleton.1 q] at hcz ⊢
          rw [hcz, hy] at hc
          simpa using hc
/-- What may come behind out. -/
def cnd (lt : α → α → Bool) (P : α → Bool) (out : List α) (x : α) : Bool := P x && out.getLast?.all (fun z => lt z x)
/-- A set that grows by its least candidate. -/
def GInv (lt : α → α → Bool) (P : α → Bool) (l out : List α) : Prop := out.Pairwise (fun x y => lt x y = true) ∧ (∀ x ∈ out, x ∈ l ∧ P x = true) ∧ ∀ x ∈ l, P x = true → cnd lt P out x = false → x ∈ out
theorem GInv.nil (l : List α) : GInv lt P l [] := ⟨List.Pairwise.nil, fun x hx => by simp at hx, fun x _ hp hc => by simp [cnd, hp] at hc⟩
theorem GInv.step (o : SOrd lt P) {l out : List α} {y : α} (h : GInv lt P l out) (hy : pickMin lt (cnd lt P out) l = some y) : GInv lt P l (out ++ [y]) := by
  obtain ⟨h1, h2, h3⟩ := h
  obtain ⟨q1, q2, q3⟩ := (pickMin_spec o.tr o.irr (cnd lt P out) l).2 y hy
  have q2' := q2
  simp only [cnd, Bool.and_eq_true] at q2'
  refine ⟨?_, ?_, ?_⟩
  · rw [List.pairwise_append]
    refine ⟨h1, List.pairwise_singleton _ _, fun a ha b hb => ?_⟩
    rw [List.mem_singleton.1 hb]
    obtain ⟨z, hz⟩ : ∃ z, out.getLast? = some z := by
      cases hl : out.getLast? with
      | none => rw [List.getLast?_eq_none_iff] at hl; subst hl; simp at ha
      | some z => exact ⟨z, rfl⟩
    have hzy : lt z y = true := by have := q2'.2; rw [hz] at this; simpa using this
    obtain ⟨pre, rfl⟩ := List.getLast?_eq_some_iff.1 hz
    rcases List.mem_append.1 ha with q | q
    · exact o.tr _ _ _ ((List.pairwise_append.1 h1).2.2 a q z (by simp)) hzy
    · rw [List.mem_singleton.1 q]; exact hzy
  · intro x hx
    rcases List.mem_append.1 hx with q | q
    · exact h2 x q
    · rw [List.mem_singleton.1 q]; exact ⟨q1, q2'.1⟩
  · intro x hx hp hc
    have hyx : lt y x = false := by simpa [cnd, hp] using hc
    cases hcx : cnd lt P out x with
    | false => exact List.mem_append.2 (.inl (h3 x hx hp hcx))
    | true =>
      have hxy := q3 x hx hcx
      rcases o.tri x y hp q2'.1 with q | q | q
      · rw [q] at hxy; cases hxy
      · rw [q]; simp
      · rw [q] at hyx; cases hyx
theorem GInv.done (o : SOrd lt P) {l out : List α} (h : GInv lt P l out) (hn : pickMin lt (cnd lt P out) l = none) : SSet lt P l out := by
  obtain ⟨h1, h2, h3⟩ := h
  exact ⟨h1, fun x => ⟨h2 x, fun ⟨q1, q2⟩ => h3 x q1 q2 ((pickMin_spec o.tr o.irr _ _).1 hn x q1)⟩⟩
theorem filter_len_le (p q : α → Bool) (l : List α) (h : ∀ x ∈ l, p x = true → q x = true) : (l.filter p).length ≤ (l.filter q).length := by
  induction l with
  | nil => simp
  | cons x l ih =>
    have i := ih fun y hy => h y (List.mem_cons_of_mem _ hy)
    have hx := h x (by simp)
    simp only [List.filter_cons]
    split
    · rename_i hp; rw [if_pos (hx hp)]; simp; omega
    · split <;> simp <;> omega
theorem filter_len_lt (p q : α → Bool) : ∀ (l : List α), (∀ x ∈ l, p x = true → q x = true) → ∀ y ∈ l, q y = true → p y = false → (l.filter p).length < (l.filter q).length
  | [], _, y, hy, _, _ => by simp at hy
  | x :: l, h, y, hy, h1, h2 => by
    have h' : ∀ z ∈ l, p z = true → q z = true := fun z hz => h z (List.mem_cons_of_mem _ hz)
    have hle := filter_len_le p q l h'
    simp only [List.filter_cons]
    rcases List.mem_cons.1 hy with rfl | hm
    · rw [if_pos h1, if_neg (by rw [h2]; simp)]; simp; omega
    · have ih := filter_len_lt p q l h' y hm h1 h2
      have hx := h x (by simp)
      split
      · rename_i hp; rw [if_pos (hx hp)]; simp; omega
      · split <;> simp <;> omega
/-- How many may come yet. -/
def left (lt : α → α → Bool) (P : α → Bool) (l out : List α) : Nat := (l.filter (cnd lt P out)).length
theorem left_step (o : SOrd lt P) {l out : List α} {y : α} (hy : pickMin lt (cnd lt P out) l = some y) : left lt P l (out ++ [y]) < left lt P l out := by
  obtain ⟨q1, q2, q3⟩ := (pickMin_spec o.tr o.irr (cnd lt P out) l).2 y hy
  refine filter_len_lt _ _ l (fun x hx hc => ?_) y q1 q2 (by simp [cnd, o.irr])
  simp only [cnd, Bool.and_eq_true, List.getLast?_append, List.getLast?_singleton, Option.some_or, Option.all_some] at hc q2 ⊢
  refine ⟨hc.1, ?_⟩
  cases hl : out.getLast? with
  | none => rfl
  | some z => rw [hl] at q2; simp only [Option.all_some] at q2 ⊢; exact o.tr _ _ _ q2.2 hc.2
theorem SSet.len {l out : List α} (irr : ∀ x, lt x x = false) (h : SSet lt P l out) : out.length ≤ l.length := by
  have hnd : out.Nodup := h.1.imp fun {a b} hab e => by subst e; rw [irr] at hab; cases hab
  exact (List.Nodup.length_le_of_subset hnd fun x hx => ((h.2 x).1 hx).1)
theorem GInv.len {l out : List α} (irr : ∀ x, lt x x = false) (h : GInv lt P l out) : out.length ≤ l.length := by
  have hnd : out.Nodup := h.1.imp fun {a b} hab e => by subst e; rw [irr] at hab; cases hab
  exact (List.Nodup.length_le_of_subset hnd fun x hx => (h.2.1 x hx).1)
end
end Go.Proofs.Ytekngjkjgmplpaa

namespace Go.Proofs.Ytekngjkjgmplpaa
set_option linter.unusedSimpArgs false
set_option linter.unusedVariables false
open Go
section
variable {α : Type} [Inhabited α] [DecidableEq α] {lt : α → α → Bool} {P : α → Bool}
theorem compact_inv (tr : ∀ x y z, lt x y = true → lt y z = true → lt x z = true) (irr : ∀ x, lt x x = false) (xs : List α) (tri : ∀ x ∈ xs, ∀ y ∈ xs, lt x y = true ∨ x = y ∨ lt y x = true)
    (hs : xs.Pairwise (fun x y => lt y x = false)) : ∀ m, m ≤ xs.length → (Lib.compactUpTo xs.toArray m).Pairwise (fun x y => lt x y = true) ∧ (∀ x, x ∈ Lib.compactUpTo xs.toArray m ↔ x ∈ xs.take m) ∧ (0 < m → (Lib.compactUpTo xs.toArray m).getLast? = xs[m - 1]?) := by
  intro m
  induction m with
  | zero => intro _; exact ⟨by simp [Lib.compactUpTo], by simp [Lib.compactUpTo], by omega⟩
  | succ m ih =>
    intro hm
    obtain ⟨h1, h2, h3⟩ := ih (by omega)
    have hx : xs.toArray[m]! = xs[m] := by simp [show m < xs.length by omega]
    have ht : xs.take (m + 1) = xs.take m ++ [xs[m]] := (List.take_append_getElem (by omega)).symm
    rw [Lib.compactUpTo_succ, ht]
    by_cases hk : Lib.keeps xs.toArray m = true
    · rw [if_pos hk, hx]
      refine ⟨?_, fun x => ?_, fun _ => ?_⟩
      · rw [List.pairwise_append]
        refine ⟨h1, List.pairwise_singleton _ _, fun a ha b hb => ?_⟩
        rw [List.mem_singleton.1 hb]
        have hm0 : 0 < m := by
          rcases Nat.eq_zero_or_pos m with q | q
          · subst q; simp [Lib.compactUpTo] at ha
          · exact q
        have hl := h3 hm0
        rw [List.getElem?_eq_getElem (by omega)] at hl
        have hne : xs[m] ≠ xs[m - 1] := by
          simp only [Lib.keeps, decide_eq_true_eq] at hk
          rcases hk with q | q
          · omega
          · have e1 : xs.toArray[m - 1]! = xs[m - 1] := by simp [show m - 1 < xs.length by omega]
            rw [hx, e1] at q; exact q
        have hlt : lt xs[m - 1] xs[m] = true := by
          have hns := List.pairwise_iff_getElem.1 hs (m - 1) m (by omega) (by omega) (by omega)
          rcases tri xs[m - 1] (List.getElem_mem _) xs[m] (List.getElem_mem _) with q | q | q
          · exact q
          · exact absurd q.symm hne
          · rw [q] at hns; cases hns
        obtain ⟨pre, hpre⟩ := List.getLast?_eq_some_iff.1 hl
        rw [hpre] at ha h1
        rcases List.mem_append.1 ha with q | q
        · exact tr _ _ _ ((List.pairwise_append.1 h1).2.2 a q _ (by simp)) hlt
        · rw [List.mem_singleton.1 q]; exact hlt
      · rw [List.mem_append, List.mem_append, h2]
      · simp [show m < xs.length by omega]
    · have hk' : Lib.keeps xs.toArray m = false := by simpa using hk
      rw [if_neg hk, List.append_nil]
      simp only [Lib.keeps, decide_eq_false_iff_not, not_or, Decidable.not_not] at hk'
      obtain ⟨hm0, he⟩ := hk'
      have e1 : xs.toArray[m - 1]! = xs[m - 1] := by simp [show m - 1 < xs.length by omega]
      rw [hx, e1] at he
      refine ⟨h1, fun x => ?_, fun _ => ?_⟩
      · rw [h2, List.mem_append]
        refine ⟨.inl, fun q => ?_⟩
        rcases q with q | q
        · exact q
        · rw [List.mem_singleton.1 q, he]
          rw [List.mem_take_iff_getElem]
          exact ⟨m - 1, by omega, rfl⟩
      · rw [h3 (by omega), Nat.add_sub_cancel, List.getElem?_eq_getElem (by omega), List.getElem?_eq_getElem (by omega), he]
theorem compact_set (o : SOrd lt P) (xs l : List α) (hP : ∀ x, x ∈ xs ↔ x ∈ l ∧ P x = true) (hs : xs.Pairwise (fun x y => lt y x = false)) : SSet lt P l (Lib.compact xs) := by
  obtain ⟨h1, h2, _⟩ := compact_inv o.tr o.irr xs (fun x hx y hy => o.tri x y ((hP x).1 hx).2 ((hP y).1 hy).2) hs xs.length (Nat.le_refl _)
  refine ⟨h1, fun x => ?_⟩
  rw [show Lib.compact xs = Lib.compactUpTo xs.toArray xs.length from rfl, h2, List.take_length, hP]
end
end Go.Proofs.Ytekngjkjgmplpaa

namespace Go.Proofs.Ytekngjkjgmplpaa
set_option linter.unusedSimpArgs false
set_option linter.unusedVariables false
open Go Go.RowKit
/-- A letter; a sign of a name. -/
def ltr (c : UInt8) : Bool := decide (97 ≤ c.toNat) && decide (c.toNat ≤ 122)
def sgn (c : UInt8) : Bool := ltr c || (decide (48 ≤ c.toNat) && decide (c.toNat ≤ 57)) || decide (c.toNat = 45)
/-- A right name. -/
def nameR : List UInt8 → Bool
  | [] => false
  | c :: s => decide (s.length + 1 ≤ 16) && ltr c && (c :: s).all sgn
end Go.Proofs.Ytekngjkjgmplpaa

namespace Go.Proofs.Ytekngjkjgmplpaa
set_option linter.unusedSimpArgs false
set_option linter.unusedVariables false
open Go Go.RowKit
theorem ba_get (l : List UInt8) (j : Nat) (h : j < (⟨l.toArray⟩ : ByteArray).size) : (⟨l.toArray⟩ : ByteArray)[j] = l[j]'(by simpa [ByteArray.size] using h) := by
  simp [ByteArray.getElem_eq_getElem_data]
set_option maxRecDepth 100000 in
set_option maxHeartbeats 1000000 in
theorem refRight_any (s : List UInt8) (W : World) (hs : s.length ≤ 1000000000) : Calls Try.prog 111 #[S s] W fun e w' => e = .returned (.bool (nameR s)) ∧ Ext W w' := by
  unfold S
  cases s with
  | nil =>
    go_enter Try.func111, Try.ntmps111
    go_wp2_with fail
    go_ret
    exact ⟨rfl, Ext.refl _⟩
  | cons c s =>
    have hsz : (⟨(c :: s).toArray⟩ : ByteArray).size = s.length + 1 := by simp [ByteArray.size]
    have hg0 : ∀ h, (⟨(c :: s).toArray⟩ : ByteArray)[0]'h = c := fun h => ba_get _ _ h
    have hlen : (c :: s).length = s.length + 1 := rfl
    have HL := Lib.hid (show nameR (c :: s) = (decide (s.length + 1 ≤ 16) && ltr c && (c :: s).all sgn) from rfl)
    by_cases h16 : s.length + 1 ≤ 16
    · by_cases hc1 : 97 ≤ c.toNat
      · by_cases hc2 : c.toNat ≤ 122
        · have hb1 : decide ((c.toNat : Int) < 97) = false := by simp; omega
          have hb2 : decide (122 < (c.toNat : Int)) = false := by simp; omega
          have HN : Hid (nameR (c :: s) = (c :: s).all sgn) := Lib.hid (by rw [HL.out]; simp [h16, ltr, hc1, hc2])
          rw [HN.out]
          generalize hA : (c :: s).all sgn = A at *
          have HA := Lib.hid hA
          clear HN HL hc1 hc2 hA
          go_enter Try.func111, Try.ntmps111
          go_wp2_with fail
          clear hb1 hb2 hg0
          generalize hS : c :: s = S at *
          clear hS
          have hA := HA.out
          subst hA
          clear HA
          go_loopw [3] (fun i wr => ∃ j : Nat, j ≤ S.length ∧ i = .int .i64 (j : Int) ∧ Hid ((S.take j).all sgn = true) ∧ Ext W wr) (fun i _ => S.length - (intOf i).toNat)
          case atStart => exact ⟨0, by omega, rfl, Lib.hid (by simp), Ext.refl _⟩
          case round =>
            obtain ⟨j, hj, rfl, HT, hx⟩ := hrel
            have HX := Lib.hid hx
            clear hx
            by_cases hjn : j < S.length
            · have hgj : ∀ h, (⟨S.toArray⟩ : ByteArray)[j]'h = S[j] := fun h => ba_get _ _ h
              have hts : S.take (j + 1) = S.take j ++ [S[j]] := (List.take_append_getElem hjn).symm
              have hall : S.all sgn = (S.take j ++ S[j] :: S.drop (j + 1)).all sgn := by rw [← List.drop_eq_getElem_cons hjn, List.take_append_drop]
              obtain ⟨x, hxj⟩ : ∃ x, S[j] = x := ⟨_, rfl⟩
              rw [hxj] at hts hall
              have hgx : ∀ h, S[j]'h = x := fun _ => hxj
              have hgy : ∀ h, (⟨S.toArray⟩ : ByteArray)[j]'h = x := fun h => (ba_get _ _ h).trans hxj
              clear hxj hgj
              have HX2 := Lib.hid (And.intro hts hall)
              clear hts hall
              have HOK : sgn x = true → Hid ((S.take (j + 1)).all sgn = true) := fun h => Lib.hid (by rw [HX2.out.1, List.all_append, HT.out]; simp [h])
              have HNO : sgn x = false → Hid (S.all sgn = false) := fun h => Lib.hid (by rw [HX2.out.2, List.all_append, List.all_cons, h]; simp)
              have hsg : sgn x = decide ((97 ≤ x.toNat ∧ x.toNat ≤ 122) ∨ (48 ≤ x.toNat ∧ x.toNat ≤ 57) ∨ x.toNat = 45) := by unfold sgn ltr; simp [Bool.or_assoc]
              have H3 := Lib.hid (And.intro HOK (And.intro HNO hsg))
              clear HOK HNO hsg HX2 HT
              go_wp2_with fail
              all_goals (try simp only [bne_eq_false_iff_eq, bne_iff_ne, ne_eq] at *)
              all_goals first
                | exact ⟨⟨j + 1, by omega, by go_num, H3.out.1 (by rw [H3.out.2.2]; simp; omega), HX.out⟩, by simp [intOf]; omega⟩
                | (go_ret; exact ⟨by rw [(H3.out.2.1 (by rw [H3.out.2.2]; simp; omega)).out]; rfl, HX.out⟩)
            · obtain rfl : j = S.length := by omega
              have e : S.all sgn = true := by have := HT.out; rwa [List.take_length] at this
              have HE := Lib.hid e
              clear e
              go_wp2_with fail
              go_ret
              exact ⟨by rw [HE.out]; rfl, HX.out⟩
        · have hb1 : decide ((c.toNat : Int) < 97) = false := by simp; omega
          have hb2 : decide (122 < (c.toNat : Int)) = true := by simp; omega
          have HN : Hid (nameR (c :: s) = false) := Lib.hid (by rw [HL.out]; simp [ltr, hc2])
          clear HL hc1 hc2
          go_enter Try.func111, Try.ntmps111
          go_wp2_with fail
          go_ret
          exact ⟨by rw [HN.out]; rfl, Ext.refl _⟩
      · have hb1 : decide ((c.toNat : Int) < 97) = true := by simp; omega
        have HN : Hid (nameR (c :: s) = false) := Lib.hid (by rw [HL.out]; simp [ltr, hc1])
        clear HL hc1
        go_enter Try.func111, Try.ntmps111
        go_wp2_with fail
        go_ret
        exact ⟨by rw [HN.out]; rfl, Ext.refl _⟩
    · have HN : Hid (nameR (c :: s) = false) := Lib.hid (by rw [HL.out]; simp [h16])
      clear HL
      go_enter Try.func111, Try.ntmps111
      go_wp2_with fail
      go_ret
      exact ⟨by rw [HN.out]; rfl, Ext.refl _⟩
def sameL {α : Type} [DecidableEq α] (a b : List α) : Bool := decide (a = b)
end Go.Proofs.Ytekngjkjgmplpaa

namespace Go.Proofs.Ytekngjkjgmplpaa
set_option linter.unusedSimpArgs false
set_option linter.unusedVariables false
open Go Go.RowKit
def strLt (x y : List UInt8) : Bool := Op.bytesLess x y
theorem strLt_eq (x y : List UInt8) : strLt x y = decide (x < y) := bytesLess_eq x y
theorem strOrd (P : List UInt8 → Bool) : SOrd strLt P where
  irr x := by rw [strLt_eq]; simp [List.lt_irrefl]
  tr x y z h1 h2 := by simp only [strLt_eq, decide_eq_true_eq] at *; exact List.lt_trans h1 h2
  tri x y _ _ := by
    simp only [strLt_eq, decide_eq_true_eq]
    rcases Decidable.em (x < y) with h | h
    · exact .inl h
    · rcases Decidable.em (y < x) with h' | h'
      · exact .inr (.inr h')
      · exact .inr (.inl (List.le_antisymm (List.not_lt.1 h') (List.not_lt.1 h)))
theorem strLt_asymm {x y : List UInt8} (h : strLt x y = true) : Op.bytesLess y x = false ∧ (y == x) = false := by
  constructor
  · cases hq : Op.bytesLess y x with
    | false => rfl
    | true => have := (strOrd (fun _ => true)).tr _ _ _ h hq; rw [(strOrd (fun _ => true)).irr] at this; cases this
  · cases hq : (y == x) with
    | false => rfl
    | true => have e : y = x := by simpa using hq
              rw [e, (strOrd (fun _ => true)).irr] at h; cases h
theorem strLt_not {x y : List UInt8} (h : strLt x y = false) : Op.bytesLess y x = true ∨ y = x := by
  rcases (strOrd (fun _ => true)).tri x y rfl rfl with q | q | q
  · rw [q] at h; cases h
  · exact .inr q.symm
  · exact .inl q
theorem strInfo : ∃ i, Try.prog.info? 9 = some i ∧ i.zero = some (S []) ∧ i.size = 1 ∧ i.bytes = 16 := info_parts (by kernel_rfl)
theorem str_get (l : List (List UInt8)) (j : Nat) : (cellsL l)[j]? = (l[j]?).map S := by
  induction l generalizing j with
  | nil => simp [cellsL]
  | cons x l ih => cases j with
    | zero => simp [cellsL, Flt.cells]
    | succ j => have := ih j; rw [cellsL_cons]; simpa [Flt.cells] using this
theorem str_snoc (l : List (List UInt8)) (x : List UInt8) : (cellsL (l ++ [x]))[l.length]? = some (S x) := by rw [str_get]; simp
theorem nameR_nil : nameR [] = false := rfl
end Go.Proofs.Ytekngjkjgmplpaa

namespace Go.Proofs.Ytekngjkjgmplpaa
set_option linter.unusedSimpArgs false
set_option linter.unusedVariables false
open Go Go.RowKit Go.Sort Go.Lib
theorem str_map (l : List (List UInt8)) : cellsL l = l.map encStr := by
  apply List.ext_getElem?
  intro j
  rw [str_get, List.getElem?_map]; rfl
section
variable {fr al : Nat → Prop} {w0 w : World} {L : List It}
theorem strLen {n : Nat} {v : Value} {E : TypeId} {xs : List (List UInt8)} (h : w.ownsRow 0 E 1 v n (cellsL xs)) : n = xs.length := by
  have := h.1
  rw [cellsL_len] at this
  simpa [fltStr_k] using this.symm
theorem sortStr_c (st : Own fr al w0 L w) (i : Nat) {n c : Nat} {a : Option Addr} {xs : List (List UInt8)} (hi : L[i]? = some (rowI 9 1 (.slice a n c) n (cellsL xs))) (hn : n ≤ 2000000) :
    Calls Try.prog 253 #[.slice a n c] w fun e w' => e = .returned (.tuple #[]) ∧ Own fr al w0 (L.set i (rowI 9 1 (.slice a n c) n (cellsL (xs.mergeSort fun x y => decide (x ≤ y))))) w' := by
  have hrow := st.row hi
  have hnx := strLen hrow
  rcases hrow.2 with ⟨h1, h2⟩ | ⟨g, cap, cur, h1, hb, hg, hcap, hm, hs, ht⟩
  · cases h1
    have : xs = [] := List.eq_nil_of_length_eq_zero hnx.symm
    subst this
    refine (Try.slices_Sort_string_none none 0 w).mono ?_
    rintro e w' ⟨rfl, rfl⟩
    refine ⟨rfl, ?_⟩
    have : L.set i (rowI 9 1 (.slice none 0 0) 0 (cellsL (([] : List (List UInt8)).mergeSort fun x y => decide (x ≤ y)))) = L := by
      apply List.ext_getElem?
      intro q
      rw [List.getElem?_set]
      split
      · rename_i h; subst h; rw [hi, if_pos (get_lt hi), List.mergeSort_nil]
      · rfl
    rw [this]; exact st
  · cases h1
    subst hnx
    rw [Nat.mul_one, str_map] at ht
    refine (Try.slices_Sort_string g 0 c xs w (holds_of_block hg (by simpa using ht)) (Array.getElem?_eq_some_iff.1 hg).1 (by omega)).mono ?_
    rintro e w' ⟨rfl, m, os, rfl⟩
    refine ⟨rfl, st.upd hi fun e s ⟨q1, q2⟩ q3 q4 => ⟨e, s, ⟨?_, q2⟩, fun b hb => ⟨Nat.lt_of_lt_of_le (q3 b (.inl hb)) (grownBy_sorted _).size, .inl hb⟩, fun b hb => ⟨Nat.lt_of_lt_of_le (q3 b (.inr hb)) (grownBy_sorted _).size, .inr (.inl hb)⟩, q4, MutO.grown (MutO.refl _ _) ⟨grownBy_sorted _, Nat.le_add_right _ _⟩ fun k hk _ => ?_⟩⟩
    · rw [str_map]
      exact ownsRow_sorted (by simp) (Nat.zero_le _) hg hcap hm hs
    · cases hk; exact q2 g rfl
end
theorem fl_bytes {W : World} {a : Option Addr} {n : Nat} {l : List (List UInt8)} (h : Fl W a n l) (h0 : 0 < n) : ∃ b off, a = some ⟨b, off, none⟩ ∧ ∀ j, j < (l.map fun s => (⟨s.toArray⟩ : ByteArray)).length → W.cell? ⟨b, off + j, none⟩ = some (.string ((l.map fun s => (⟨s.toArray⟩ : ByteArray)).getD j ByteArray.empty)) := by
  obtain ⟨b, off, rfl, hc⟩ := h.str h0
  refine ⟨b, off, rfl, fun j hj => ?_⟩
  simp only [List.length_map] at hj
  rw [hc j _ (List.getElem?_eq_getElem hj)]
  simp [List.getD, hj, S]
theorem ba_inj {s t : List UInt8} (h : (⟨s.toArray⟩ : ByteArray) = ⟨t.toArray⟩) : s = t := by
  injection h with h
  have := congrArg Array.toList h
  simpa using this
/-- The set of the names of a list. -/
theorem sorted_set (l : List (List UInt8)) (P : List UInt8 → Bool) : SSet strLt P l (compact ((l.filter P).mergeSort fun x y => decide (x ≤ y))) := by
  refine compact_set (strOrd P) _ l (fun x => ?_) ?_
  · rw [List.mem_mergeSort, List.mem_filter]
  · have h1 := List.pairwise_mergeSort (le := fun x y : List UInt8 => decide (x ≤ y)) (fun a b c h1 h2 => by simp at *; exact List.le_trans h1 h2) (fun a b => by simp; exact List.le_total a b) (l.filter P)
    refine h1.imp fun {a b} h => ?_
    rw [strLt_eq]
    simpa [List.not_lt] using h
end Go.Proofs.Ytekngjkjgmplpaa

namespace Go.Proofs.Ytekngjkjgmplpaa
set_option linter.unusedSimpArgs false
set_option linter.unusedVariables false
open Go Go.RowKit
def lettersB : List UInt8 := [97, 98, 99, 100, 101, 102, 103, 104, 105, 106, 107, 108, 109, 110, 111, 112, 113, 114, 115, 116, 117, 118, 119, 120, 121, 122]
def signsB : List UInt8 := lettersB ++ [48, 49, 50, 51, 52, 53, 54, 55, 56, 57, 45]
theorem ix_letters : ∀ n : Nat, n < 256 → (decide (0 ≤ Lib.indexByte lettersB n.toUInt8)) = ltr n.toUInt8 := by decide +kernel
theorem ix_signs : ∀ n : Nat, n < 256 → (decide (Lib.indexByte signsB n.toUInt8 < 0)) = !sgn n.toUInt8 := by decide +kernel
theorem ix_letter (c : UInt8) : (decide (0 ≤ Lib.indexByte lettersB c)) = ltr c := by
  have := ix_letters c.toNat c.toNat_lt
  simpa using this
theorem ix_sign (c : UInt8) : (decide (Lib.indexByte signsB c < 0)) = !sgn c := by
  have := ix_signs c.toNat c.toNat_lt
  simpa using this
theorem signIx (c : UInt8) (w : World) : Calls Try.prog 192 #[.string ⟨signsB.toArray⟩, .int .u8 (c.toNat : Int)] w fun e w' => ∃ v : Int, e = .returned (.int .i64 v) ∧ decide (v < 0) = !sgn c ∧ w = w' :=
  (Try.strings_IndexByte ⟨signsB.toArray⟩ _ w).mono fun e w' ⟨h1, h2⟩ => ⟨_, h1, by simpa using ix_sign c, h2.symm⟩
theorem letterIx (c : UInt8) (w : World) : Calls Try.prog 192 #[.string ⟨lettersB.toArray⟩, .int .u8 (c.toNat : Int)] w fun e w' => ∃ v : Int, e = .returned (.int .i64 v) ∧ decide (0 ≤ v) = ltr c ∧ w = w' :=
  (Try.strings_IndexByte ⟨lettersB.toArray⟩ _ w).mono fun e w' ⟨h1, h2⟩ => ⟨_, h1, by simpa using ix_letter c, h2.symm⟩
set_option maxRecDepth 100000 in
set_option maxHeartbeats 1000000 in
theorem only_any (s : List UInt8) (W : World) (hs : s.length ≤ 100000) : Calls Try.prog 193 #[S s] W fun e w' => e = .returned (.bool (s.all sgn)) ∧ Ext W w' := by
  have st := Own.startOld W
  unfold S
  (try simp only [nsl, Value.cells, unB] at st)
  (try clear hc); have hc := st.facts; (try simp only [nfl, nft, Nat.reduceAdd] at hc)
  go_enter Try.func193, Try.ntmps193
  go_wp2_with ((((with_reducible refine wl_convert ?_ (fun K hK => ?_)); rfl; refine owp_sb (o := ⟨some 6, _, _, _, _, _⟩) rfl st rfl Try.underlying9 Try.underlying33 Try.underlying5 ?_ ?_; (simp only [maxLen]; omega); (clear st; intro A6 c6 w hc6 st))); (try simp only [nsl, Value.cells, unB] at st); (try clear hc); have hc := st.facts; (try simp only [nfl, nft, Nat.reduceAdd] at hc))
  go_loopw [8] (fun i wr => ∃ j : Nat, j ≤ s.length ∧ i = .int .i64 (j : Int) ∧ Hid ((s.take j).all sgn = true) ∧ Own (fun _ => False) (fun _ => True) W [oldI W, byI A6 s.length s] wr) (fun i _ => s.length - (intOf i).toNat)
  case atStart => exact ⟨0, by omega, rfl, Lib.hid (by simp), st⟩
  case round =>
    obtain ⟨j, hj, rfl, HT, st'⟩ := hrel
    clear st hc
    have st := st'
    clear st'
    by_cases hjn : j < s.length
    · obtain ⟨b, off, ha, hq, hjl, hcell⟩ := (st.by (i := 1) get1).at hjn
      clear hq
      subst ha
      have hts : s.take (j + 1) = s.take j ++ [s[j]] := (List.take_append_getElem hjl).symm
      have hall : s.all sgn = (s.take j ++ s[j] :: s.drop (j + 1)).all sgn := by rw [← List.drop_eq_getElem_cons hjl, List.take_append_drop]
      generalize s[j] = x at *
      have HX := Lib.hid (And.intro hts hall)
      have hix := ix_sign x
      clear hts hall
      go_wp2_with fail
      refine (signIx x _).mono ?_
      rintro en w' ⟨v, rfl, hv, rfl⟩
      clear hix
      by_cases hsx : sgn x = true
      · have hv0 : decide (v < 0) = false := by rw [hv, hsx]; rfl
        have hv1 : ¬ v < 0 := by simpa using hv0
        clear hv
        go_wp2_with fail
        exact ⟨⟨j + 1, by omega, by go_num, Lib.hid (by rw [HX.out.1, List.all_append, HT.out]; simp [hsx]), st⟩, by simp [intOf]; omega⟩
      · have hsx' : sgn x = false := by simpa using hsx
        have hv0 : decide (v < 0) = true := by rw [hv, hsx']; rfl
        have hv1 : v < 0 := by simpa using hv0
        clear hv
        have HF : Hid (s.all sgn = false) := Lib.hid (by rw [HX.out.2, List.all_append, List.all_cons, hsx']; simp)
        go_wp2_with fail
        go_ret
        exact ⟨by rw [HF.out]; rfl, st.ext0⟩
    · obtain rfl : j = s.length := by omega
      have e : s.all sgn = true := by have := HT.out; rwa [List.take_length] at this
      have HE := Lib.hid e
      clear e
      go_wp2_with fail
      go_ret
      exact ⟨by rw [HE.out]; rfl, st.ext0⟩
set_option maxRecDepth 100000 in
set_option maxHeartbeats 1000000 in
theorem right_any (s : List UInt8) (W : World) (hs : s.length ≤ 100000) : Calls Try.prog 148 #[S s] W fun e w' => e = .returned (.bool (nameR s)) ∧ Ext W w' := by
  unfold S
  cases s with
  | nil =>
    go_enter Try.func148, Try.ntmps148
    go_wp2_with fail
    go_ret
    exact ⟨rfl, Ext.refl _⟩
  | cons c s =>
    have hsz : (⟨(c :: s).toArray⟩ : ByteArray).size = s.length + 1 := by simp [ByteArray.size]
    have hg0 : (⟨(c :: s).toArray⟩ : ByteArray)[0]? = some c := rfl
    simp only [List.length_cons] at hs
    by_cases h16 : s.length + 1 ≤ 16
    · skip
      go_enter Try.func148, Try.ntmps148
      go_wp2_with fail
      refine (letterIx c W).mono ?_
      rintro en w' ⟨v, rfl, hv, rfl⟩
      by_cases hl : ltr c = true
      · have hv0 : decide (0 ≤ v) = true := by rw [hv, hl]
        have hv1 : 0 ≤ v := by simpa using hv0
        clear hv
        go_wp2_with fail
        refine (only_any (c :: s) W (by simp; omega)).mono ?_
        rintro en w ⟨rfl, hx⟩
        have HX := Lib.hid hx
        clear hx
        have HN : Hid (nameR (c :: s) = (c :: s).all sgn) := Lib.hid (by unfold nameR; simp [h16, hl])
        generalize (c :: s).all sgn = q at *
        go_wp2_with fail
        go_ret
        exact ⟨by rw [HN.out]; rfl, HX.out⟩
      · have hl' : ltr c = false := by simpa using hl
        have hv0 : decide (0 ≤ v) = false := by rw [hv, hl']
        have hv1 : ¬ 0 ≤ v := by simpa using hv0
        have HN : Hid (nameR (c :: s) = false) := Lib.hid (by unfold nameR; simp [hl'])
        clear hv
        go_wp2_with fail
        go_ret
        exact ⟨by rw [HN.out]; rfl, Ext.refl _⟩
    · skip
      go_enter Try.func148, Try.ntmps148
      have HN : Hid (nameR (c :: s) = false) := Lib.hid (by unfold nameR; simp [h16])
      go_wp2_with fail
      go_ret
      exact ⟨by rw [HN.out]; rfl, Ext.refl _⟩
end Go.Proofs.Ytekngjkjgmplpaa

namespace Go.Proofs.Ytekngjkjgmplpaa
set_option linter.unusedSimpArgs false
set_option linter.unusedVariables false
open Go Go.RowKit
/-- The set of the right names of a list. -/
@[irreducible] def nameSet (l : List (List UInt8)) : List (List UInt8) := Lib.compact ((l.filter nameR).mergeSort fun x y => decide (x ≤ y))
theorem nameSet_eq (l : List (List UInt8)) : nameSet l = Lib.compact ((l.filter nameR).mergeSort fun x y => decide (x ≤ y)) := by unfold nameSet; rfl
theorem nameSet_set (l : List (List UInt8)) : SSet strLt nameR l (nameSet l) := by rw [nameSet_eq]; exact sorted_set l nameR
theorem nameSet_len (l : List (List UInt8)) : (nameSet l).length ≤ l.length := (nameSet_set l).len (strOrd nameR).irr
/-- A new slice of strings. -/
def NewStr (W w' : World) (a : Option Addr) (c : Nat) (xs : List (List UInt8)) : Prop := FreshI W w' (rowI 9 1 (.slice a xs.length c) xs.length (cellsL xs))
theorem NewStr.fl {W w' : World} {a : Option Addr} {c : Nat} {xs : List (List UInt8)} (h : NewStr W w' a c xs) : (xs.length ≤ c ∧ c ≤ maxLen) ∧ Fl w' a xs.length xs := FreshI.fl h
end Go.Proofs.Ytekngjkjgmplpaa

namespace Go.Proofs.Ytekngjkjgmplpaa
set_option linter.unusedSimpArgs false
set_option linter.unusedVariables false
open Go Go.RowKit
/-- A slice of slices. -/
def slsR {α : Type} [Flt α] : World → Nat → Nat → List α → Prop := fun w b o x => ∃ a n c, w.cell? ⟨b, o, none⟩ = some (.slice a n c) ∧ Fl w a n x
theorem wl_appendz {P : Program} {Q : Exit → Act → World → Prop} {a : Act} {w : World} {ops : Array Oper} {rest : List Oper} {d : Option Tmp} {s x : Operand} {t u : TypeId} {ty : TypeId} {pos : String} {af : Array Edge} {gd : Option (Nat × Bool)} (hg : Region.wanted ⟨d, .call { callee := .builtin .append, args := #[s, x], argTypes := #[t, u] }, ty, pos, af, gd⟩ (yielded ops a.tmps) = true)
    (h : ∀ K : Act → World → Prop, (∀ a w, wpList P ops Q rest a w → K a w) → Oper.wp P ⟨d, .call { callee := .builtin .append, args := #[s, x], argTypes := #[t, u] }, ty, pos, af, gd⟩ a w K Q) : wpList P ops Q (⟨d, .call { callee := .builtin .append, args := #[s, x], argTypes := #[t, u] }, ty, pos, af, gd⟩ :: rest) a w := wpl_at hg h
theorem owp_appendz {P : Program} {o : Oper} {a : Act} {w w' : World} {K : Act → World → Prop} {Q : Exit → Act → World → Prop} {s x : Operand} {t u : TypeId} {v1 v2 v : Value} (ho : o.op = .call { callee := .builtin .append, args := #[s, x], argTypes := #[t, u] }) (h1 : a.eval s = v1) (h2 : a.eval x = v2)
    (hr : (Builtin.append_ #[t, u] o.type #[v1, v2]).run P w = .ok v w') (h : K (a.put o.dst v) w') : o.wp P a w K Q :=
  owp_run (v := v) (w' := w') (by simp [execOp, ho, resolve, invoke, builtin, h1, h2, hr, Result.andThen]) h
def lenSum {α : Type} (ls : List (List α)) : Nat := (ls.map List.length).sum
theorem lenSum_snoc {α : Type} (ls : List (List α)) (l : List α) : lenSum (ls ++ [l]) = lenSum ls + l.length := by simp [lenSum]
theorem lenSum_le {α : Type} : ∀ (ls : List (List α)) (j : Nat), lenSum (ls.take j) ≤ lenSum ls
  | [], j => by simp [lenSum]
  | l :: ls, 0 => by simp [lenSum]
  | l :: ls, j + 1 => by have := lenSum_le ls j; simp [lenSum] at *; omega
instance slsR_stb {α : Type} [Flt α] : Stb (slsR (α := α)) := ⟨fun _ _ _ _ _ hx ⟨a, n, c, h1, h2⟩ => ⟨a, n, c, hx.cell h1, h2.ext hx⟩⟩
end Go.Proofs.Ytekngjkjgmplpaa

namespace Go.Proofs.Ytekngjkjgmplpaa
set_option linter.unusedSimpArgs false
set_option linter.unusedVariables false
open Go Go.RowKit
theorem wl_clear {P : Program} {Q : Exit → Act → World → Prop} {a : Act} {w : World} {ops : Array Oper} {rest : List Oper} {d : Option Tmp} {x : Operand} {t : TypeId} {ty : TypeId} {pos : String} {af : Array Edge} {gd : Option (Nat × Bool)} (hg : Region.wanted ⟨d, .call { callee := .builtin .clear, args := #[x], argTypes := #[t] }, ty, pos, af, gd⟩ (yielded ops a.tmps) = true)
    (h : ∀ K : Act → World → Prop, (∀ a w, wpList P ops Q rest a w → K a w) → Oper.wp P ⟨d, .call { callee := .builtin .clear, args := #[x], argTypes := #[t] }, ty, pos, af, gd⟩ a w K Q) : wpList P ops Q (⟨d, .call { callee := .builtin .clear, args := #[x], argTypes := #[t] }, ty, pos, af, gd⟩ :: rest) a w := wpl_at hg h
/-- Where the first one is that p lets. -/
def IxIs {α : Type} (p : α → Bool) (xs : List α) (v : Int) : Prop := (v = -1 ∧ ∀ x ∈ xs, p x = false) ∨ ∃ (j : Nat) (y : α), v = (j : Int) ∧ j < xs.length ∧ xs[j]? = some y ∧ p y = true ∧ ∀ x ∈ xs.take j, p x = false
end Go.Proofs.Ytekngjkjgmplpaa

namespace Go.Proofs.Ytekngjkjgmplpaa
set_option linter.unusedSimpArgs false
set_option linter.unusedVariables false
open Go Go.RowKit
/-- What both have. -/
def nameBoth (l l' : List (List UInt8)) : List (List UInt8) := (nameSet l).filter fun x => decide (x ∈ l')
end Go.Proofs.Ytekngjkjgmplpaa

namespace Go.Proofs.Ytekngjkjgmplpaa
set_option linter.unusedSimpArgs false
set_option linter.unusedVariables false
open Go Go.RowKit
theorem nameR_len {s : List UInt8} (h : nameR s = true) : 1 ≤ s.length ∧ s.length ≤ 16 := by
  cases s with
  | nil => simp [nameR] at h
  | cons c s => simp [nameR] at h; simp; omega
set_option maxRecDepth 100000 in
set_option maxHeartbeats 1000000 in
theorem namePut_yes {fr al : Nat → Prop} {w : World} {p : Nat} {xs : List UInt8} (st : Own fr al w [penI p xs] w) (s : List UInt8) (hr : nameR s = true) (hl : xs.length ≤ 10000000) :
    Calls Try.prog 120 #[.pointer (some ⟨p, 0, none⟩), S s] w fun e w' => e = .returned (.bool true) ∧ Own fr al w [penI p (xs ++ (numB s.length ++ s))] w' := by
  have hsl := nameR_len hr
  have HR := Lib.hid hr
  clear hr
  unfold S
  go_enter Try.func120, Try.ntmps120
  go_wp2_with fail
  refine (right_any s _ (by omega)).mono ?_
  rintro en w ⟨rfl, hx⟩
  replace st := st.ext hx
  clear hx
  (try clear hc); have hc := st.facts; (try simp only [nfl, nft, Nat.reduceAdd] at hc)
  rw [HR.out]
  go_wp2_with ((((with_reducible refine wl_convert ?_ (fun K hK => ?_)); rfl; refine owp_sb (o := ⟨some 14, _, _, _, _, _⟩) rfl st rfl Try.underlying9 Try.underlying33 Try.underlying5 ?_ ?_; (simp only [maxLen]; omega); (clear st; intro A14 c14 w hc14 st))); (try simp only [nsl, Value.cells, unB] at st); (try clear hc); have hc := st.facts; (try simp only [nfl, nft, Nat.reduceAdd] at hc))
  obtain ⟨fr', al', st', back⟩ := st.sub [0, 1] (by decide) (by simp)
  (try simp only [nsl, Value.cells, unB] at st')
  refine (penText_c st' (by omega) (by omega)).mono ?_
  clear st'
  rintro en w ⟨rfl, st'⟩
  replace st := back _ _ (by simp) st'
  clear back st'
  (try simp only [nsl, Value.cells, unB] at st)
  (try clear hc); have hc := st.facts; (try simp only [nfl, nft, Nat.reduceAdd] at hc)
  go_wp2_with fail
  go_ret
  have st' := st.keep [0] (by decide) (by simp)
  exact ⟨rfl, by simpa [pick] using st'⟩
set_option maxRecDepth 100000 in
set_option maxHeartbeats 1000000 in
theorem namePut_no (p : Option Addr) (s : List UInt8) (w : World) (h : p = none ∨ nameR s = false) (hs : s.length ≤ 100000) :
    Calls Try.prog 120 #[.pointer p, S s] w fun e w' => e = .returned (.bool false) ∧ Ext w w' := by
  unfold S
  cases p with
  | none =>
    go_enter Try.func120, Try.ntmps120
    go_wp2_with fail
    go_ret
    exact ⟨rfl, Ext.refl _⟩
  | some ad =>
    have hr : nameR s = false := by rcases h with h | h; cases h; exact h
    have HR := Lib.hid hr
    clear hr h
    go_enter Try.func120, Try.ntmps120
    go_wp2_with fail
    refine (right_any s _ hs).mono ?_
    rintro en w' ⟨rfl, hx⟩
    rw [HR.out]
    have HX := Lib.hid hx
    clear hx
    go_wp2_with fail
    go_ret
    exact ⟨rfl, HX.out⟩
/-- The next name. -/
def rdName (xs : List UInt8) : Except Int (List UInt8 × List UInt8) := match rdText 16 xs with
  | .error e => .error e
  | .ok (s, ys) => if nameR s = true then .ok (s, ys) else .error 30
theorem Own.rdAny {fr al : Nat → Prop} {w0 w : World} {L : List It} (st : Own fr al w0 L w) {i r : Nat} {xs : List UInt8} (hi : L[i]? = some (rdI r xs)) : Own fr al w0 (L.set i (rdAnyI r)) w :=
  st.conv hi fun e s h h3 => ⟨e, s, ⟨h.1, h.2.any⟩, fun _ q => q, fun _ q => .inr q, h3⟩
theorem rdNum_lt {xs : List UInt8} {n : Nat} {ys : List UInt8} (h : rdNum xs = .ok (n, ys)) : ys.length < xs.length := (rdNum_spec h).2
theorem rdText_le {most : Int} {xs bs ys : List UInt8} (h : rdText most xs = .ok (bs, ys)) : bs.length ≤ xs.length ∧ ys.length ≤ xs.length ∧ (bs.length : Int) ≤ most := by
  unfold rdText at h
  cases hr : rdNum xs with
  | error e' => rw [hr] at h; simp at h
  | ok p =>
    obtain ⟨n, zs⟩ := p
    rw [hr] at h
    simp only at h
    have := rdNum_lt hr
    split at h
    · simp at h
    · split at h
      · simp at h
      · simp at h
        obtain ⟨rfl, rfl⟩ := h
        simp
        omega
set_option maxRecDepth 100000 in
set_option maxHeartbeats 1000000 in
theorem nameGet_c {fr al : Nat → Prop} {w : World} {r : Nat} {xs : List UInt8} (st : Own fr al w [rdI r xs] w) (hl : xs.length ≤ 100000) :
    Calls Try.prog 125 #[.pointer (some ⟨r, 0, none⟩)] w (RdC fr al w r (rdName xs) fun s v M => v = S s ∧ M = []) := by
  go_enter Try.func125, Try.ntmps125
  go_wp2_with fail
  have HN : Hid (rdName xs = match rdText 16 xs with | .error e => .error e | .ok (s, ys) => if nameR s = true then .ok (s, ys) else .error 30) := Lib.hid rfl
  obtain ⟨fr', al', st', back⟩ := st.sub [0] (by decide) (by simp)
  (try simp only [nsl, Value.cells, unB] at st')
  refine (text_c st' 16 (by omega)).mono ?_
  clear st'
  intro en w hen
  unfold RdC at hen
  cases hr : rdText 16 xs with
  | error e =>
    rw [hr] at hen
    obtain ⟨rfl, st'⟩ := hen
    replace st := back _ _ (by simp) st'
    clear back st'
    (try simp only [nsl, Value.cells, unB] at st)
    (try clear hc); have hc := st.facts; (try simp only [nfl, nft, Nat.reduceAdd] at hc)
    have e1 : rdName xs = .error e := by rw [HN.out, hr]
    have H1 := Lib.hid e1
    clear e1 hr
    go_wp2_with fail
    refine ⟨rfl, ?_⟩
    unfold RdC
    rw [H1.out]
    exact ⟨rfl, st⟩
  | ok p =>
    obtain ⟨s, ys⟩ := p
    rw [hr] at hen
    obtain ⟨v, M, rfl, ⟨a', c', rfl, hc1, rfl⟩, st'⟩ := hen
    replace st := back _ _ (by simp) st'
    clear back st'
    (try simp only [nsl, Value.cells, unB] at st)
    (try clear hc); have hc := st.facts; (try simp only [nfl, nft, Nat.reduceAdd] at hc)
    have hle := rdText_le hr
    have HR := Lib.hid hr
    clear hr
    go_wp2_with ((((with_reducible refine wl_convert ?_ (fun K hK => ?_)); rfl; (first | (refine owp_bs (o := ⟨some 8, _, _, _, _, _⟩) rfl st 1 get1 rfl Try.underlying33 Try.underlying5 Try.underlying9 ?_)))); (try simp only [nsl, Value.cells, unB] at st); (try clear hc); have hc := st.facts; (try simp only [nfl, nft, Nat.reduceAdd] at hc))
    refine (right_any s _ (by omega)).mono ?_
    rintro en w ⟨rfl, hx⟩
    replace st := st.ext hx
    clear hx
    (try clear hc); have hc := st.facts; (try simp only [nfl, nft, Nat.reduceAdd] at hc)
    by_cases hn : nameR s = true
    · have e1 : rdName xs = .ok (s, ys) := by rw [HN.out, HR.out]; simp [hn]
      have H1 := Lib.hid (And.intro hn e1)
      clear e1 hn
      rw [H1.out.1]
      go_wp2_with fail
      go_ret
      unfold RdC
      rw [H1.out.2]
      have st' := st.keep [0] (by decide) (by simp)
      exact ⟨_, [], rfl, ⟨rfl, rfl⟩, by simpa [pick] using st'⟩
    · have hn' : nameR s = false := by simpa using hn
      have e1 : rdName xs = .error 30 := by rw [HN.out, HR.out]; simp [hn']
      have H1 := Lib.hid (And.intro hn' e1)
      clear e1 hn hn'
      rw [H1.out.1]
      obtain ⟨_, sq, ⟨_, hrd⟩, _⟩ := st.get (i := 0) (I := rdI r ys) get0
      go_wp2_with fail
      refine (fail_any _ r 30 hrd.any (by decide)).mono ?_
      rintro en w' ⟨rfl, rfl⟩
      go_wp2_with fail
      refine ⟨rfl, ?_⟩
      unfold RdC
      rw [H1.out.2]
      have st' := (st.rdAny (i := 0) get0).keep [0] (by decide) (by simp)
      exact ⟨rfl, by simpa [pick] using st'⟩
end Go.Proofs.Ytekngjkjgmplpaa

namespace Go.Proofs.Ytekngjkjgmplpaa
set_option linter.unusedSimpArgs false
set_option linter.unusedVariables false
open Go Go.RowKit
theorem rdText_len {most : Int} {xs : List UInt8} {bs ys : List UInt8} (h : rdText most xs = .ok (bs, ys)) : bs.length ≤ xs.length ∧ ys.length ≤ xs.length := ⟨(rdText_le h).1, (rdText_le h).2.1⟩
set_option maxRecDepth 100000 in
set_option maxHeartbeats 1000000 in
theorem refGetName_m {fr al : Nat → Prop} {w : World} {t : Nat} {res : Except Int (List UInt8)} (st : Own fr al w [refI t res] w) (hl : ∀ xs, res = .ok xs → xs.length ≤ 1000000) :
    Calls Try.prog 128 #[.pointer (some ⟨t, 0, none⟩)] w (RefC fr al w t (bnd res rdName) (S []) fun s => S s) := by
  go_enter Try.func128, Try.ntmps128
  go_wp2_with fail
  obtain ⟨fr', al', st', back⟩ := st.sub [0] (by decide) (by simp)
  (try simp only [nsl, Value.cells, unB] at st')
  refine (refText_m st' 16 (fun xs hx => by have := hl xs hx; omega)).mono ?_
  clear st'
  intro en w hen
  unfold RefC at hen
  cases hr : bnd res (rdText 16) with
  | error e =>
    rw [hr] at hen
    obtain ⟨rfl, st'⟩ := hen
    replace st := back _ _ (by simp) st'
    clear back st'
    (try simp only [nsl, Value.cells, unB] at st)
    (try clear hc); have hc := st.facts; (try simp only [nfl, nft, Nat.reduceAdd] at hc)
    obtain ⟨xs, he, st1⟩ := st.refErr (i := 0) get0
    have hb := st1.blk (i := 0) (b := t) (vs := [S xs, .int .i64 e]) rfl
    have r1 := hb.cell 1
    simp only [List.getElem?_cons_succ, List.getElem?_cons_zero] at r1
    have hne : (e != 0) = true := by simpa using he
    have hne2 : (e == 0) = false := by simpa using he
    have HE : Hid (bnd res rdName = .error e) := Lib.hid (by
      cases res with
      | error e' => simpa [bnd] using hr
      | ok xs => simp only [bnd] at hr ⊢; unfold rdName; rw [hr])
    clear hr hb st1
    unfold S
    go_wp2_with fail
    go_ret
    unfold RefC
    rw [HE.out]
    exact ⟨rfl, st⟩
  | ok p =>
    obtain ⟨s, ys⟩ := p
    rw [hr] at hen
    obtain ⟨rfl, st'⟩ := hen
    replace st := back _ _ (by simp) st'
    clear back st'
    (try simp only [nsl, Value.cells, unB] at st)
    (try clear hc); have hc := st.facts; (try simp only [nfl, nft, Nat.reduceAdd] at hc)
    obtain ⟨xs, hres⟩ : ∃ xs, res = .ok xs := by
      cases res with
      | error e => simp [bnd] at hr
      | ok xs => exact ⟨xs, rfl⟩
    subst hres
    simp only [bnd] at hr ⊢
    have hle := rdText_len hr
    have hxl := hl xs rfl
    have HR := Lib.hid hr
    replace st := st.refOk (i := 0) get0
    clear hr
    (try simp only [nsl, Value.cells, unB] at st)
    (try clear hc); have hc := st.facts; (try simp only [nfl, nft, Nat.reduceAdd] at hc)
    unfold S
    go_wp2_with fail
    refine (refRight_any s _ (by omega)).mono ?_
    rintro en w ⟨rfl, hx⟩
    replace st := st.ext hx
    clear hx
    (try clear hc); have hc := st.facts; (try simp only [nfl, nft, Nat.reduceAdd] at hc)
    by_cases hn : nameR s = true
    · have HE : Hid (rdName xs = .ok (s, ys)) := Lib.hid (by unfold rdName; rw [HR.out]; simp [hn])
      rw [hn]
      clear hn
      go_wp2_with ((((with_reducible refine wl_store ?_ (fun K hK => ?_)); rfl; refine owp_store rfl st ?_; apply Exists.intro; apply Exists.intro; refine ⟨?_, ?_, ?_⟩; (focus (go_simp; try rfl)); (focus (go_simp; try rfl)); (first | (with_reducible refine ⟨0, _, _, _, _, get0, rfl, rfl, ?_, ?_, ?_, ?_⟩) | (with_reducible refine ⟨1, _, _, _, _, get1, rfl, rfl, ?_, ?_, ?_, ?_⟩) | (with_reducible refine ⟨2, _, _, _, _, get2, rfl, rfl, ?_, ?_, ?_, ?_⟩) | (with_reducible refine ⟨3, _, _, _, _, get3, rfl, rfl, ?_, ?_, ?_, ?_⟩) | (with_reducible refine ⟨4, _, _, _, _, get4, rfl, rfl, ?_, ?_, ?_, ?_⟩) | (with_reducible refine ⟨5, _, _, _, _, get5, rfl, rfl, ?_, ?_, ?_, ?_⟩) | (with_reducible refine ⟨6, _, _, _, _, get6, rfl, rfl, ?_, ?_, ?_, ?_⟩) | (with_reducible refine ⟨7, _, _, _, _, get7, rfl, rfl, ?_, ?_, ?_, ?_⟩)); (kernel_rfl); (simp [Value.cells]); (rfl); (clear st; intro w st))); (try simp only [nsl, Value.cells, unB] at st); (try clear hc); have hc := st.facts; (try simp only [nfl, nft, Nat.reduceAdd] at hc))
      have st2 := (st.refMk (i := 0) (t := t) (xs := ys) rfl).keep [0] (by decide) (by simp)
      go_ret
      unfold RefC
      rw [show bnd (Except.ok xs) rdName = rdName xs from rfl, HE.out]
      exact ⟨rfl, by simpa [pick] using st2⟩
    · have hn' : nameR s = false := by simpa using hn
      have HE : Hid (rdName xs = .error 30) := Lib.hid (by unfold rdName; rw [HR.out]; simp [hn'])
      rw [hn']
      clear hn hn'
      go_wp2_with ((((with_reducible refine wl_store ?_ (fun K hK => ?_)); rfl; refine owp_store rfl st ?_; apply Exists.intro; apply Exists.intro; refine ⟨?_, ?_, ?_⟩; (focus (go_simp; try rfl)); (focus (go_simp; try rfl)); (first | (with_reducible refine ⟨0, _, _, _, _, get0, rfl, rfl, ?_, ?_, ?_, ?_⟩) | (with_reducible refine ⟨1, _, _, _, _, get1, rfl, rfl, ?_, ?_, ?_, ?_⟩) | (with_reducible refine ⟨2, _, _, _, _, get2, rfl, rfl, ?_, ?_, ?_, ?_⟩) | (with_reducible refine ⟨3, _, _, _, _, get3, rfl, rfl, ?_, ?_, ?_, ?_⟩) | (with_reducible refine ⟨4, _, _, _, _, get4, rfl, rfl, ?_, ?_, ?_, ?_⟩) | (with_reducible refine ⟨5, _, _, _, _, get5, rfl, rfl, ?_, ?_, ?_, ?_⟩) | (with_reducible refine ⟨6, _, _, _, _, get6, rfl, rfl, ?_, ?_, ?_, ?_⟩) | (with_reducible refine ⟨7, _, _, _, _, get7, rfl, rfl, ?_, ?_, ?_, ?_⟩)); (kernel_rfl); (simp [Value.cells]); (rfl); (clear st; intro w st))); (try simp only [nsl, Value.cells, unB] at st); (try clear hc); have hc := st.facts; (try simp only [nfl, nft, Nat.reduceAdd] at hc))
      have st2 := (st.refMkE (i := 0) (t := t) (xs := ys) (er := 30) rfl (by decide)).keep [0] (by decide) (by simp)
      go_ret
      unfold RefC
      rw [show bnd (Except.ok xs) rdName = rdName xs from rfl, HE.out]
      exact ⟨rfl, by simpa [pick] using st2⟩
end Go.Proofs.Ytekngjkjgmplpaa

namespace Go.Proofs.Ytekngjkjgmplpaa
set_option linter.unusedSimpArgs false
set_option linter.unusedVariables false
open Go Go.RowKit
theorem B_toNat (c : UInt8) : UInt8.ofNat c.toNat = c := by simp
theorem rdNumF_canon (f : Nat) : ∀ (i acc : Nat) (xs : List UInt8) (n : Nat) (ys : List UInt8), f + i = 10 → rdNumF f i acc xs = .ok (n, ys) → ∃ m, n = acc + m * 128 ^ i ∧ xs = numF f m ++ ys ∧ (0 < i → 0 < m) := by
  induction f with
  | zero => intro i acc xs n ys _ h; simp [rdNumF] at h
  | succ f ih =>
    intro i acc xs n ys hf h
    unfold rdNumF rdNext at h
    by_cases h9 : i = 9
    · simp [h9] at h
    · rw [if_neg h9] at h
      cases xs with
      | nil => simp at h
      | cons c zs =>
        simp only at h
        by_cases h0 : c = 0 ∧ 0 < i
        · rw [if_pos h0] at h; simp at h
        · rw [if_neg h0] at h
          simp only at h
          by_cases hc : c.toNat < 128
          · rw [if_pos hc] at h
            simp at h
            obtain ⟨h1, rfl⟩ := h
            refine ⟨c.toNat, by rw [← h1, Nat.mod_eq_of_lt hc], by rw [numF_last _ _ (by omega)]; simp, fun hi => ?_⟩
            rcases Nat.eq_zero_or_pos c.toNat with q | q
            · exact absurd ⟨by apply UInt8.toNat_inj.1; simpa using q, hi⟩ h0
            · exact q
          · rw [if_neg hc] at h
            obtain ⟨m, h1, h2, h3⟩ := ih (i + 1) _ zs n ys (by omega) h
            have hm := h3 (by omega)
            have hlt := c.toNat_lt
            refine ⟨c.toNat % 128 + 128 * m, ?_, ?_, fun _ => by omega⟩
            · rw [h1, Nat.pow_succ, Nat.add_mul]
              rw [show 128 * m * 128 ^ i = m * (128 ^ i * 128) by rw [Nat.mul_comm 128 m, Nat.mul_assoc, Nat.mul_comm 128]]
              omega
            · rw [numF_more _ _ (by omega), h2, List.cons_append]
              have e1 : (128 + (c.toNat % 128 + 128 * m) % 128) = c.toNat := by omega
              have e2 : (c.toNat % 128 + 128 * m) / 128 = m := by omega
              rw [e1, e2, B_toNat]
theorem rdNum_canon {xs : List UInt8} {n : Nat} {ys : List UInt8} (h : rdNum xs = .ok (n, ys)) : xs = numB n ++ ys := by
  obtain ⟨m, h1, h2, _⟩ := rdNumF_canon 10 0 0 xs n ys rfl h
  simp at h1
  subst h1
  exact h2
theorem rdNumF_back (f : Nat) : ∀ (i acc m : Nat) (ys : List UInt8), f + i = 10 → m * 128 ^ i < 9223372036854775808 → (0 < i → 0 < m) → rdNumF f i acc (numF f m ++ ys) = .ok (acc + m * 128 ^ i, ys) := by
  induction f with
  | zero =>
    intro i acc m ys hf hm hi
    exfalso
    obtain rfl : i = 10 := by omega
    have := hi (by omega)
    have : (128 : Nat) ^ 10 ≤ m * 128 ^ 10 := Nat.le_mul_of_pos_left _ this
    have h3 : (128 : Nat) ^ 10 = 1180591620717411303424 := by decide
    omega
  | succ f ih =>
    intro i acc m ys hf hm hi
    have h9 : i ≠ 9 := by
      rintro rfl
      have := hi (by omega)
      have h1 : (128 : Nat) ^ 9 ≤ m * 128 ^ 9 := Nat.le_mul_of_pos_left _ this
      have h3 : (128 : Nat) ^ 9 = 9223372036854775808 := by decide
      omega
    by_cases hlt : 128 ≤ m
    · rw [numF_more _ _ hlt, List.cons_append]
      unfold rdNumF rdNext
      rw [if_neg h9]
      have hc : (UInt8.ofNat (128 + m % 128)).toNat = 128 + m % 128 := by simp; omega
      have hne : UInt8.ofNat (128 + m % 128) ≠ 0 := fun q => by have := congrArg UInt8.toNat q; rw [hc] at this; simp at this
      simp only [hne, false_and, if_false, hc]
      rw [if_neg (by omega), ih (i + 1) _ (m / 128) ys (by omega) ?_ (fun _ => by omega)]
      · congr 2
        have e1 : (128 + m % 128) % 128 = m % 128 := by omega
        rw [e1, Nat.pow_succ, Nat.add_assoc, ← Nat.mul_assoc, Nat.mul_right_comm, ← Nat.add_mul]
        congr 2
        omega
      · rw [Nat.pow_succ, Nat.mul_comm (128 ^ i), ← Nat.mul_assoc]
        exact Nat.lt_of_le_of_lt (Nat.mul_le_mul_right _ (Nat.div_mul_le_self m 128)) hm
    · rw [numF_last _ _ hlt, List.cons_append]
      unfold rdNumF rdNext
      rw [if_neg h9]
      have hc : (UInt8.ofNat m).toNat = m := by simp; omega
      have hne : ¬ (UInt8.ofNat m = 0 ∧ 0 < i) := fun ⟨q, q2⟩ => by have := congrArg UInt8.toNat q; rw [hc] at this; simp at this; have := hi q2; omega
      simp only [hne, if_false, hc]
      rw [if_pos (by omega), Nat.mod_eq_of_lt (by omega)]
      rfl
theorem rdNum_back (n : Nat) (ys : List UInt8) (hn : n < 9223372036854775808) : rdNum (numB n ++ ys) = .ok (n, ys) := by
  have := rdNumF_back 10 0 0 n ys rfl (by simpa using hn) (fun h => by omega)
  simpa [rdNum, numB] using this
theorem rdText_put (most : Nat) (b ys : List UInt8) (hb : b.length ≤ most) (hm : most < 9223372036854775808) : rdText (most : Int) (numB b.length ++ b ++ ys) = .ok (b, ys) := by
  unfold rdText
  rw [List.append_assoc, rdNum_back _ _ (by omega)]
  simp only
  rw [if_neg (by omega), if_neg (by simp)]
  simp
theorem rdNumber_put (most n : Nat) (ys : List UInt8) (hn : n ≤ most) (hm : most < 9223372036854775808) : rdNumber (most : Int) (numB n ++ ys) = .ok (n, ys) := by
  unfold rdNumber
  rw [rdNum_back _ _ (by omega)]
  simp only
  rw [if_neg (by omega)]
end Go.Proofs.Ytekngjkjgmplpaa

namespace Go.Proofs.Ytekngjkjgmplpaa
set_option linter.unusedSimpArgs false
set_option linter.unusedVariables false
open Go Go.RowKit
section
variable {P : Program} {fn : Func} {R : Ending → World → Prop} {a : Act} {w : World} {p u g : Nat} {ty : TypeId} {d : TypeDesc} {vs : List Value}
theorem bodyPost_cell (h : fn.results = #[.cell p ty]) (hp : a.tmps.getD p undef = .pointer (some ⟨g, 0, none⟩)) (hb : Blk w g vs) (hu : P.underlying ty = some d) (hd : (match d with | .struct _ | .array _ _ => true | _ => false) = true) (hi : (P.info? ty).map (·.size) = some vs.length)
    (hdef : a.defers = []) (hR : R (.returned (.agg vs.toArray)) w) : bodyPost P fn R .ret a w := by
  obtain ⟨t, hb⟩ := hb
  exact bodyPost_ret (results_cell_row h a.tmps w g t vs.toArray (0, 0) d hp hb hu hd (by simpa using hi)) hdef hR
theorem bodyPost_cell2 (h : fn.results = #[.cell p ty, .tmp u]) (hp : a.tmps.getD p undef = .pointer (some ⟨g, 0, none⟩)) (hb : Blk w g vs) (hu : P.underlying ty = some d) (hd : (match d with | .struct _ | .array _ _ => true | _ => false) = true) (hi : (P.info? ty).map (·.size) = some vs.length)
    (hdef : a.defers = []) (hR : R (.returned (.tuple #[.agg vs.toArray, a.tmps.getD u undef])) w) : bodyPost P fn R .ret a w := by
  obtain ⟨t, hb⟩ := hb
  refine bodyPost_ret (v := .tuple #[.agg vs.toArray, a.tmps.getD u undef]) ?_ hdef hR
  rw [results_cell_tmp h]
  rw [hp]
  simp [asAddr, run_loadVar_row w g t ty vs.toArray (0, 0) d hb hu hd (by simpa using hi), Result.andThen]
end
end Go.Proofs.Ytekngjkjgmplpaa

namespace Go.Proofs.Ytekngjkjgmplpaa
set_option linter.unusedSimpArgs false
set_option linter.unusedVariables false
open Go Go.RowKit
abbrev Role := List UInt8 × List UInt8
instance fltRole : Flt Role := ⟨2, fun r => [S r.1, S r.2], fun _ => rfl, by decide, fun x u hu => by simp at hu; rcases hu with rfl | rfl <;> rfl⟩
theorem fltRole_k : Flt.k Role = 2 := rfl
theorem role_cells (r : Role) : Flt.cells r = [.string ⟨r.1.toArray⟩, .string ⟨r.2.toArray⟩] := rfl
/-- A role as a value. -/
def rV (r : Role) : Value := .agg #[S r.1, S r.2]
def roleR (r : Role) : Bool := nameR r.1 && nameR r.2
def roleT (r : Role) : List UInt8 := r.1 ++ [46] ++ r.2
def roleB (r : Role) : List UInt8 := (numB r.1.length ++ r.1) ++ (numB r.2.length ++ r.2)
set_option maxRecDepth 100000 in
set_option maxHeartbeats 1000000 in
theorem roleRight_any (r : Role) (W : World) (h1 : r.1.length ≤ 100000) (h2 : r.2.length ≤ 100000) : Calls Try.prog 163 #[rV r] W fun e w' => e = .returned (.bool (roleR r)) ∧ Ext W w' := by
  obtain ⟨o, d⟩ := r
  simp only at h1 h2
  have st := Own.startOld W
  unfold rV roleR S
  (try simp only [nsl, Value.cells, unB] at st)
  (try clear hc); have hc := st.facts; (try simp only [nfl, nft, Nat.reduceAdd] at hc)
  go_enter Try.func163, Try.ntmps163
  go_wp2_with ((((with_reducible refine wl_box ?_ (fun K hK => ?_)); rfl; refine owp_box (o := ⟨some 1, _, _, _, _, _⟩) rfl st ?_; apply Exists.intro; refine ⟨?_, ?_⟩; (focus (go_simp; try rfl)); (clear st; intro b1 w hb st; clear hb))); (try simp only [nsl, Value.cells, unB] at st); (try clear hc); have hc := st.facts; (try simp only [nfl, nft, Nat.reduceAdd] at hc))
  refine (right_any o _ h1).mono ?_
  rintro en w ⟨rfl, hx⟩
  replace st := st.ext hx
  clear hx
  (try clear hc); have hc := st.facts; (try simp only [nfl, nft, Nat.reduceAdd] at hc)
  cases hr : nameR o with
  | true =>
    go_wp2_with ((((with_reducible refine wl_box ?_ (fun K hK => ?_)); rfl; refine owp_box (o := ⟨some 1, _, _, _, _, _⟩) rfl st ?_; apply Exists.intro; refine ⟨?_, ?_⟩; (focus (go_simp; try rfl)); (clear st; intro b1 w hb st; clear hb))); (try simp only [nsl, Value.cells, unB] at st); (try clear hc); have hc := st.facts; (try simp only [nfl, nft, Nat.reduceAdd] at hc))
    refine (right_any d _ h2).mono ?_
    rintro en w ⟨rfl, hx⟩
    replace st := st.ext hx
    clear hx
    (try clear hc); have hc := st.facts; (try simp only [nfl, nft, Nat.reduceAdd] at hc)
    go_wp2_with ((((with_reducible refine wl_box ?_ (fun K hK => ?_)); rfl; refine owp_box (o := ⟨some 1, _, _, _, _, _⟩) rfl st ?_; apply Exists.intro; refine ⟨?_, ?_⟩; (focus (go_simp; try rfl)); (clear st; intro b1 w hb st; clear hb))); (try simp only [nsl, Value.cells, unB] at st); (try clear hc); have hc := st.facts; (try simp only [nfl, nft, Nat.reduceAdd] at hc))
    go_ret
    exact ⟨by simp [hr], st.ext0⟩
  | false =>
    go_wp2_with ((((with_reducible refine wl_box ?_ (fun K hK => ?_)); rfl; refine owp_box (o := ⟨some 1, _, _, _, _, _⟩) rfl st ?_; apply Exists.intro; refine ⟨?_, ?_⟩; (focus (go_simp; try rfl)); (clear st; intro b1 w hb st; clear hb))); (try simp only [nsl, Value.cells, unB] at st); (try clear hc); have hc := st.facts; (try simp only [nfl, nft, Nat.reduceAdd] at hc))
    go_ret
    exact ⟨by simp [hr], st.ext0⟩
set_option maxRecDepth 100000 in
set_option maxHeartbeats 1000000 in
theorem refRoleRight_any (r : Role) (W : World) (h1 : r.1.length ≤ 1000000000) (h2 : r.2.length ≤ 1000000000) : Calls Try.prog 139 #[rV r] W fun e w' => e = .returned (.bool (roleR r)) ∧ Ext W w' := by
  obtain ⟨o, d⟩ := r
  simp only at h1 h2
  have st := Own.startOld W
  unfold rV roleR S
  (try simp only [nsl, Value.cells, unB] at st)
  (try clear hc); have hc := st.facts; (try simp only [nfl, nft, Nat.reduceAdd] at hc)
  go_enter Try.func139, Try.ntmps139
  go_wp2_with ((((with_reducible refine wl_box ?_ (fun K hK => ?_)); rfl; refine owp_box (o := ⟨some 1, _, _, _, _, _⟩) rfl st ?_; apply Exists.intro; refine ⟨?_, ?_⟩; (focus (go_simp; try rfl)); (clear st; intro b1 w hb st; clear hb))); (try simp only [nsl, Value.cells, unB] at st); (try clear hc); have hc := st.facts; (try simp only [nfl, nft, Nat.reduceAdd] at hc))
  refine (refRight_any o _ h1).mono ?_
  rintro en w ⟨rfl, hx⟩
  replace st := st.ext hx
  clear hx
  (try clear hc); have hc := st.facts; (try simp only [nfl, nft, Nat.reduceAdd] at hc)
  cases hr : nameR o with
  | true =>
    go_wp2_with ((((with_reducible refine wl_box ?_ (fun K hK => ?_)); rfl; refine owp_box (o := ⟨some 1, _, _, _, _, _⟩) rfl st ?_; apply Exists.intro; refine ⟨?_, ?_⟩; (focus (go_simp; try rfl)); (clear st; intro b1 w hb st; clear hb))); (try simp only [nsl, Value.cells, unB] at st); (try clear hc); have hc := st.facts; (try simp only [nfl, nft, Nat.reduceAdd] at hc))
    refine (refRight_any d _ h2).mono ?_
    rintro en w ⟨rfl, hx⟩
    replace st := st.ext hx
    clear hx
    (try clear hc); have hc := st.facts; (try simp only [nfl, nft, Nat.reduceAdd] at hc)
    go_wp2_with ((((with_reducible refine wl_box ?_ (fun K hK => ?_)); rfl; refine owp_box (o := ⟨some 1, _, _, _, _, _⟩) rfl st ?_; apply Exists.intro; refine ⟨?_, ?_⟩; (focus (go_simp; try rfl)); (clear st; intro b1 w hb st; clear hb))); (try simp only [nsl, Value.cells, unB] at st); (try clear hc); have hc := st.facts; (try simp only [nfl, nft, Nat.reduceAdd] at hc))
    go_ret
    exact ⟨by simp [hr], st.ext0⟩
  | false =>
    go_wp2_with ((((with_reducible refine wl_box ?_ (fun K hK => ?_)); rfl; refine owp_box (o := ⟨some 1, _, _, _, _, _⟩) rfl st ?_; apply Exists.intro; refine ⟨?_, ?_⟩; (focus (go_simp; try rfl)); (clear st; intro b1 w hb st; clear hb))); (try simp only [nsl, Value.cells, unB] at st); (try clear hc); have hc := st.facts; (try simp only [nfl, nft, Nat.reduceAdd] at hc))
    go_ret
    exact ⟨by simp [hr], st.ext0⟩
set_option maxRecDepth 100000 in
set_option maxHeartbeats 1000000 in
theorem rolePut_yes {fr al : Nat → Prop} {w : World} {p : Nat} {xs : List UInt8} (st : Own fr al w [penI p xs] w) (r : Role) (hr : roleR r = true) (hl : xs.length ≤ 9000000) :
    Calls Try.prog 145 #[.pointer (some ⟨p, 0, none⟩), rV r] w fun e w' => e = .returned (.bool true) ∧ Own fr al w [penI p (xs ++ roleB r)] w' := by
  obtain ⟨o, d⟩ := r
  have hr' : nameR o = true ∧ nameR d = true := by simpa [roleR] using hr
  have HR := Lib.hid hr'
  have hl1 := nameR_len hr'.1
  have hl2 := nameR_len hr'.2
  clear hr hr'
  unfold rV S
  go_enter Try.func145, Try.ntmps145
  go_wp2_with ((((with_reducible refine wl_box ?_ (fun K hK => ?_)); rfl; refine owp_box (o := ⟨some 3, _, _, _, _, _⟩) rfl st ?_; apply Exists.intro; refine ⟨?_, ?_⟩; (focus (go_simp; try rfl)); (clear st; intro b3 w hb st; clear hb))); (try simp only [nsl, Value.cells, unB] at st); (try clear hc); have hc := st.facts; (try simp only [nfl, nft, Nat.reduceAdd] at hc))
  refine (roleRight_any (o, d) _ (by simp only; omega) (by simp only; omega)).mono ?_
  rintro en w ⟨rfl, hx⟩
  replace st := st.ext hx
  clear hx
  (try clear hc); have hc := st.facts; (try simp only [nfl, nft, Nat.reduceAdd] at hc)
  rw [show roleR (o, d) = true from by simp [roleR, HR.out.1, HR.out.2]]
  go_wp2_with ((((with_reducible refine wl_box ?_ (fun K hK => ?_)); rfl; refine owp_box (o := ⟨some 3, _, _, _, _, _⟩) rfl st ?_; apply Exists.intro; refine ⟨?_, ?_⟩; (focus (go_simp; try rfl)); (clear st; intro b3 w hb st; clear hb))); (try simp only [nsl, Value.cells, unB] at st); (try clear hc); have hc := st.facts; (try simp only [nfl, nft, Nat.reduceAdd] at hc))
  obtain ⟨fr', al', st', back⟩ := st.sub [0] (by decide) (by simp)
  (try simp only [nsl, Value.cells, unB] at st')
  refine (namePut_yes st' o HR.out.1 (by omega)).mono ?_
  clear st'
  rintro en w ⟨rfl, st'⟩
  replace st := back _ _ (by simp) st'
  clear back st'
  (try simp only [nsl, Value.cells, unB] at st)
  (try clear hc); have hc := st.facts; (try simp only [nfl, nft, Nat.reduceAdd] at hc)
  go_wp2_with ((((with_reducible refine wl_box ?_ (fun K hK => ?_)); rfl; refine owp_box (o := ⟨some 3, _, _, _, _, _⟩) rfl st ?_; apply Exists.intro; refine ⟨?_, ?_⟩; (focus (go_simp; try rfl)); (clear st; intro b3 w hb st; clear hb))); (try simp only [nsl, Value.cells, unB] at st); (try clear hc); have hc := st.facts; (try simp only [nfl, nft, Nat.reduceAdd] at hc))
  obtain ⟨fr', al', st', back⟩ := st.sub [0] (by decide) (by simp)
  (try simp only [nsl, Value.cells, unB] at st')
  refine (namePut_yes st' d HR.out.2 (by have := numF_len 10 o.length; simp [numB]; omega)).mono ?_
  clear st'
  rintro en w ⟨rfl, st'⟩
  replace st := back _ _ (by simp) st'
  clear back st'
  (try simp only [nsl, Value.cells, unB] at st)
  (try clear hc); have hc := st.facts; (try simp only [nfl, nft, Nat.reduceAdd] at hc)
  go_wp2_with ((((with_reducible refine wl_box ?_ (fun K hK => ?_)); rfl; refine owp_box (o := ⟨some 3, _, _, _, _, _⟩) rfl st ?_; apply Exists.intro; refine ⟨?_, ?_⟩; (focus (go_simp; try rfl)); (clear st; intro b3 w hb st; clear hb))); (try simp only [nsl, Value.cells, unB] at st); (try clear hc); have hc := st.facts; (try simp only [nfl, nft, Nat.reduceAdd] at hc))
  go_ret
  have st' := st.keep [0] (by decide) (by simp)
  exact ⟨rfl, by simpa [pick, roleB] using st'⟩
set_option maxRecDepth 100000 in
set_option maxHeartbeats 1000000 in
theorem rolePut_no (p : Option Addr) (r : Role) (w : World) (h : p = none ∨ roleR r = false) (h1 : r.1.length ≤ 100000) (h2 : r.2.length ≤ 100000) :
    Calls Try.prog 145 #[.pointer p, rV r] w fun e w' => e = .returned (.bool false) ∧ Ext w w' := by
  have st := Own.startOld w
  obtain ⟨o, d⟩ := r
  unfold rV S
  (try simp only [nsl, Value.cells, unB] at st)
  (try clear hc); have hc := st.facts; (try simp only [nfl, nft, Nat.reduceAdd] at hc)
  cases p with
  | none =>
    go_enter Try.func145, Try.ntmps145
    go_wp2_with ((((with_reducible refine wl_box ?_ (fun K hK => ?_)); rfl; refine owp_box (o := ⟨some 3, _, _, _, _, _⟩) rfl st ?_; apply Exists.intro; refine ⟨?_, ?_⟩; (focus (go_simp; try rfl)); (clear st; intro b3 w hb st; clear hb))); (try simp only [nsl, Value.cells, unB] at st); (try clear hc); have hc := st.facts; (try simp only [nfl, nft, Nat.reduceAdd] at hc))
    go_ret
    exact ⟨rfl, st.ext0⟩
  | some ad =>
    have hr : roleR (o, d) = false := by rcases h with h | h; cases h; exact h
    have HR := Lib.hid hr
    clear hr h
    go_enter Try.func145, Try.ntmps145
    go_wp2_with ((((with_reducible refine wl_box ?_ (fun K hK => ?_)); rfl; refine owp_box (o := ⟨some 3, _, _, _, _, _⟩) rfl st ?_; apply Exists.intro; refine ⟨?_, ?_⟩; (focus (go_simp; try rfl)); (clear st; intro b3 w hb st; clear hb))); (try simp only [nsl, Value.cells, unB] at st); (try clear hc); have hc := st.facts; (try simp only [nfl, nft, Nat.reduceAdd] at hc))
    refine (roleRight_any (o, d) _ h1 h2).mono ?_
    rintro en w ⟨rfl, hx⟩
    replace st := st.ext hx
    clear hx
    (try clear hc); have hc := st.facts; (try simp only [nfl, nft, Nat.reduceAdd] at hc)
    rw [HR.out]
    go_wp2_with ((((with_reducible refine wl_box ?_ (fun K hK => ?_)); rfl; refine owp_box (o := ⟨some 3, _, _, _, _, _⟩) rfl st ?_; apply Exists.intro; refine ⟨?_, ?_⟩; (focus (go_simp; try rfl)); (clear st; intro b3 w hb st; clear hb))); (try simp only [nsl, Value.cells, unB] at st); (try clear hc); have hc := st.facts; (try simp only [nfl, nft, Nat.reduceAdd] at hc))
    go_ret
    exact ⟨rfl, st.ext0⟩
/-- The next role. -/
def rdRole (xs : List UInt8) : Except Int (Role × List UInt8) := match rdName xs with
  | .error e => .error e
  | .ok (o, ys) => match rdName ys with
    | .error e => .error e
    | .ok (d, zs) => .ok ((o, d), zs)
theorem rdName_le {xs s ys : List UInt8} (h : rdName xs = .ok (s, ys)) : ys.length ≤ xs.length ∧ nameR s = true := by
  unfold rdName at h
  cases hr : rdText 16 xs with
  | error e => rw [hr] at h; simp at h
  | ok p =>
    obtain ⟨s', ys'⟩ := p
    rw [hr] at h
    simp only at h
    split at h
    · simp at h; obtain ⟨rfl, rfl⟩ := h; exact ⟨(rdText_le hr).2.1, by assumption⟩
    · simp at h
theorem rdName_er {xs : List UInt8} {e : Int} (h : rdName xs = .error e) : e ≠ 0 := by
  unfold rdName at h
  cases hr : rdText 16 xs with
  | error e2 => rw [hr] at h; simp at h; subst h; exact rdText_er hr
  | ok p =>
    obtain ⟨s', ys'⟩ := p
    rw [hr] at h
    simp only at h
    split at h
    · simp at h
    · simp at h; subst h; decide
set_option maxRecDepth 100000 in
set_option maxHeartbeats 1000000 in
theorem roleGet_c {fr al : Nat → Prop} {w : World} {r : Nat} {xs : List UInt8} (st : Own fr al w [rdI r xs] w) (hl : xs.length ≤ 100000) :
    Calls Try.prog 178 #[.pointer (some ⟨r, 0, none⟩)] w (RdC fr al w r (rdRole xs) fun s v M => v = rV s ∧ M = []) := by
  go_enter Try.func178, Try.ntmps178
  go_wp2_with ((first
        | ((with_reducible refine wl_alloc ?_ (fun K hK => ?_)); rfl; refine owp_alloc (o := ⟨some 2, _, _, _, _, _⟩) rfl st ?_; apply Exists.intro; apply Exists.intro; refine ⟨?_, ?_⟩; (focus (first | (go_simp; done) | (go_simp; rfl))); (clear st; intro b2 w hb st; clear hb))
        | ((with_reducible refine wl_store ?_ (fun K hK => ?_)); rfl; refine owp_store rfl st ?_; apply Exists.intro; apply Exists.intro; refine ⟨?_, ?_, ?_⟩; (focus (go_simp; try rfl)); (focus (go_simp; try rfl)); (first | (with_reducible refine ⟨0, _, _, _, _, get0, rfl, rfl, ?_, ?_, ?_, ?_⟩) | (with_reducible refine ⟨1, _, _, _, _, get1, rfl, rfl, ?_, ?_, ?_, ?_⟩) | (with_reducible refine ⟨2, _, _, _, _, get2, rfl, rfl, ?_, ?_, ?_, ?_⟩) | (with_reducible refine ⟨3, _, _, _, _, get3, rfl, rfl, ?_, ?_, ?_, ?_⟩) | (with_reducible refine ⟨4, _, _, _, _, get4, rfl, rfl, ?_, ?_, ?_, ?_⟩) | (with_reducible refine ⟨5, _, _, _, _, get5, rfl, rfl, ?_, ?_, ?_, ?_⟩) | (with_reducible refine ⟨6, _, _, _, _, get6, rfl, rfl, ?_, ?_, ?_, ?_⟩) | (with_reducible refine ⟨7, _, _, _, _, get7, rfl, rfl, ?_, ?_, ?_, ?_⟩)); (kernel_rfl); (simp [Value.cells]); (rfl); (clear st; intro w st))); (try simp only [nsl, Value.cells, unB] at st); (try clear hc); have hc := st.facts; (try simp only [nfl, nft, Nat.reduceAdd] at hc))
  have HN : Hid (rdRole xs = match rdName xs with | .error e => .error e | .ok (o, ys) => match rdName ys with | .error e => .error e | .ok (d, zs) => .ok ((o, d), zs)) := Lib.hid rfl
  obtain ⟨fr', al', st', back⟩ := st.sub [0] (by decide) (by simp)
  (try simp only [nsl, Value.cells, unB] at st')
  refine (nameGet_c st' hl).mono ?_
  clear st'
  intro en w hen
  unfold RdC at hen
  cases hr : rdName xs with
  | error e =>
    rw [hr] at hen
    obtain ⟨rfl, st'⟩ := hen
    replace st := back _ _ (by simp) st'
    clear back st'
    (try simp only [nsl, Value.cells, unB] at st)
    (try clear hc); have hc := st.facts; (try simp only [nfl, nft, Nat.reduceAdd] at hc)
    have H1 : Hid (rdRole xs = .error e) := Lib.hid (by rw [HN.out, hr])
    clear hr
    go_wp2_with fail
    refine ⟨rfl, ?_⟩
    unfold RdC
    rw [H1.out]
    have st' := st.keep [0] (by decide) (by simp)
    exact ⟨rfl, by simpa [pick] using st'⟩
  | ok p =>
    obtain ⟨o, ys⟩ := p
    rw [hr] at hen
    obtain ⟨v, M, rfl, ⟨rfl, rfl⟩, st'⟩ := hen
    replace st := back _ _ (by simp) st'
    clear back st'
    (try simp only [nsl, Value.cells, unB] at st)
    (try clear hc); have hc := st.facts; (try simp only [nfl, nft, Nat.reduceAdd] at hc)
    have hle := (rdName_le hr).1
    have HR := Lib.hid hr
    clear hr
    unfold S
    go_wp2_with ((first
          | ((with_reducible refine wl_alloc ?_ (fun K hK => ?_)); rfl; refine owp_alloc (o := ⟨some 2, _, _, _, _, _⟩) rfl st ?_; apply Exists.intro; apply Exists.intro; refine ⟨?_, ?_⟩; (focus (first | (go_simp; done) | (go_simp; rfl))); (clear st; intro b2 w hb st; clear hb))
          | ((with_reducible refine wl_store ?_ (fun K hK => ?_)); rfl; refine owp_store rfl st ?_; apply Exists.intro; apply Exists.intro; refine ⟨?_, ?_, ?_⟩; (focus (go_simp; try rfl)); (focus (go_simp; try rfl)); (first | (with_reducible refine ⟨0, _, _, _, _, get0, rfl, rfl, ?_, ?_, ?_, ?_⟩) | (with_reducible refine ⟨1, _, _, _, _, get1, rfl, rfl, ?_, ?_, ?_, ?_⟩) | (with_reducible refine ⟨2, _, _, _, _, get2, rfl, rfl, ?_, ?_, ?_, ?_⟩) | (with_reducible refine ⟨3, _, _, _, _, get3, rfl, rfl, ?_, ?_, ?_, ?_⟩) | (with_reducible refine ⟨4, _, _, _, _, get4, rfl, rfl, ?_, ?_, ?_, ?_⟩) | (with_reducible refine ⟨5, _, _, _, _, get5, rfl, rfl, ?_, ?_, ?_, ?_⟩) | (with_reducible refine ⟨6, _, _, _, _, get6, rfl, rfl, ?_, ?_, ?_, ?_⟩) | (with_reducible refine ⟨7, _, _, _, _, get7, rfl, rfl, ?_, ?_, ?_, ?_⟩)); (kernel_rfl); (simp [Value.cells]); (rfl); (clear st; intro w st))); (try simp only [nsl, Value.cells, unB] at st); (try clear hc); have hc := st.facts; (try simp only [nfl, nft, Nat.reduceAdd] at hc))
    obtain ⟨fr', al', st', back⟩ := st.sub [0] (by decide) (by simp)
    (try simp only [nsl, Value.cells, unB] at st')
    refine (nameGet_c st' (by omega)).mono ?_
    clear st'
    intro en w hen
    unfold RdC at hen
    cases hr : rdName ys with
    | error e =>
      rw [hr] at hen
      obtain ⟨rfl, st'⟩ := hen
      replace st := back _ _ (by simp) st'
      clear back st'
      (try simp only [nsl, Value.cells, unB] at st)
      (try clear hc); have hc := st.facts; (try simp only [nfl, nft, Nat.reduceAdd] at hc)
      have H1 : Hid (rdRole xs = .error e) := Lib.hid (by rw [HN.out, HR.out]; simp only; rw [hr])
      clear hr
      go_wp2_with fail
      refine ⟨rfl, ?_⟩
      unfold RdC
      rw [H1.out]
      have st' := st.keep [0] (by decide) (by simp)
      exact ⟨rfl, by simpa [pick] using st'⟩
    | ok p =>
      obtain ⟨d, zs⟩ := p
      rw [hr] at hen
      obtain ⟨v, M, rfl, ⟨rfl, rfl⟩, st'⟩ := hen
      replace st := back _ _ (by simp) st'
      clear back st'
      (try simp only [nsl, Value.cells, unB] at st)
      (try clear hc); have hc := st.facts; (try simp only [nfl, nft, Nat.reduceAdd] at hc)
      have H1 : Hid (rdRole xs = .ok ((o, d), zs)) := Lib.hid (by rw [HN.out, HR.out]; simp only; rw [hr])
      clear hr
      unfold S
      go_wp2_with ((first
            | ((with_reducible refine wl_alloc ?_ (fun K hK => ?_)); rfl; refine owp_alloc (o := ⟨some 2, _, _, _, _, _⟩) rfl st ?_; apply Exists.intro; apply Exists.intro; refine ⟨?_, ?_⟩; (focus (first | (go_simp; done) | (go_simp; rfl))); (clear st; intro b2 w hb st; clear hb))
            | ((with_reducible refine wl_store ?_ (fun K hK => ?_)); rfl; refine owp_store rfl st ?_; apply Exists.intro; apply Exists.intro; refine ⟨?_, ?_, ?_⟩; (focus (go_simp; try rfl)); (focus (go_simp; try rfl)); (first | (with_reducible refine ⟨0, _, _, _, _, get0, rfl, rfl, ?_, ?_, ?_, ?_⟩) | (with_reducible refine ⟨1, _, _, _, _, get1, rfl, rfl, ?_, ?_, ?_, ?_⟩) | (with_reducible refine ⟨2, _, _, _, _, get2, rfl, rfl, ?_, ?_, ?_, ?_⟩) | (with_reducible refine ⟨3, _, _, _, _, get3, rfl, rfl, ?_, ?_, ?_, ?_⟩) | (with_reducible refine ⟨4, _, _, _, _, get4, rfl, rfl, ?_, ?_, ?_, ?_⟩) | (with_reducible refine ⟨5, _, _, _, _, get5, rfl, rfl, ?_, ?_, ?_, ?_⟩) | (with_reducible refine ⟨6, _, _, _, _, get6, rfl, rfl, ?_, ?_, ?_, ?_⟩) | (with_reducible refine ⟨7, _, _, _, _, get7, rfl, rfl, ?_, ?_, ?_, ?_⟩)); (kernel_rfl); (simp [Value.cells]); (rfl); (clear st; intro w st))); (try simp only [nsl, Value.cells, unB] at st); (try clear hc); have hc := st.facts; (try simp only [nfl, nft, Nat.reduceAdd] at hc))
      (try simp only [Exit.inBlock, Exit.then])
      refine bodyPost_cell rfl rfl (st.blk (i := 1) get1) Try.underlying30 rfl (by kernel_rfl) rfl ?_
      unfold RdC
      rw [H1.out]
      have st' := st.keep [0] (by decide) (by simp)
      exact ⟨_, [], rfl, ⟨rfl, rfl⟩, by simpa [pick] using st'⟩
set_option maxRecDepth 100000 in
set_option maxHeartbeats 1000000 in
theorem refRoleBytes_any (r : Role) (W : World) (h1 : r.1.length ≤ 100000) (h2 : r.2.length ≤ 100000) : Calls Try.prog 143 #[rV r] W fun e w' => e = .returned (S (roleB r)) ∧ Ext W w' := by
  have happ := ba_append
  obtain ⟨o, d⟩ := r
  simp only at h1 h2
  have hn1 : (numB o.length).length ≤ 10 := numF_len 10 o.length
  have hn2 : (numB d.length).length ≤ 10 := numF_len 10 d.length
  have st := Own.startOld W
  unfold rV roleB S
  simp only
  (try simp only [nsl, Value.cells, unB] at st)
  (try clear hc); have hc := st.facts; (try simp only [nfl, nft, Nat.reduceAdd] at hc)
  go_enter Try.func143, Try.ntmps143
  go_wp2_with ((((with_reducible refine wl_box ?_ (fun K hK => ?_)); rfl; refine owp_box (o := ⟨some 1, _, _, _, _, _⟩) rfl st ?_; apply Exists.intro; refine ⟨?_, ?_⟩; (focus (go_simp; try rfl)); (clear st; intro b1 w hb st; clear hb))); (try simp only [nsl, Value.cells, unB] at st); (try clear hc); have hc := st.facts; (try simp only [nfl, nft, Nat.reduceAdd] at hc))
  refine Rg4.wp_region4 (Rel := Ext) #[0, 1, 3, 0, 8, 31, 63, 127]
    [(2, .val (.string ⟨(numB o.length ++ o).toArray⟩)), (5, .val (.string ⟨(numB d.length ++ d).toArray⟩))] [] [1, 4] (fun _ => True) [0, 1, 2, 3, 4, 5, 6, 7] (by kernel_rfl) (by kernel_rfl) (by kernel_rfl) (by kernel_rfl) Ext.refl (fun _ _ _ => Ext.trans) (show Rg4.PB _ by repeat (first | with_reducible exact Rg4.pb_body | with_reducible exact Rg4.pb_bodyD rfl | with_reducible refine Rg4.pb_then ?_ | with_reducible refine Rg4.pb_inBlock ?_ | with_reducible refine Rg4.pb_noGoto ?_)) (trivial) ?_
  replace st := st.drew
  change Rg4.wp4 _ _ _ _ _ _ _ _ _ (World.drew _) _ _
  generalize World.drew _ = w at st ⊢
  (try clear hc); have hc := st.facts; (try simp only [nfl, nft, Nat.reduceAdd] at hc)
  (refine Rg4.w4_any (Rg4.want_none rfl) rfl ?_; apply Exists.intro; refine ⟨fun w' => ?_, ?_⟩; (focus (first | (go_simp; done) | (go_simp; first | rfl | (rw [if_neg] <;> first | rfl | omega) | (rw [if_pos] <;> first | rfl | omega)))); (try simp only [Rg4.nrm]))
  (refine Rg4.w4_read (Rg4.want_none rfl) rfl rfl ?_; apply Exists.intro; refine ⟨fun w' hw' hcl' => ?_, ?_⟩; focus (have st' := st.ext hw'; have hc' := st'.facts; (try simp only [nfl, nft, Nat.reduceAdd] at hc'); (focus (first | (go_simp; done) | (go_simp; first | rfl | (rw [if_neg] <;> first | rfl | omega) | (rw [if_pos] <;> first | rfl | omega))))); (try simp only [Rg4.nrm]))
  refine Rg4.w4_some (Rg4.want_none rfl) rfl (fun w' hw' hcl' _ => ?_) ?_
  · refine Rg.relAt_call (by go_simp; exact ⟨rfl, rfl⟩) ?_
    refine (refText_any o _ (by omega)).mono ?_
    rintro en w'' ⟨rfl, hx⟩
    exact ⟨_, rfl, hx, trivial, rfl⟩
  rintro v ⟨_, _, _, rfl⟩
  (try simp only [Rg4.nrm])
  (refine Rg4.w4_any (Rg4.want_none rfl) rfl ?_; apply Exists.intro; refine ⟨fun w' => ?_, ?_⟩; (focus (first | (go_simp; done) | (go_simp; first | rfl | (rw [if_neg] <;> first | rfl | omega) | (rw [if_pos] <;> first | rfl | omega)))); (try simp only [Rg4.nrm]))
  (refine Rg4.w4_read (Rg4.want_none rfl) rfl rfl ?_; apply Exists.intro; refine ⟨fun w' hw' hcl' => ?_, ?_⟩; focus (have st' := st.ext hw'; have hc' := st'.facts; (try simp only [nfl, nft, Nat.reduceAdd] at hc'); (focus (first | (go_simp; done) | (go_simp; first | rfl | (rw [if_neg] <;> first | rfl | omega) | (rw [if_pos] <;> first | rfl | omega))))); (try simp only [Rg4.nrm]))
  refine Rg4.w4_some (Rg4.want_none rfl) rfl (fun w' hw' hcl' _ => ?_) ?_
  · refine Rg.relAt_call (by go_simp; exact ⟨rfl, rfl⟩) ?_
    refine (refText_any d _ (by omega)).mono ?_
    rintro en w'' ⟨rfl, hx⟩
    exact ⟨_, rfl, hx, trivial, rfl⟩
  rintro v ⟨_, _, _, rfl⟩
  (try simp only [Rg4.nrm])
  iterate 2 (refine Rg4.w4_any (Rg4.want_none rfl) rfl ?_; apply Exists.intro; refine ⟨fun w' => ?_, ?_⟩; (focus (first | (go_simp; done) | (go_simp; first | rfl | (rw [if_neg] <;> first | rfl | omega) | (rw [if_pos] <;> first | rfl | omega)))); (try simp only [Rg4.nrm]))
  refine Rg4.w4_nil (fun w' hw' hcl' _ => ?_); replace st := st.ext hw'; clear hw' hcl'; (try clear hc); have hc := st.facts; (try simp only [nfl, nft, Nat.reduceAdd] at hc)
  go_wp2_with fail
  go_ret
  exact ⟨by simp, st.ext0⟩
set_option maxRecDepth 100000 in
set_option maxHeartbeats 1000000 in
theorem refGetRole_m {fr al : Nat → Prop} {w : World} {t : Nat} {res : Except Int (List UInt8)} (st : Own fr al w [refI t res] w) (hl : ∀ xs, res = .ok xs → xs.length ≤ 1000000) :
    Calls Try.prog 180 #[.pointer (some ⟨t, 0, none⟩)] w (RefC fr al w t (bnd res rdRole) (rV ([], [])) rV) := by
  go_enter Try.func180, Try.ntmps180
  go_wp2_with ((first
        | ((with_reducible refine wl_alloc ?_ (fun K hK => ?_)); rfl; refine owp_alloc (o := ⟨some 2, _, _, _, _, _⟩) rfl st ?_; apply Exists.intro; apply Exists.intro; refine ⟨?_, ?_⟩; (focus (first | (go_simp; done) | (go_simp; rfl))); (clear st; intro b2 w hb st; clear hb))
        | ((with_reducible refine wl_store ?_ (fun K hK => ?_)); rfl; refine owp_store rfl st ?_; apply Exists.intro; apply Exists.intro; refine ⟨?_, ?_, ?_⟩; (focus (go_simp; try rfl)); (focus (go_simp; try rfl)); (first | (with_reducible refine ⟨0, _, _, _, _, get0, rfl, rfl, ?_, ?_, ?_, ?_⟩) | (with_reducible refine ⟨1, _, _, _, _, get1, rfl, rfl, ?_, ?_, ?_, ?_⟩) | (with_reducible refine ⟨2, _, _, _, _, get2, rfl, rfl, ?_, ?_, ?_, ?_⟩) | (with_reducible refine ⟨3, _, _, _, _, get3, rfl, rfl, ?_, ?_, ?_, ?_⟩) | (with_reducible refine ⟨4, _, _, _, _, get4, rfl, rfl, ?_, ?_, ?_, ?_⟩) | (with_reducible refine ⟨5, _, _, _, _, get5, rfl, rfl, ?_, ?_, ?_, ?_⟩) | (with_reducible refine ⟨6, _, _, _, _, get6, rfl, rfl, ?_, ?_, ?_, ?_⟩) | (with_reducible refine ⟨7, _, _, _, _, get7, rfl, rfl, ?_, ?_, ?_, ?_⟩)); (kernel_rfl); (simp [Value.cells]); (rfl); (clear st; intro w st))); (try simp only [nsl, Value.cells, unB] at st); (try clear hc); have hc := st.facts; (try simp only [nfl, nft, Nat.reduceAdd] at hc))
  obtain ⟨fr', al', st', back⟩ := st.sub [0] (by decide) (by simp)
  (try simp only [nsl, Value.cells, unB] at st')
  refine (refGetName_m st' hl).mono ?_
  clear st'
  intro en w hen
  unfold RefC at hen
  cases hr : bnd res rdName with
  | error e =>
    rw [hr] at hen
    obtain ⟨rfl, st'⟩ := hen
    replace st := back _ _ (by simp) st'
    clear back st'
    (try simp only [nsl, Value.cells, unB] at st)
    (try clear hc); have hc := st.facts; (try simp only [nfl, nft, Nat.reduceAdd] at hc)
    have HE : Hid (bnd res rdRole = .error e) := Lib.hid (by
      cases res with
      | error e' => simpa [bnd] using hr
      | ok xs => simp only [bnd] at hr ⊢; unfold rdRole; rw [hr])
    clear hr
    unfold S
    go_wp2_with ((first
          | ((with_reducible refine wl_alloc ?_ (fun K hK => ?_)); rfl; refine owp_alloc (o := ⟨some 2, _, _, _, _, _⟩) rfl st ?_; apply Exists.intro; apply Exists.intro; refine ⟨?_, ?_⟩; (focus (first | (go_simp; done) | (go_simp; rfl))); (clear st; intro b2 w hb st; clear hb))
          | ((with_reducible refine wl_store ?_ (fun K hK => ?_)); rfl; refine owp_store rfl st ?_; apply Exists.intro; apply Exists.intro; refine ⟨?_, ?_, ?_⟩; (focus (go_simp; try rfl)); (focus (go_simp; try rfl)); (first | (with_reducible refine ⟨0, _, _, _, _, get0, rfl, rfl, ?_, ?_, ?_, ?_⟩) | (with_reducible refine ⟨1, _, _, _, _, get1, rfl, rfl, ?_, ?_, ?_, ?_⟩) | (with_reducible refine ⟨2, _, _, _, _, get2, rfl, rfl, ?_, ?_, ?_, ?_⟩) | (with_reducible refine ⟨3, _, _, _, _, get3, rfl, rfl, ?_, ?_, ?_, ?_⟩) | (with_reducible refine ⟨4, _, _, _, _, get4, rfl, rfl, ?_, ?_, ?_, ?_⟩) | (with_reducible refine ⟨5, _, _, _, _, get5, rfl, rfl, ?_, ?_, ?_, ?_⟩) | (with_reducible refine ⟨6, _, _, _, _, get6, rfl, rfl, ?_, ?_, ?_, ?_⟩) | (with_reducible refine ⟨7, _, _, _, _, get7, rfl, rfl, ?_, ?_, ?_, ?_⟩)); (kernel_rfl); (simp [Value.cells]); (rfl); (clear st; intro w st))); (try simp only [nsl, Value.cells, unB] at st); (try clear hc); have hc := st.facts; (try simp only [nfl, nft, Nat.reduceAdd] at hc))
    obtain ⟨fr', al', st', back⟩ := st.sub [0] (by decide) (by simp)
    (try simp only [nsl, Value.cells, unB] at st')
    refine (refGetName_m st' (fun xs hx => by cases hx)).mono ?_
    clear st'
    intro en w hen
    unfold RefC bnd at hen
    obtain ⟨rfl, st'⟩ := hen
    replace st := back _ _ (by simp) st'
    clear back st'
    (try simp only [nsl, Value.cells, unB] at st)
    (try clear hc); have hc := st.facts; (try simp only [nfl, nft, Nat.reduceAdd] at hc)
    obtain ⟨xs, he, st1⟩ := st.refErr (i := 0) get0
    clear st
    have st := st1
    clear st1
    have hne : (e != 0) = true := by simpa using he
    (try simp only [nsl, Value.cells, unB] at st)
    (try clear hc); have hc := st.facts; (try simp only [nfl, nft, Nat.reduceAdd] at hc)
    unfold S
    go_wp2_with ((first
          | ((with_reducible refine wl_alloc ?_ (fun K hK => ?_)); rfl; refine owp_alloc (o := ⟨some 2, _, _, _, _, _⟩) rfl st ?_; apply Exists.intro; apply Exists.intro; refine ⟨?_, ?_⟩; (focus (first | (go_simp; done) | (go_simp; rfl))); (clear st; intro b2 w hb st; clear hb))
          | ((with_reducible refine wl_store ?_ (fun K hK => ?_)); rfl; refine owp_store rfl st ?_; apply Exists.intro; apply Exists.intro; refine ⟨?_, ?_, ?_⟩; (focus (go_simp; try rfl)); (focus (go_simp; try rfl)); (first | (with_reducible refine ⟨0, _, _, _, _, get0, rfl, rfl, ?_, ?_, ?_, ?_⟩) | (with_reducible refine ⟨1, _, _, _, _, get1, rfl, rfl, ?_, ?_, ?_, ?_⟩) | (with_reducible refine ⟨2, _, _, _, _, get2, rfl, rfl, ?_, ?_, ?_, ?_⟩) | (with_reducible refine ⟨3, _, _, _, _, get3, rfl, rfl, ?_, ?_, ?_, ?_⟩) | (with_reducible refine ⟨4, _, _, _, _, get4, rfl, rfl, ?_, ?_, ?_, ?_⟩) | (with_reducible refine ⟨5, _, _, _, _, get5, rfl, rfl, ?_, ?_, ?_, ?_⟩) | (with_reducible refine ⟨6, _, _, _, _, get6, rfl, rfl, ?_, ?_, ?_, ?_⟩) | (with_reducible refine ⟨7, _, _, _, _, get7, rfl, rfl, ?_, ?_, ?_, ?_⟩)); (kernel_rfl); (simp [Value.cells]); (rfl); (clear st; intro w st))); (try simp only [nsl, Value.cells, unB] at st); (try clear hc); have hc := st.facts; (try simp only [nfl, nft, Nat.reduceAdd] at hc))
    (try simp only [Exit.inBlock, Exit.then])
    refine bodyPost_cell rfl rfl (st.blk (i := 1) get1) Try.underlying30 rfl (by kernel_rfl) rfl ?_
    unfold RefC
    rw [HE.out]
    have st2 := (st.refMkE (i := 0) (t := t) (xs := xs) (er := e) rfl he).keep [0] (by decide) (by simp)
    exact ⟨rfl, by simpa [pick] using st2⟩
  | ok p =>
    obtain ⟨o, ys⟩ := p
    rw [hr] at hen
    obtain ⟨rfl, st'⟩ := hen
    replace st := back _ _ (by simp) st'
    clear back st'
    (try simp only [nsl, Value.cells, unB] at st)
    (try clear hc); have hc := st.facts; (try simp only [nfl, nft, Nat.reduceAdd] at hc)
    obtain ⟨xs, hres⟩ : ∃ xs, res = .ok xs := by
      cases res with
      | error e => simp [bnd] at hr
      | ok xs => exact ⟨xs, rfl⟩
    subst hres
    simp only [bnd] at hr
    have hyl := (rdName_le hr).1
    have hxl := hl xs rfl
    have HR := Lib.hid hr
    clear hr
    unfold S
    go_wp2_with ((first
          | ((with_reducible refine wl_alloc ?_ (fun K hK => ?_)); rfl; refine owp_alloc (o := ⟨some 2, _, _, _, _, _⟩) rfl st ?_; apply Exists.intro; apply Exists.intro; refine ⟨?_, ?_⟩; (focus (first | (go_simp; done) | (go_simp; rfl))); (clear st; intro b2 w hb st; clear hb))
          | ((with_reducible refine wl_store ?_ (fun K hK => ?_)); rfl; refine owp_store rfl st ?_; apply Exists.intro; apply Exists.intro; refine ⟨?_, ?_, ?_⟩; (focus (go_simp; try rfl)); (focus (go_simp; try rfl)); (first | (with_reducible refine ⟨0, _, _, _, _, get0, rfl, rfl, ?_, ?_, ?_, ?_⟩) | (with_reducible refine ⟨1, _, _, _, _, get1, rfl, rfl, ?_, ?_, ?_, ?_⟩) | (with_reducible refine ⟨2, _, _, _, _, get2, rfl, rfl, ?_, ?_, ?_, ?_⟩) | (with_reducible refine ⟨3, _, _, _, _, get3, rfl, rfl, ?_, ?_, ?_, ?_⟩) | (with_reducible refine ⟨4, _, _, _, _, get4, rfl, rfl, ?_, ?_, ?_, ?_⟩) | (with_reducible refine ⟨5, _, _, _, _, get5, rfl, rfl, ?_, ?_, ?_, ?_⟩) | (with_reducible refine ⟨6, _, _, _, _, get6, rfl, rfl, ?_, ?_, ?_, ?_⟩) | (with_reducible refine ⟨7, _, _, _, _, get7, rfl, rfl, ?_, ?_, ?_, ?_⟩)); (kernel_rfl); (simp [Value.cells]); (rfl); (clear st; intro w st))); (try simp only [nsl, Value.cells, unB] at st); (try clear hc); have hc := st.facts; (try simp only [nfl, nft, Nat.reduceAdd] at hc))
    obtain ⟨fr', al', st', back⟩ := st.sub [0] (by decide) (by simp)
    (try simp only [nsl, Value.cells, unB] at st')
    refine (refGetName_m st' (fun zs hz => by cases hz; omega)).mono ?_
    clear st'
    intro en w hen
    unfold RefC at hen
    rw [show bnd (Except.ok ys) rdName = rdName ys from rfl] at hen
    cases hr : rdName ys with
    | error e =>
      rw [hr] at hen
      obtain ⟨rfl, st'⟩ := hen
      replace st := back _ _ (by simp) st'
      clear back st'
      (try simp only [nsl, Value.cells, unB] at st)
      (try clear hc); have hc := st.facts; (try simp only [nfl, nft, Nat.reduceAdd] at hc)
      have HE : Hid (rdRole xs = .error e) := Lib.hid (by unfold rdRole; rw [HR.out]; simp only; rw [hr])
      clear hr
      obtain ⟨zs, he, st1⟩ := st.refErr (i := 0) get0
      clear st
      have st := st1
      clear st1
      have hne : (e != 0) = true := by simpa using he
      (try simp only [nsl, Value.cells, unB] at st)
      (try clear hc); have hc := st.facts; (try simp only [nfl, nft, Nat.reduceAdd] at hc)
      unfold S
      go_wp2_with ((first
            | ((with_reducible refine wl_alloc ?_ (fun K hK => ?_)); rfl; refine owp_alloc (o := ⟨some 2, _, _, _, _, _⟩) rfl st ?_; apply Exists.intro; apply Exists.intro; refine ⟨?_, ?_⟩; (focus (first | (go_simp; done) | (go_simp; rfl))); (clear st; intro b2 w hb st; clear hb))
            | ((with_reducible refine wl_store ?_ (fun K hK => ?_)); rfl; refine owp_store rfl st ?_; apply Exists.intro; apply Exists.intro; refine ⟨?_, ?_, ?_⟩; (focus (go_simp; try rfl)); (focus (go_simp; try rfl)); (first | (with_reducible refine ⟨0, _, _, _, _, get0, rfl, rfl, ?_, ?_, ?_, ?_⟩) | (with_reducible refine ⟨1, _, _, _, _, get1, rfl, rfl, ?_, ?_, ?_, ?_⟩) | (with_reducible refine ⟨2, _, _, _, _, get2, rfl, rfl, ?_, ?_, ?_, ?_⟩) | (with_reducible refine ⟨3, _, _, _, _, get3, rfl, rfl, ?_, ?_, ?_, ?_⟩) | (with_reducible refine ⟨4, _, _, _, _, get4, rfl, rfl, ?_, ?_, ?_, ?_⟩) | (with_reducible refine ⟨5, _, _, _, _, get5, rfl, rfl, ?_, ?_, ?_, ?_⟩) | (with_reducible refine ⟨6, _, _, _, _, get6, rfl, rfl, ?_, ?_, ?_, ?_⟩) | (with_reducible refine ⟨7, _, _, _, _, get7, rfl, rfl, ?_, ?_, ?_, ?_⟩)); (kernel_rfl); (simp [Value.cells]); (rfl); (clear st; intro w st))); (try simp only [nsl, Value.cells, unB] at st); (try clear hc); have hc := st.facts; (try simp only [nfl, nft, Nat.reduceAdd] at hc))
      (try simp only [Exit.inBlock, Exit.then])
      refine bodyPost_cell rfl rfl (st.blk (i := 1) get1) Try.underlying30 rfl (by kernel_rfl) rfl ?_
      unfold RefC
      rw [show bnd (Except.ok xs) rdRole = rdRole xs from rfl, HE.out]
      have st2 := (st.refMkE (i := 0) (t := t) (xs := zs) (er := e) rfl he).keep [0] (by decide) (by simp)
      exact ⟨rfl, by simpa [pick] using st2⟩
    | ok p =>
      obtain ⟨d, zs⟩ := p
      rw [hr] at hen
      obtain ⟨rfl, st'⟩ := hen
      replace st := back _ _ (by simp) st'
      clear back st'
      (try simp only [nsl, Value.cells, unB] at st)
      (try clear hc); have hc := st.facts; (try simp only [nfl, nft, Nat.reduceAdd] at hc)
      have HE : Hid (rdRole xs = .ok ((o, d), zs)) := Lib.hid (by unfold rdRole; rw [HR.out]; simp only; rw [hr])
      clear hr
      replace st := st.refOk (i := 0) get0
      (try simp only [nsl, Value.cells, unB] at st)
      (try clear hc); have hc := st.facts; (try simp only [nfl, nft, Nat.reduceAdd] at hc)
      unfold S
      go_wp2_with ((first
            | ((with_reducible refine wl_alloc ?_ (fun K hK => ?_)); rfl; refine owp_alloc (o := ⟨some 2, _, _, _, _, _⟩) rfl st ?_; apply Exists.intro; apply Exists.intro; refine ⟨?_, ?_⟩; (focus (first | (go_simp; done) | (go_simp; rfl))); (clear st; intro b2 w hb st; clear hb))
            | ((with_reducible refine wl_store ?_ (fun K hK => ?_)); rfl; refine owp_store rfl st ?_; apply Exists.intro; apply Exists.intro; refine ⟨?_, ?_, ?_⟩; (focus (go_simp; try rfl)); (focus (go_simp; try rfl)); (first | (with_reducible refine ⟨0, _, _, _, _, get0, rfl, rfl, ?_, ?_, ?_, ?_⟩) | (with_reducible refine ⟨1, _, _, _, _, get1, rfl, rfl, ?_, ?_, ?_, ?_⟩) | (with_reducible refine ⟨2, _, _, _, _, get2, rfl, rfl, ?_, ?_, ?_, ?_⟩) | (with_reducible refine ⟨3, _, _, _, _, get3, rfl, rfl, ?_, ?_, ?_, ?_⟩) | (with_reducible refine ⟨4, _, _, _, _, get4, rfl, rfl, ?_, ?_, ?_, ?_⟩) | (with_reducible refine ⟨5, _, _, _, _, get5, rfl, rfl, ?_, ?_, ?_, ?_⟩) | (with_reducible refine ⟨6, _, _, _, _, get6, rfl, rfl, ?_, ?_, ?_, ?_⟩) | (with_reducible refine ⟨7, _, _, _, _, get7, rfl, rfl, ?_, ?_, ?_, ?_⟩)); (kernel_rfl); (simp [Value.cells]); (rfl); (clear st; intro w st))); (try simp only [nsl, Value.cells, unB] at st); (try clear hc); have hc := st.facts; (try simp only [nfl, nft, Nat.reduceAdd] at hc))
      (try simp only [Exit.inBlock, Exit.then])
      refine bodyPost_cell rfl rfl (st.blk (i := 1) get1) Try.underlying30 rfl (by kernel_rfl) rfl ?_
      unfold RefC
      rw [show bnd (Except.ok xs) rdRole = rdRole xs from rfl, HE.out]
      have st2 := (st.refMk (i := 0) (t := t) (xs := zs) rfl).keep [0] (by decide) (by simp)
      exact ⟨rfl, by simpa [pick] using st2⟩
end Go.Proofs.Ytekngjkjgmplpaa

namespace Go.Proofs.Ytekngjkjgmplpaa
set_option linter.unusedSimpArgs false
set_option linter.unusedVariables false
open Go Go.RowKit
def roleLt (a b : Role) : Bool := strLt a.1 b.1 || (a.1 == b.1 && strLt a.2 b.2)
theorem strLt_irr (x : List UInt8) : strLt x x = false := (strOrd (fun _ => true)).irr x
theorem strLt_tr {x y z : List UInt8} (h : strLt x y = true) (k : strLt y z = true) : strLt x z = true := (strOrd (fun _ => true)).tr _ _ _ h k
theorem strLt_tri (x y : List UInt8) : strLt x y = true ∨ x = y ∨ strLt y x = true := (strOrd (fun _ => true)).tri x y rfl rfl
theorem roleOrd (P : Role → Bool) : SOrd roleLt P where
  irr x := by simp [roleLt, strLt_irr]
  tr x y z h1 h2 := by
    simp only [roleLt, Bool.or_eq_true, Bool.and_eq_true, beq_iff_eq] at *
    rcases h1 with h1 | ⟨h1, h1'⟩ <;> rcases h2 with h2 | ⟨h2, h2'⟩
    · exact .inl (strLt_tr h1 h2)
    · exact .inl (h2 ▸ h1)
    · exact .inl (h1 ▸ h2)
    · exact .inr ⟨h1.trans h2, strLt_tr h1' h2'⟩
  tri x y _ _ := by
    simp only [roleLt, Bool.or_eq_true, Bool.and_eq_true, beq_iff_eq]
    rcases strLt_tri x.1 y.1 with h | h | h
    · exact .inl (.inl h)
    · rcases strLt_tri x.2 y.2 with k | k | k
      · exact .inl (.inr ⟨h, k⟩)
      · exact .inr (.inl (Prod.ext h k))
      · exact .inr (.inr (.inr ⟨h.symm, k⟩))
    · exact .inr (.inr (.inl h))
/-- What Compare tells. -/
def roleCmp (a b : Role) : Int := if roleLt a b = true then -1 else if roleLt b a = true then 1 else 0
theorem cmpBytes_eq : ∀ (a b : List UInt8), Lib.compareBytes a b = if strLt a b = true then -1 else if strLt b a = true then 1 else 0
  | [], [] => by simp [Lib.compareBytes, strLt, Op.bytesLess]
  | [], _ :: _ => by simp [Lib.compareBytes, strLt, Op.bytesLess]
  | _ :: _, [] => by simp [Lib.compareBytes, strLt, Op.bytesLess]
  | a :: s, b :: t => by
    have ih := cmpBytes_eq s t
    simp only [strLt] at ih
    simp only [Lib.compareBytes, strLt, Op.bytesLess]
    by_cases h1 : a < b
    · simp [h1]
    · by_cases h2 : b < a
      · have hab : (a == b) = false := by
          cases hq : a == b with
          | false => rfl
          | true => have e : a = b := by simpa using hq
                    subst e; exact absurd h2 h1
        simp [h1, h2, hab]
      · have e : a = b := by
          apply UInt8.toNat_inj.1
          have q1 : ¬ a.toNat < b.toNat := fun q => h1 (by simpa [UInt8.lt_iff_toNat_lt] using q)
          have q2 : ¬ b.toNat < a.toNat := fun q => h2 (by simpa [UInt8.lt_iff_toNat_lt] using q)
          omega
        subst e
        simp [h1, ih]
        rfl
set_option maxRecDepth 100000 in
set_option maxHeartbeats 1000000 in
theorem refRoleLess_any (a b : Role) (W : World) : Calls Try.prog 140 #[rV a, rV b] W fun e w' => e = .returned (.bool (roleLt a b)) ∧ Ext W w' := by
  obtain ⟨o, d⟩ := a
  obtain ⟨o', d'⟩ := b
  have st := Own.startOld W
  unfold rV roleLt S strLt
  simp only
  (try simp only [nsl, Value.cells, unB] at st)
  (try clear hc); have hc := st.facts; (try simp only [nfl, nft, Nat.reduceAdd] at hc)
  cases h1 : Op.bytesLess o o' with
  | true =>
    go_enter Try.func140, Try.ntmps140
    go_wp2_with ((first
          | ((with_reducible refine wl_box ?_ (fun K hK => ?_)); rfl; refine owp_box (o := ⟨some 2, _, _, _, _, _⟩) rfl st ?_; apply Exists.intro; refine ⟨?_, ?_⟩; (focus (go_simp; try rfl)); (clear st; intro b2 w hb st; clear hb))
          | ((with_reducible refine wl_box ?_ (fun K hK => ?_)); rfl; refine owp_box (o := ⟨some 3, _, _, _, _, _⟩) rfl st ?_; apply Exists.intro; refine ⟨?_, ?_⟩; (focus (go_simp; try rfl)); (clear st; intro b3 w hb st; clear hb))); (try simp only [nsl, Value.cells, unB] at st); (try clear hc); have hc := st.facts; (try simp only [nfl, nft, Nat.reduceAdd] at hc))
    go_ret
    exact ⟨by simp [h1], st.ext0⟩
  | false =>
    cases h2 : (o == o') with
    | true =>
      go_enter Try.func140, Try.ntmps140
      go_wp2_with ((first
            | ((with_reducible refine wl_box ?_ (fun K hK => ?_)); rfl; refine owp_box (o := ⟨some 2, _, _, _, _, _⟩) rfl st ?_; apply Exists.intro; refine ⟨?_, ?_⟩; (focus (go_simp; try rfl)); (clear st; intro b2 w hb st; clear hb))
            | ((with_reducible refine wl_box ?_ (fun K hK => ?_)); rfl; refine owp_box (o := ⟨some 3, _, _, _, _, _⟩) rfl st ?_; apply Exists.intro; refine ⟨?_, ?_⟩; (focus (go_simp; try rfl)); (clear st; intro b3 w hb st; clear hb))); (try simp only [nsl, Value.cells, unB] at st); (try clear hc); have hc := st.facts; (try simp only [nfl, nft, Nat.reduceAdd] at hc))
      go_ret
      exact ⟨by simp [h1, h2], st.ext0⟩
    | false =>
      go_enter Try.func140, Try.ntmps140
      go_wp2_with ((first
            | ((with_reducible refine wl_box ?_ (fun K hK => ?_)); rfl; refine owp_box (o := ⟨some 2, _, _, _, _, _⟩) rfl st ?_; apply Exists.intro; refine ⟨?_, ?_⟩; (focus (go_simp; try rfl)); (clear st; intro b2 w hb st; clear hb))
            | ((with_reducible refine wl_box ?_ (fun K hK => ?_)); rfl; refine owp_box (o := ⟨some 3, _, _, _, _, _⟩) rfl st ?_; apply Exists.intro; refine ⟨?_, ?_⟩; (focus (go_simp; try rfl)); (clear st; intro b3 w hb st; clear hb))); (try simp only [nsl, Value.cells, unB] at st); (try clear hc); have hc := st.facts; (try simp only [nfl, nft, Nat.reduceAdd] at hc))
      go_ret
      exact ⟨by simp [h1, h2], st.ext0⟩
def or2 (x y : Int) : Int := if x = 0 then y else x
set_option maxRecDepth 100000 in
set_option maxHeartbeats 1000000 in
theorem cmpOr2_any (b k : Nat) (x y : Int) (W : World) (h0 : W.cell? ⟨b, 0, none⟩ = some (.int .i64 x)) (h1 : W.cell? ⟨b, 1, none⟩ = some (.int .i64 y)) :
    Calls Try.prog 201 #[.slice (some ⟨b, 0, none⟩) 2 k] W fun e w' => e = .returned (.int .i64 (or2 x y)) ∧ Ext W w' := by
  have H := Lib.hid (And.intro h0 h1)
  clear h0 h1
  have st := Own.startOld W
  (try simp only [nsl, Value.cells, unB] at st)
  (try clear hc); have hc := st.facts; (try simp only [nfl, nft, Nat.reduceAdd] at hc)
  go_enter Try.func201, Try.ntmps201
  go_wp2_with fail
  go_loopg [8] 2 (fun k i wr => ∃ (j : Nat), j ≤ 2 ∧ k = 2 - j ∧ i = .int .i64 (j : Int) ∧ Hid ((0 < j → x = 0) ∧ (1 < j → y = 0)) ∧ Own (fun _ => False) (fun _ => True) W [oldI W] wr)
  case atStart => exact ⟨0, by omega, by omega, rfl, Lib.hid ⟨by omega, by omega⟩, st⟩
  case round =>
    obtain ⟨j, hj, rfl, rfl, HT, st'⟩ := hrel
    clear st hc
    have st := st'
    clear st'
    have r0 := st.oldCell (i := 0) get0 H.out.1
    have r1 := st.oldCell (i := 0) get0 H.out.2
    match j, hj with
    | 0, _ =>
      by_cases hx : x = 0
      · subst hx
        go_wp2_with fail
        go_roundg 1
        case measure => omega
        case rel => exact ⟨1, by omega, by omega, by first | rfl | trivial | go_num, Lib.hid (by simp), st⟩
      · have hb : (x != 0) = true := by simpa using hx
        have HX := Lib.hid hx
        clear hx
        go_wp2_with fail
        go_ret
        exact ⟨by rw [show or2 x y = x from if_neg HX.out]; rfl, st.ext0⟩
    | 1, _ =>
      have HX : Hid (x = 0) := Lib.hid (HT.out.1 (by omega))
      by_cases hy : y = 0
      · subst hy
        go_wp2_with fail
        go_roundg 0
        case measure => omega
        case rel => exact ⟨2, by omega, by omega, by first | rfl | trivial | go_num, Lib.hid (by simp [HX.out]), st⟩
      · have hb : (y != 0) = true := by simpa using hy
        clear hy
        go_wp2_with fail
        go_ret
        exact ⟨by rw [show or2 x y = y from if_pos HX.out]; rfl, st.ext0⟩
    | 2, _ =>
      have HX : Hid (x = 0 ∧ y = 0) := Lib.hid ⟨HT.out.1 (by omega), HT.out.2 (by omega)⟩
      go_wp2_with fail
      go_ret
      exact ⟨by rw [show or2 x y = 0 from (if_pos HX.out.1).trans HX.out.2]; rfl, st.ext0⟩
    | j + 3, hj => omega
def cmp2 (x y : List UInt8) : Int := if strLt x y = true then -1 else if strLt y x = true then 1 else 0
theorem strCompare_any (a b : List UInt8) (W : World) : Calls Try.prog 202 #[.string ⟨a.toArray⟩, .string ⟨b.toArray⟩] W fun e w' => e = .returned (.int .i64 (cmp2 a b)) ∧ Ext W w' := by
  refine (Try.strings_Compare ⟨a.toArray⟩ ⟨b.toArray⟩ W).mono ?_
  rintro e w' ⟨rfl, rfl⟩
  exact ⟨by rw [show cmp2 a b = Lib.compareBytes a b from (cmpBytes_eq a b).symm], Ext.refl _⟩
theorem roleCmp_or (o d o' d' : List UInt8) : or2 (cmp2 o o') (cmp2 d d') = roleCmp (o, d) (o', d') := by
  unfold roleCmp roleLt or2 cmp2
  simp only
  rcases strLt_tri o o' with h | h | h
  · have h2 : strLt o' o = false := (strLt_asymm h).1
    simp [h]
  · subst h; simp [strLt_irr]
  · have h2 : strLt o o' = false := (strLt_asymm h).1
    have h3 : (o == o') = false := by have := (strLt_asymm h).2; exact this
    have h4 : (o' == o) = false := by cases hq : o' == o with
      | false => rfl
      | true => have e : o' = o := by simpa using hq
                subst e; rw [strLt_irr] at h; cases h
    simp [h, h2, h3]
set_option maxRecDepth 100000 in
set_option maxHeartbeats 1000000 in
theorem roleCompare_any (a b : Role) (W : World) : Calls Try.prog 164 #[rV a, rV b] W fun e w' => e = .returned (.int .i64 (roleCmp a b)) ∧ Ext W w' := by
  obtain ⟨o, d⟩ := a
  obtain ⟨o', d'⟩ := b
  have st := Own.startOld W
  have HO := Lib.hid (roleCmp_or o d o' d')
  unfold rV S
  simp only
  (try simp only [nsl, Value.cells, unB] at st)
  (try clear hc); have hc := st.facts; (try simp only [nfl, nft, Nat.reduceAdd] at hc)
  go_enter Try.func164, Try.ntmps164
  go_wp2_with ((first
        | ((with_reducible refine wl_box ?_ (fun K hK => ?_)); rfl; refine owp_box (o := ⟨some 2, _, _, _, _, _⟩) rfl st ?_; apply Exists.intro; refine ⟨?_, ?_⟩; (focus (go_simp; try rfl)); (clear st; intro b2 w hb st; clear hb))
        | ((with_reducible refine wl_box ?_ (fun K hK => ?_)); rfl; refine owp_box (o := ⟨some 3, _, _, _, _, _⟩) rfl st ?_; apply Exists.intro; refine ⟨?_, ?_⟩; (focus (go_simp; try rfl)); (clear st; intro b3 w hb st; clear hb))
        | ((with_reducible refine wl_buildSlice ?_ (fun K hK => ?_)); rfl; refine owp_buildSlice (o := ⟨some 15, _, _, _, _, _⟩) rfl st ?_; apply Exists.intro; apply Exists.intro; apply Exists.intro; apply Exists.intro; refine ⟨?_, ?_⟩; (focus (go_simp; (first | done | exact ⟨⟨rfl, rfl⟩, rfl⟩ | rfl))); (clear st; intro b15 w hb st; clear hb))); (try simp only [nsl, Value.cells, unB] at st); (try clear hc); have hc := st.facts; (try simp only [nfl, nft, Nat.reduceAdd] at hc))
  refine Rg4.wp_region4 (Rel := Ext) #[0, 1, 0, 4, 15, 0, 32, 0, 128, 511, 1023, 2047, 4095]
    [(4, .val (.int .i64 (cmp2 o o'))), (9, .val (.int .i64 (cmp2 d d')))] [10, 11] [1, 3, 6, 8] (fun _ => True) [0, 1, 2, 3, 4, 5, 6, 7, 8, 9, 10, 11, 12] (by kernel_rfl) (by kernel_rfl) (by kernel_rfl) (by kernel_rfl) Ext.refl (fun _ _ _ => Ext.trans) (show Rg4.PB _ by repeat (first | with_reducible exact Rg4.pb_body | with_reducible exact Rg4.pb_bodyD rfl | with_reducible refine Rg4.pb_then ?_ | with_reducible refine Rg4.pb_inBlock ?_ | with_reducible refine Rg4.pb_noGoto ?_)) (trivial) ?_
  replace st := st.drew
  change Rg4.wp4 _ _ _ _ _ _ _ _ _ (World.drew _) _ _
  generalize World.drew _ = w at st ⊢
  (try clear hc); have hc := st.facts; (try simp only [nfl, nft, Nat.reduceAdd] at hc)
  (refine Rg4.w4_any (Rg4.want_none rfl) rfl ?_; apply Exists.intro; refine ⟨fun w' => ?_, ?_⟩; (focus (first | (go_simp; done) | (go_simp; first | rfl | (rw [if_neg] <;> first | rfl | omega) | (rw [if_pos] <;> first | rfl | omega)))); (try simp only [Rg4.nrm]))
  (refine Rg4.w4_read (Rg4.want_none rfl) rfl rfl ?_; apply Exists.intro; refine ⟨fun w' hw' hcl' => ?_, ?_⟩; focus (have st' := st.ext hw'; have hc' := st'.facts; (try simp only [nfl, nft, Nat.reduceAdd] at hc'); (focus (first | (go_simp; done) | (go_simp; first | rfl | (rw [if_neg] <;> first | rfl | omega) | (rw [if_pos] <;> first | rfl | omega))))); (try simp only [Rg4.nrm]))
  (refine Rg4.w4_any (Rg4.want_none rfl) rfl ?_; apply Exists.intro; refine ⟨fun w' => ?_, ?_⟩; (focus (first | (go_simp; done) | (go_simp; first | rfl | (rw [if_neg] <;> first | rfl | omega) | (rw [if_pos] <;> first | rfl | omega)))); (try simp only [Rg4.nrm]))
  (refine Rg4.w4_read (Rg4.want_none rfl) rfl rfl ?_; apply Exists.intro; refine ⟨fun w' hw' hcl' => ?_, ?_⟩; focus (have st' := st.ext hw'; have hc' := st'.facts; (try simp only [nfl, nft, Nat.reduceAdd] at hc'); (focus (first | (go_simp; done) | (go_simp; first | rfl | (rw [if_neg] <;> first | rfl | omega) | (rw [if_pos] <;> first | rfl | omega))))); (try simp only [Rg4.nrm]))
  refine Rg4.w4_some (Rg4.want_none rfl) rfl (fun w' hw' hcl' _ => ?_) ?_
  · refine Rg.relAt_call (by go_simp; exact ⟨rfl, rfl⟩) ?_
    refine (strCompare_any o o' _).mono ?_
    rintro en w'' ⟨rfl, hx⟩
    exact ⟨_, rfl, hx, trivial, rfl⟩
  rintro v ⟨_, _, _, rfl⟩
  (try simp only [Rg4.nrm])
  (refine Rg4.w4_any (Rg4.want_none rfl) rfl ?_; apply Exists.intro; refine ⟨fun w' => ?_, ?_⟩; (focus (first | (go_simp; done) | (go_simp; first | rfl | (rw [if_neg] <;> first | rfl | omega) | (rw [if_pos] <;> first | rfl | omega)))); (try simp only [Rg4.nrm]))
  (refine Rg4.w4_read (Rg4.want_none rfl) rfl rfl ?_; apply Exists.intro; refine ⟨fun w' hw' hcl' => ?_, ?_⟩; focus (have st' := st.ext hw'; have hc' := st'.facts; (try simp only [nfl, nft, Nat.reduceAdd] at hc'); (focus (first | (go_simp; done) | (go_simp; first | rfl | (rw [if_neg] <;> first | rfl | omega) | (rw [if_pos] <;> first | rfl | omega))))); (try simp only [Rg4.nrm]))
  (refine Rg4.w4_any (Rg4.want_none rfl) rfl ?_; apply Exists.intro; refine ⟨fun w' => ?_, ?_⟩; (focus (first | (go_simp; done) | (go_simp; first | rfl | (rw [if_neg] <;> first | rfl | omega) | (rw [if_pos] <;> first | rfl | omega)))); (try simp only [Rg4.nrm]))
  (refine Rg4.w4_read (Rg4.want_none rfl) rfl rfl ?_; apply Exists.intro; refine ⟨fun w' hw' hcl' => ?_, ?_⟩; focus (have st' := st.ext hw'; have hc' := st'.facts; (try simp only [nfl, nft, Nat.reduceAdd] at hc'); (focus (first | (go_simp; done) | (go_simp; first | rfl | (rw [if_neg] <;> first | rfl | omega) | (rw [if_pos] <;> first | rfl | omega))))); (try simp only [Rg4.nrm]))
  refine Rg4.w4_some (Rg4.want_none rfl) rfl (fun w' hw' hcl' _ => ?_) ?_
  · refine Rg.relAt_call (by go_simp; exact ⟨rfl, rfl⟩) ?_
    refine (strCompare_any d d' _).mono ?_
    rintro en w'' ⟨rfl, hx⟩
    exact ⟨_, rfl, hx, trivial, rfl⟩
  rintro v ⟨_, _, _, rfl⟩
  (try simp only [Rg4.nrm])
  (refine Rg4.w4_bar (Rg4.want_none rfl) rfl (fun w' hw' hcl' _ K hK => ?_); replace st := st.ext hw'; (refine owp_buildSlice (o := ⟨some 15, _, _, _, _, _⟩) rfl st ?_; apply Exists.intro; apply Exists.intro; apply Exists.intro; apply Exists.intro; refine ⟨?_, ?_⟩; (focus (go_simp; (first | done | exact ⟨⟨rfl, rfl⟩, rfl⟩ | rfl))); (clear st; intro b15 w hb st; clear hb); (try simp only [nsl, Value.cells, unB] at st); (try clear hc); have hc := st.facts; (try simp only [nfl, nft, Nat.reduceAdd] at hc)); refine hK _ _ ⟨trivial, ?_⟩; (try simp only [Rg4.nrm]))
  refine Rg4.w4_bar (Rg4.want_none rfl) rfl (fun w' hw' hcl _ K hK => ?_)
  replace st := st.ext hw'
  clear hw'
  (try clear hc); have hc := st.facts; (try simp only [nfl, nft, Nat.reduceAdd] at hc)
  go_wp2_with fail
  refine (cmpOr2_any b15 2 _ _ _ hc.2.2.1 hc.2.2.2).mono ?_
  rintro en w ⟨rfl, hx⟩
  replace st := st.ext hx
  clear hx
  (try clear hc); have hc := st.facts; (try simp only [nfl, nft, Nat.reduceAdd] at hc)
  rw [HO.out]
  refine hK _ _ ⟨trivial, ?_⟩
  clear hK
  (try simp only [Rg4.nrm])
  (refine Rg4.w4_any (Rg4.want_none rfl) rfl ?_; apply Exists.intro; refine ⟨fun w' => ?_, ?_⟩; (focus (first | (go_simp; done) | (go_simp; first | rfl | (rw [if_neg] <;> first | rfl | omega) | (rw [if_pos] <;> first | rfl | omega)))); (try simp only [Rg4.nrm]))
  refine Rg4.w4_nil (fun w' hw' hcl' _ => ?_); replace st := st.ext hw'; clear hw' hcl'; (try clear hc); have hc := st.facts; (try simp only [nfl, nft, Nat.reduceAdd] at hc)
  go_wp2_with fail
  go_ret
  exact ⟨rfl, st.ext0⟩
/-- The first dot parts a text. -/
def cutDot : List UInt8 → Option (List UInt8 × List UInt8)
  | [] => none
  | x :: s => if x = 46 then some ([], s) else (cutDot s).map fun p => (x :: p.1, p.2)
theorem cutDot_none : ∀ {s : List UInt8}, (∀ x ∈ s, x ≠ 46) → cutDot s = none
  | [], _ => rfl
  | x :: s, h => by
    rw [cutDot, if_neg (h x (by simp)), cutDot_none fun y hy => h y (List.mem_cons_of_mem _ hy)]; rfl
theorem cutDot_at : ∀ {s : List UInt8} {j : Nat}, s[j]? = some 46 → (∀ x ∈ s.take j, x ≠ 46) → cutDot s = some (s.take j, s.drop (j + 1))
  | [], j, h, _ => by simp at h
  | x :: s, 0, h, _ => by simp at h; subst h; simp [cutDot]
  | x :: s, j + 1, h, hp => by
    have ih := cutDot_at (s := s) (j := j) (by simpa using h) fun y hy => hp y (by simp [hy])
    rw [cutDot, if_neg (hp x (by simp)), ih]; simp
/-- Which role a text is. -/
def roleP (s : List UInt8) : Option Role := match cutDot s with
  | none => none
  | some r => if roleR r = true then some r else none
def roleP1 (s : List UInt8) : Role := (roleP s).getD ([], [])
theorem cut_ix (s : List UInt8) : (Lib.indexByte s 46 = -1 ∧ cutDot s = none) ∨ ∃ j : Nat, Lib.indexByte s 46 = (j : Int) ∧ j < s.length ∧ cutDot s = some (s.take j, s.drop (j + 1)) := by
  have hge := Lib.indexByte_ge s 46
  by_cases h : Lib.indexByte s 46 = -1
  · refine .inl ⟨h, cutDot_none fun x hx e => ?_⟩
    obtain ⟨k, hk, hkx⟩ := List.getElem_of_mem hx
    exact Lib.indexByte_none h k (by rw [List.getElem?_eq_getElem hk, hkx, e])
  · obtain ⟨j, hj⟩ : ∃ j : Nat, Lib.indexByte s 46 = (j : Int) := ⟨(Lib.indexByte s 46).toNat, by omega⟩
    obtain ⟨h1, h2⟩ := Lib.indexByte_some hj
    refine .inr ⟨j, hj, (List.getElem?_eq_some_iff.1 h1).1, cutDot_at h1 fun x hx e => ?_⟩
    obtain ⟨k, hk, hkx⟩ := List.getElem_of_mem hx
    simp at hk hkx
    exact h2 k (by omega) (by rw [List.getElem?_eq_getElem (by omega), hkx, e])
end Go.Proofs.Ytekngjkjgmplpaa

namespace Go.Proofs.Ytekngjkjgmplpaa
set_option linter.unusedSimpArgs false
set_option linter.unusedVariables false
open Go Go.RowKit
def cutR (s : List UInt8) : List UInt8 × List UInt8 × Bool := match cutDot s with | none => (s, [], false) | some p => (p.1, p.2, true)
theorem cutDot_le {s : List UInt8} {p : List UInt8 × List UInt8} (h : cutDot s = some p) : p.1.length ≤ s.length ∧ p.2.length ≤ s.length := by
  rcases cut_ix s with ⟨_, h0⟩ | ⟨j, _, hj, h0⟩
  · rw [h0] at h; cases h
  · rw [h0] at h; cases h; simp; omega
theorem cutR_le (s : List UInt8) : (cutR s).1.length ≤ s.length ∧ (cutR s).2.1.length ≤ s.length := by
  unfold cutR
  cases h : cutDot s with
  | none => simp
  | some p => exact cutDot_le h
theorem cutR_P (s : List UInt8) : roleP s = if roleR ((cutR s).1, (cutR s).2.1) = true then some ((cutR s).1, (cutR s).2.1) else none := by
  unfold cutR roleP
  cases cutDot s with
  | none => simp [roleR, nameR_nil]
  | some p => rfl
theorem roleP_at {s : List UInt8} {j : Nat} (h : s[j]? = some 46) (hp : ∀ x ∈ s.take j, x ≠ 46) : roleP s = if roleR (s.take j, s.drop (j + 1)) = true then some (s.take j, s.drop (j + 1)) else none := by
  unfold roleP; rw [cutDot_at h hp]
theorem roleP_no {s : List UInt8} (hp : ∀ x ∈ s, x ≠ 46) : roleP s = none := by
  unfold roleP; rw [cutDot_none hp]
end Go.Proofs.Ytekngjkjgmplpaa

namespace Go.Proofs.Ytekngjkjgmplpaa
set_option linter.unusedSimpArgs false
set_option linter.unusedVariables false
open Go Go.RowKit
@[irreducible] def roleEq (a b : Role) : Bool := decide (a = b)
theorem roleEq_eq (a b : Role) : roleEq a b = decide (a = b) := by unfold roleEq; rfl
@[go_sem high] theorem eqRole (o d o' d' : List UInt8) (w : World) : (Op.equalIn 10000 30 (.agg #[.string ⟨o.toArray⟩, .string ⟨d.toArray⟩]) (.agg #[.string ⟨o'.toArray⟩, .string ⟨d'.toArray⟩])).run Try.prog w = .ok (roleEq (o, d) (o', d')) w := by
  have hS : Try.prog.underlying 30 = some (.struct (Try.prog.fieldsOf 30)) := by kernel_rfl
  rw [show (10000 : Nat) = 9999 + 1 from rfl, run_equalIn_agg w 9999 30 _ _ hS (by kernel_rfl), roleEq_eq]
  simp only [Program.fieldsOf, Try.underlying30]
  go_simp
  by_cases h1 : o = o' <;> by_cases h2 : d = d' <;> simp [h1, h2]
theorem Fl.role {w : World} {a : Option Addr} {n : Nat} {xs : List Role} (h : Fl w a n xs) (h0 : 0 < n) : ∃ b off, a = some ⟨b, off, none⟩ ∧ ∀ j x, xs[j]? = some x → w.cell? ⟨b, off + j * 2, none⟩ = some (S x.1) ∧ w.cell? ⟨b, off + j * 2 + 1, none⟩ = some (S x.2) := by
  obtain ⟨b, off, rfl, hc⟩ := h.2 h0
  exact ⟨b, off, rfl, fun j x hj => ⟨hc j x hj 0 _ rfl, hc j x hj 1 _ rfl⟩⟩
set_option maxRecDepth 100000 in
set_option maxHeartbeats 1000000 in
theorem refRoleSame_any (a : Option Addr) (n c : Nat) (l : List Role) (a' : Option Addr) (n' c' : Nat) (l' : List Role) (W : World) (h : Fl W a n l) (h' : Fl W a' n' l') (hn : n ≤ 9000000000000000000) (hn' : n' ≤ 9000000000000000000) :
    Calls Try.prog 141 #[.slice a n c, .slice a' n' c'] W fun e w' => e = .returned (.bool (decide (l = l'))) ∧ Ext W w' := by
  have H := Lib.hid h
  have H' := Lib.hid h'
  have HNL := Lib.hid (And.intro h.1 h'.1)
  clear h h'
  have st := Own.startOld W
  (try simp only [nsl, Value.cells, unB] at st)
  (try clear hc); have hc := st.facts; (try simp only [nfl, nft, Nat.reduceAdd] at hc)
  by_cases hnn : n = n'
  · subst hnn
    go_enter Try.func141, Try.ntmps141
    go_wp2_with fail
    go_loopw [13] (fun i wr => ∃ (j : Nat), j ≤ n ∧ i = .int .i64 (j : Int) ∧ Hid (l.take j = l'.take j) ∧ Own (fun _ => False) (fun _ => True) W [oldI W] wr) (fun i _ => n - (intOf i).toNat)
    case atStart => exact ⟨0, by omega, rfl, Lib.hid (by simp), st⟩
    case round =>
      obtain ⟨j, hj, rfl, HT, st'⟩ := hrel
      clear st hc
      have st := st'
      clear st'
      (try simp only [nsl, Value.cells, unB] at st)
      (try clear hc); have hc := st.facts; (try simp only [nfl, nft, Nat.reduceAdd] at hc)
      by_cases hjn : j < n
      · obtain ⟨b, off, ha, hcell⟩ := H.out.role (by omega)
        obtain ⟨b', off', ha', hcell'⟩ := H'.out.role (by omega)
        have hjl : j < l.length := by have := HNL.out; omega
        have hjl' : j < l'.length := by have := HNL.out; omega
        have HC := Lib.hid (And.intro (hcell j l[j] (List.getElem?_eq_getElem hjl)) (hcell' j l'[j] (List.getElem?_eq_getElem hjl')))
        have hts : l.take (j + 1) = l.take j ++ [l[j]] := (List.take_append_getElem hjl).symm
        have hts' : l'.take (j + 1) = l'.take j ++ [l'[j]] := (List.take_append_getElem hjl').symm
        have hne : l[j] ≠ l'[j] → l ≠ l' := fun h1 h2 => h1 (by subst h2; rfl)
        clear hcell hcell'
        generalize l[j] = x at *
        generalize l'[j] = y at *
        obtain ⟨o, d⟩ := x
        obtain ⟨o', d'⟩ := y
        have HX := Lib.hid (And.intro hts (And.intro hts' hne))
        clear hts hts' hne
        subst ha
        subst ha'
        simp only at HC
        unfold S at HC
        go_wp2_with fail
        refine Rg4.wp_region4_eq #[0, 0, 3, 7, 0, 0, 48, 112, 255] [] [3, 7] (fun _ => True) [0, 1, 2, 3, 4, 5, 6, 7, 8] (by kernel_rfl) (by kernel_rfl) (by kernel_rfl) (by kernel_rfl) (show Rg4.PB _ by repeat (first | with_reducible exact Rg4.pb_body | with_reducible exact Rg4.pb_bodyD rfl | with_reducible refine Rg4.pb_then ?_ | with_reducible refine Rg4.pb_inBlock ?_ | with_reducible refine Rg4.pb_noGoto ?_)) (trivial) ?_
        replace st := st.drew
        change Rg4.wp4 _ _ _ _ _ _ _ _ _ (World.drew _) _ _
        generalize World.drew _ = w at st ⊢
        (try clear hc); have hc := st.facts; (try simp only [nfl, nft, Nat.reduceAdd] at hc)
        iterate 3 (refine Rg4.w4_any (Rg4.want_none rfl) rfl ?_; apply Exists.intro; refine ⟨fun w' => ?_, ?_⟩; (focus (first | (go_simp; done) | (go_simp; first | rfl | (rw [if_neg] <;> first | rfl | omega) | (rw [if_pos] <;> first | rfl | omega)))); (try simp only [Rg4.nrm]))
        (refine Rg4.w4_read (Rg4.want_none rfl) rfl rfl ?_; apply Exists.intro; refine ⟨fun w' hw' hcl' => ?_, ?_⟩; focus (subst hw'; have r0 := st.oldCell (i := 0) get0 HC.out.1.1; have r1 := st.oldCell (i := 0) get0 HC.out.1.2; have r2 := st.oldCell (i := 0) get0 HC.out.2.1; have r3 := st.oldCell (i := 0) get0 HC.out.2.2; (focus (first | (go_simp; done) | (go_simp; first | rfl | (rw [if_neg] <;> first | rfl | omega) | (rw [if_pos] <;> first | rfl | omega))))); (try simp only [Rg4.nrm]))
        iterate 3 (refine Rg4.w4_any (Rg4.want_none rfl) rfl ?_; apply Exists.intro; refine ⟨fun w' => ?_, ?_⟩; (focus (first | (go_simp; done) | (go_simp; first | rfl | (rw [if_neg] <;> first | rfl | omega) | (rw [if_pos] <;> first | rfl | omega)))); (try simp only [Rg4.nrm]))
        (refine Rg4.w4_read (Rg4.want_none rfl) rfl rfl ?_; apply Exists.intro; refine ⟨fun w' hw' hcl' => ?_, ?_⟩; focus (subst hw'; have r0 := st.oldCell (i := 0) get0 HC.out.1.1; have r1 := st.oldCell (i := 0) get0 HC.out.1.2; have r2 := st.oldCell (i := 0) get0 HC.out.2.1; have r3 := st.oldCell (i := 0) get0 HC.out.2.2; (focus (first | (go_simp; done) | (go_simp; first | rfl | (rw [if_neg] <;> first | rfl | omega) | (rw [if_pos] <;> first | rfl | omega))))); (try simp only [Rg4.nrm]))
        (refine Rg4.w4_any (Rg4.want_none rfl) rfl ?_; apply Exists.intro; refine ⟨fun w' => ?_, ?_⟩; (focus (first | (go_simp; done) | (go_simp; first | rfl | (rw [if_neg] <;> first | rfl | omega) | (rw [if_pos] <;> first | rfl | omega)))); (try simp only [Rg4.nrm]))
        refine Rg4.w4_nil (fun w' hw' hcl' _ => ?_); subst hw'; clear hcl'
        cases hxy : roleEq (o, d) (o', d') with
        | true =>
          have hb : (!true) = false := rfl
          have HF : Hid (l.take (j + 1) = l'.take (j + 1)) := Lib.hid (by rw [roleEq_eq, decide_eq_true_eq] at hxy; rw [HX.out.1, HX.out.2.1, HT.out, hxy])
          clear hxy
          simp only [hb]
          go_wp2_with fail
          exact ⟨⟨j + 1, by omega, by go_num, HF, st⟩, by simp [intOf]; omega⟩
        | false =>
          have hb : (!false) = true := rfl
          have HF : Hid (l ≠ l') := Lib.hid (HX.out.2.2 (by rw [roleEq_eq, decide_eq_false_iff_not] at hxy; exact hxy))
          clear hxy
          simp only [hb]
          go_wp2_with fail
          go_ret
          exact ⟨by rw [decide_eq_false HF.out]; rfl, st.ext0⟩
      · obtain rfl : j = n := by omega
        have HF : Hid (l = l') := Lib.hid (by have := HT.out; rw [List.take_of_length_le (by have := HNL.out; omega), List.take_of_length_le (by have := HNL.out; omega)] at this; exact this)
        go_wp2_with fail
        go_ret
        exact ⟨by rw [decide_eq_true HF.out]; rfl, st.ext0⟩
  · have HF : Hid (l ≠ l') := Lib.hid (fun h => hnn (by rw [HNL.out.1, HNL.out.2, h]))
    go_enter Try.func141, Try.ntmps141
    go_wp2_with fail
    go_ret
    exact ⟨by rw [decide_eq_false HF.out]; rfl, st.ext0⟩
end Go.Proofs.Ytekngjkjgmplpaa

namespace Go.Proofs.Ytekngjkjgmplpaa
set_option linter.unusedSimpArgs false
set_option linter.unusedVariables false
open Go Go.RowKit
structure CredT where
  k : Int
  h : Role
  w : List UInt8
  b : Role
  c : Role
  e : List UInt8
deriving DecidableEq, Inhabited
def cC (x : CredT) : List Value := [.int .i64 x.k, S x.h.1, S x.h.2, S x.w, S x.b.1, S x.b.2, S x.c.1, S x.c.2, S x.e]
def cV (x : CredT) : Value := .agg #[.int .i64 x.k, S x.h.1, S x.h.2, S x.w, S x.b.1, S x.b.2, S x.c.1, S x.c.2, S x.e]
instance fltCred : Flt CredT := ⟨9, cC, fun _ => rfl, by decide, fun x u hu => by simp [cC] at hu; rcases hu with rfl | rfl | rfl | rfl | rfl | rfl | rfl | rfl | rfl <;> rfl⟩
theorem fltCred_k : Flt.k CredT = 9 := rfl
@[irreducible] def credEq (a b : CredT) : Bool := decide (a = b)
theorem credEq_eq (a b : CredT) : credEq a b = decide (a = b) := by unfold credEq; rfl
@[go_sem] theorem credEq_self (x : CredT) : credEq x x = true := by rw [credEq_eq]; simp
@[go_sem] theorem roleEq_self' (x : Role) : roleEq x x = true := by rw [roleEq_eq]; simp
theorem iteB (p : Prop) [Decidable p] (b : Bool) (W : World) : (if p then Result.ok b W else Result.ok false W) = Result.ok (decide p && b) W := by
  by_cases h : p <;> simp [h]
@[go_sem high] theorem eqCred (k : Int) (ho hd w bo bd co cd e : List UInt8) (k' : Int) (ho' hd' w' bo' bd' co' cd' e' : List UInt8) (W : World) :
    (Op.equalIn 10000 32 (.agg #[.int .i64 k, .string ⟨ho.toArray⟩, .string ⟨hd.toArray⟩, .string ⟨w.toArray⟩, .string ⟨bo.toArray⟩, .string ⟨bd.toArray⟩, .string ⟨co.toArray⟩, .string ⟨cd.toArray⟩, .string ⟨e.toArray⟩])
      (.agg #[.int .i64 k', .string ⟨ho'.toArray⟩, .string ⟨hd'.toArray⟩, .string ⟨w'.toArray⟩, .string ⟨bo'.toArray⟩, .string ⟨bd'.toArray⟩, .string ⟨co'.toArray⟩, .string ⟨cd'.toArray⟩, .string ⟨e'.toArray⟩])).run Try.prog W =
      .ok (credEq ⟨k, (ho, hd), w, (bo, bd), (co, cd), e⟩ ⟨k', (ho', hd'), w', (bo', bd'), (co', cd'), e'⟩) W := by
  have hS : Try.prog.underlying 32 = some (.struct (Try.prog.fieldsOf 32)) := by kernel_rfl
  rw [show (10000 : Nat) = 9999 + 1 from rfl, run_equalIn_agg W 9999 32 _ _ hS (by kernel_rfl), credEq_eq]
  simp only [Program.fieldsOf, Try.underlying32]
  go_simp
  simp only [iteB, Bool.and_true, Bool.and_assoc]
def nR : Role := ([], [])
/-- Which credentials are right. -/
def credR (x : CredT) : Bool := roleR x.h && (if x.k = 1 then nameR x.w && roleEq x.b nR && roleEq x.c nR && (x.e == [])
  else (x.w == []) && roleR x.b && (if x.k = 2 then roleEq x.c nR && (x.e == []) else if x.k = 3 then roleEq x.c nR && (x.b.1 == x.h.1) && nameR x.e else decide (x.k = 4) && (x.e == []) && roleR x.c && roleLt x.b x.c))
set_option maxRecDepth 100000 in
set_option maxHeartbeats 1000000 in
theorem refCredRight_any (x : CredT) (W : World) (hl : x.h.1.length ≤ 1000000 ∧ x.h.2.length ≤ 1000000 ∧ x.w.length ≤ 1000000 ∧ x.b.1.length ≤ 1000000 ∧ x.b.2.length ≤ 1000000 ∧ x.c.1.length ≤ 1000000 ∧ x.c.2.length ≤ 1000000 ∧ x.e.length ≤ 1000000) :
    Calls Try.prog 67 #[cV x] W fun e w' => e = .returned (.bool (credR x)) ∧ Ext W w' := by
  obtain ⟨k, ⟨ho, hd⟩, nw, ⟨bo, bd⟩, ⟨co, cd⟩, we⟩ := x
  simp only at hl
  obtain ⟨l1, l2, l3, l4, l5, l6, l7, l8⟩ := hl
  have HRH := Lib.hid (refRoleRight_any (ho, hd))
  have HRB := Lib.hid (refRoleRight_any (bo, bd))
  have HRC := Lib.hid (refRoleRight_any (co, cd))
  have HLT := Lib.hid (refRoleLess_any (bo, bd) (co, cd))
  have st := Own.startOld W
  unfold cV rV S at *
  (try simp only [nsl, Value.cells, unB] at st)
  (try clear hc); have hc := st.facts; (try simp only [nfl, nft, Nat.reduceAdd] at hc)
  go_enter Try.func67, Try.ntmps67
  go_wp2_with ((first
        | ((with_reducible refine wl_box ?_ (fun K hK => ?_)); rfl; refine owp_box (o := ⟨some 1, _, _, _, _, _⟩) rfl st ?_; apply Exists.intro; refine ⟨?_, ?_⟩; (focus (go_simp; try rfl)); (clear st; intro b1 w hb st; clear hb))
        | ((with_reducible refine wl_alloc ?_ (fun K hK => ?_)); rfl; refine owp_alloc (o := ⟨some 3, _, _, _, _, _⟩) rfl st ?_; apply Exists.intro; apply Exists.intro; refine ⟨?_, ?_⟩; (focus (first | (go_simp; done) | (go_simp; rfl))); (clear st; intro b3 w hb st; clear hb))); (try simp only [nsl, Value.cells, unB] at st); (try clear hc); have hc := st.facts; (try simp only [nfl, nft, Nat.reduceAdd] at hc))
  refine (HRH.out _ (by omega) (by omega)).mono ?_
  rintro en w ⟨rfl, hx⟩
  replace st := st.ext hx
  clear hx
  (try clear hc); have hc := st.facts; (try simp only [nfl, nft, Nat.reduceAdd] at hc)
  cases h1 : roleR (ho, hd) with
  | false =>
    have H1 := Lib.hid h1
    clear h1
    go_wp2_with fail
    go_ret
    exact ⟨by simp [credR, H1.out], st.ext0⟩
  | true =>
    have H1 := Lib.hid h1
    clear h1
    by_cases k1 : k = 1
    · subst k1
      go_wp2_with fail
      refine (refRight_any nw _ (by omega)).mono ?_
      rintro en w ⟨rfl, hx⟩
      replace st := st.ext hx
      clear hx
      (try clear hc); have hc := st.facts; (try simp only [nfl, nft, Nat.reduceAdd] at hc)
      cases h2 : nameR nw with
      | false =>
        have H2 := Lib.hid h2
        clear h2
        go_wp2_with fail
        go_ret
        exact ⟨by simp [credR, H1.out, H2.out], st.ext0⟩
      | true =>
        have H2 := Lib.hid h2
        clear h2
        cases h3 : roleEq (bo, bd) ([], []) with
        | false =>
          go_wp2_with fail
          go_ret
          exact ⟨by simp [credR, nR, H1.out, H2.out, h3], st.ext0⟩
        | true =>
          cases h4 : roleEq (co, cd) ([], []) with
          | false =>
            go_wp2_with fail
            go_ret
            exact ⟨by simp [credR, nR, H1.out, H2.out, h3, h4], st.ext0⟩
          | true =>
            go_wp2_with fail
            go_ret
            exact ⟨by simp [credR, nR, H1.out, H2.out, h3, h4], st.ext0⟩
    · have hk1 : (k == 1) = false := by simpa using k1
      have K1 := Lib.hid k1
      clear k1
      cases h2 : (nw == ([] : List UInt8)) with
      | false =>
        have H2 := Lib.hid h2
        have hb : (!(nw == ([] : List UInt8))) = true := by rw [h2]; rfl
        go_wp2_with fail
        go_ret
        exact ⟨by rw [show credR ⟨k, (ho, hd), nw, (bo, bd), (co, cd), we⟩ = false from by unfold credR; simp only; rw [H1.out, H2.out, if_neg K1.out]; rfl]; rfl, st.ext0⟩
      | true =>
        have H2 := Lib.hid h2
        obtain rfl : nw = [] := by simpa using h2
        clear h2
        go_wp2_with fail
        refine (HRB.out _ (by omega) (by omega)).mono ?_
        rintro en w ⟨rfl, hx⟩
        replace st := st.ext hx
        clear hx
        (try clear hc); have hc := st.facts; (try simp only [nfl, nft, Nat.reduceAdd] at hc)
        cases h3 : roleR (bo, bd) with
        | false =>
          have H3 := Lib.hid h3
          clear h3
          go_wp2_with fail
          go_ret
          exact ⟨by rw [show credR ⟨k, (ho, hd), [], (bo, bd), (co, cd), we⟩ = false from by unfold credR; simp only; rw [H1.out, H2.out, H3.out, if_neg K1.out]; rfl]; rfl, st.ext0⟩
        | true =>
          have H3 := Lib.hid h3
          clear h3
          have HE := Lib.hid (show credR ⟨k, (ho, hd), [], (bo, bd), (co, cd), we⟩ = (if k = 2 then roleEq (co, cd) nR && (we == []) else if k = 3 then roleEq (co, cd) nR && (bo == ho) && nameR we else decide (k = 4) && (we == []) && roleR (co, cd) && roleLt (bo, bd) (co, cd)) from by
            unfold credR; simp only; rw [H1.out, H2.out, H3.out, if_neg K1.out]; simp)
          by_cases k2 : k = 2
          · subst k2
            cases h4 : roleEq (co, cd) ([], []) with
            | false =>
              go_wp2_with fail
              go_ret
              exact ⟨by rw [HE.out]; simp [nR, h4], st.ext0⟩
            | true =>
              go_wp2_with fail
              go_ret
              exact ⟨by rw [HE.out]; simp [nR, h4], st.ext0⟩
          · have hk2 : (k == 2) = false := by simpa using k2
            have K2 := Lib.hid k2
            clear k2
            by_cases k3 : k = 3
            · subst k3
              cases h4 : roleEq (co, cd) ([], []) with
              | false =>
                go_wp2_with fail
                go_ret
                exact ⟨by rw [HE.out]; simp [nR, h4], st.ext0⟩
              | true =>
                have H4 := Lib.hid h4
                cases h5 : (bo == ho) with
                | false =>
                  have H5 := Lib.hid h5
                  go_wp2_with fail
                  go_ret
                  exact ⟨by rw [HE.out, H5.out]; simp, st.ext0⟩
                | true =>
                  have H5 := Lib.hid h5
                  go_wp2_with fail
                  refine (refRight_any we _ (by omega)).mono ?_
                  rintro en w ⟨rfl, hx⟩
                  replace st := st.ext hx
                  clear hx
                  (try clear hc); have hc := st.facts; (try simp only [nfl, nft, Nat.reduceAdd] at hc)
                  go_wp2_with fail
                  go_ret
                  exact ⟨by rw [HE.out, H5.out]; simp [nR, H4.out], st.ext0⟩
            · have hk3 : (k == 3) = false := by simpa using k3
              have K3 := Lib.hid k3
              clear k3
              by_cases k4 : k = 4
              · subst k4
                cases h4 : (we == ([] : List UInt8)) with
                | false =>
                  have H4 := Lib.hid h4
                  go_wp2_with fail
                  go_ret
                  exact ⟨by rw [HE.out, H4.out]; simp, st.ext0⟩
                | true =>
                  have H4 := Lib.hid h4
                  obtain rfl : we = [] := by simpa using h4
                  clear h4
                  go_wp2_with fail
                  refine (HRC.out _ (by omega) (by omega)).mono ?_
                  rintro en w ⟨rfl, hx⟩
                  replace st := st.ext hx
                  clear hx
                  (try clear hc); have hc := st.facts; (try simp only [nfl, nft, Nat.reduceAdd] at hc)
                  cases h5 : roleR (co, cd) with
                  | false =>
                    have H5 := Lib.hid h5
                    clear h5
                    go_wp2_with fail
                    go_ret
                    exact ⟨by rw [HE.out, H4.out, H5.out]; simp, st.ext0⟩
                  | true =>
                    have H5 := Lib.hid h5
                    clear h5
                    go_wp2_with fail
                    refine (HLT.out _).mono ?_
                    rintro en w ⟨rfl, hx⟩
                    replace st := st.ext hx
                    clear hx
                    (try clear hc); have hc := st.facts; (try simp only [nfl, nft, Nat.reduceAdd] at hc)
                    go_wp2_with fail
                    go_ret
                    exact ⟨by rw [HE.out, H4.out, H5.out]; simp, st.ext0⟩
              · have hk4 : (k == 4) = false := by simpa using k4
                have K4 := Lib.hid k4
                clear k4
                go_wp2_with fail
                go_ret
                exact ⟨by rw [HE.out, if_neg K2.out, if_neg K3.out, decide_eq_false K4.out]; simp, st.ext0⟩
end Go.Proofs.Ytekngjkjgmplpaa
