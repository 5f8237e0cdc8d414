/- The reference's tape: Number, Text, End. -/
import Derived.Test.YtcminppmmhinjaaReaderC
import Derived.Test.YtcminppmmhinjaaRefTape
namespace Go.Proofs.Ytcminppmmhinjaa
set_option linter.unusedSimpArgs false
set_option linter.unusedVariables false
open Go Go.RowKit
/-- The reference's tape at block t. -/
def RefAt (w : World) (t : Nat) (s : List UInt8) (e : Int) : Prop := Blk w t [S s, .int .i64 e]
/-- What a reading method of the reference comes to. -/
def RefOut {α : Type} (t : Nat) (w : World) (res : Except Int (α × List UInt8)) (zero : Value) (ok : α → Value) : Ending → World → Prop := fun en w' =>
  MutO (rdFp t) w w' ∧ match res with
  | .error e => en = .returned zero ∧ ∃ s, RefAt w' t s e
  | .ok (a, ys) => en = .returned (ok a) ∧ RefAt w' t ys 0
theorem RefAt.mut {fp : Nat → Prop} {w w' : World} {t : Nat} {s : List UInt8} {e : Int} (h : RefAt w t s e) (hm : MutO fp w w') (ht : ¬ fp t) : RefAt w' t s e := Blk.mut h hm ht
theorem RefOut.err {α : Type} {t : Nat} {w : World} {res : Except Int (α × List UInt8)} {zero : Value} {ok : α → Value} {e : Int} {en : Ending} {w' : World} (hE : res = .error e) (hm : MutO (rdFp t) w w') (h : en = .returned zero ∧ ∃ s, RefAt w' t s e) : RefOut t w res zero ok en w' := by
  subst hE; exact ⟨hm, h⟩
theorem RefOut.ok {α : Type} {t : Nat} {w : World} {res : Except Int (α × List UInt8)} {zero : Value} {ok : α → Value} {a : α} {ys : List UInt8} {en : Ending} {w' : World} (hE : res = .ok (a, ys)) (hm : MutO (rdFp t) w w') (h : en = .returned (ok a) ∧ RefAt w' t ys 0) : RefOut t w res zero ok en w' := by
  subst hE; exact ⟨hm, h⟩
/-- The string behind its first byte. -/
theorem ba_eq_nil (xs : List UInt8) : ((⟨xs.toArray⟩ : ByteArray) = ⟨#[]⟩) ↔ xs = [] := by
  constructor
  · intro h
    have := congrArg ByteArray.data h
    simpa using this
  · rintro rfl; rfl
theorem ba_head (c : UInt8) (zs : List UInt8) (h : 0 < ByteArray.size ⟨(c :: zs).toArray⟩) : (⟨(c :: zs).toArray⟩ : ByteArray)[0] = c := rfl
theorem ba_tail (c : UInt8) (zs : List UInt8) : (⟨(c :: zs).toArray⟩ : ByteArray).extract 1 (zs.length + 1) = ⟨zs.toArray⟩ := by
  apply ByteArray.ext
  simp [ByteArray.data_extract]
theorem step_val2 (acc j : Nat) (c : UInt8) (hj : j ≤ 8) (ha : acc < 128 ^ j) :
    wrap64 ((acc : Int) + wrap64 (((c.toNat : Int)).tmod 128 * ((128 ^ j : Nat) : Int))) = ((acc + c.toNat % 128 * 128 ^ j : Nat) : Int) := by
  have hp := pow128_le j hj
  have hd : c.toNat % 128 < 128 := Nat.mod_lt _ (by decide)
  have h2 := acc_lt acc j _ ha hd
  rw [Int.tmod_eq_emod_of_nonneg (by omega), show ((c.toNat : Int) % 128) = ((c.toNat % 128 : Nat) : Int) by omega, ← Int.natCast_mul]
  rw [IntWalk.wrap64_in ((c.toNat % 128 * 128 ^ j : Nat) : Int) ⟨by omega, by omega⟩, ← Int.natCast_add]
  exact IntWalk.wrap64_in _ ⟨by omega, by omega⟩
theorem rdNumF_err (f : Nat) : ∀ (i acc : Nat) (xs : List UInt8) (e : Int), rdNumF f i acc xs = .error e → e ≠ 0 := by
  induction f with
  | zero => intro i acc xs e h; simp only [rdNumF] at h; injection h with h; omega
  | succ f ih =>
    intro i acc xs e h
    unfold rdNumF at h
    rcases rdNext_cases i xs with ⟨e', he⟩ | ⟨c, zs, hok⟩
    · rw [he] at h
      injection h with h
      subst h
      unfold rdNext at he
      split at he
      · injection he with he; omega
      · cases xs with
        | nil => injection he with he; omega
        | cons x ys =>
          simp only at he
          split at he
          · injection he with he; omega
          · cases he
    · rw [hok] at h
      simp only at h
      split at h
      · cases h
      · exact ih _ _ _ _ h
theorem rdNum_err {xs : List UInt8} {e : Int} (h : rdNum xs = .error e) : e ≠ 0 := rdNumF_err _ _ _ _ _ h
theorem refEnd_any (w : World) (t : Nat) (s : List UInt8) (e : Int) (h : RefAt w t s e) :
    Calls Try.prog 75 #[.pointer (some ⟨t, 0, none⟩)] w fun en w' => en = .returned (.int .i64 (if e = 0 then (if s = [] then 0 else 13) else e)) ∧ w = w' := by
  have h0 := h.cell 0
  have h1 := h.cell 1
  clear h
  unfold S at h0
  by_cases he : e = 0
  · subst he
    cases s with
    | nil =>
      go_enter Try.func75, Try.ntmps75
      go_wp2
      go_ret
      exact ⟨rfl, rfl⟩
    | cons x xs =>
      have hne : (⟨(x :: xs).toArray⟩ : ByteArray) ≠ ⟨#[]⟩ := fun q => by simpa using (ba_eq_nil _).1 q
      go_enter Try.func75, Try.ntmps75
      go_wp2_with fail
      go_ret
      exact ⟨rfl, rfl⟩
  · skip
    go_enter Try.func75, Try.ntmps75
    go_wp2
    go_ret
    exact ⟨rfl, rfl⟩
set_option maxRecDepth 100000 in
set_option maxHeartbeats 1000000 in
set_option maxRecDepth 20000 in
theorem refTNumber_any (w : World) (t : Nat) (xs : List UInt8) (most : Int) (h : RefAt w t xs 0) :
    Calls Try.prog 144 #[.pointer (some ⟨t, 0, none⟩), .int .i64 most] w (RefOut t w (rdNumber most xs) (.int .i64 0) fun n => .int .i64 (n : Int)) := by
  have h1 := h.cell 1
  have H := Lib.hid h; clear h
  go_enter Try.func144, Try.ntmps144
  go_wp2_with fail
  go_loopw [5, 6, 7] (fun a u i wr => ∃ (j acc : Nat) (ys : List UInt8) (uu : Int), j ≤ 9 ∧ i = .int .i64 (j : Int) ∧ a = .int .i64 (acc : Int) ∧ u = .int .i64 uu ∧ (j ≤ 8 → uu = ((128 ^ j : Nat) : Int)) ∧ acc < 128 ^ j ∧ rdNum xs = rdNumF (10 - j) j acc ys ∧ RefAt wr t ys 0 ∧ MutO (rdFp t) w wr) (fun _ _ i _ => 10 - (intOf i).toNat)
  case atStart => exact ⟨0, 0, xs, 1, by omega, rfl, rfl, rfl, by simp, by simp, rfl, H.out, MutO.refl _ _⟩
  case round =>
    obtain ⟨j, acc, ys, uu, hj, rfl, rfl, rfl, huu, hacc, hnum, hrd, hm⟩ := hrel
    have HN := Lib.hid hnum; clear hnum
    have HA := Lib.hid hacc; clear hacc
    have HU := Lib.hid huu; clear huu
    have HM := Lib.hid hm; clear hm
    have HR := Lib.hid hrd; clear hrd
    have g0 := HR.out.cell 0
    have g1 := HR.out.cell 1
    have f0 := HR.out.free 0
    have f1 := HR.out.free 1
    unfold S at g0
    clear h1
    have hset : ∀ (e : Int), RefAt (wr.setCell ⟨t, 1, none⟩ (.int .i64 e)) t ys e ∧ MutO (rdFp t) w (wr.setCell ⟨t, 1, none⟩ (.int .i64 e)) := fun e => ⟨HR.out.set 1 _, MutO.set (fp := rdFp t) (p := ⟨t, 1, none⟩) HM.out rfl _⟩
    have HS := Lib.hid hset; clear hset
    by_cases h9 : j = 9
    · subst h9
      go_wp2_with fail
      go_ret
      refine RefOut.err (e := 11) ?_ (HS.out 11).2 ⟨rfl, _, (HS.out 11).1⟩
      unfold rdNumber; rw [HN.out]; rfl
    · have hj8 : j ≤ 8 := by omega
      cases ys with
      | nil =>
        go_wp2_with fail
        go_ret
        refine RefOut.err (e := 10) ?_ (HS.out 10).2 ⟨rfl, _, (HS.out 10).1⟩
        unfold rdNumber; rw [HN.out, show 10 - j = (9 - j) + 1 by omega, rdNumF]
        simp [rdNext, h9]
      | cons c zs =>
        have hne : (⟨(c :: zs).toArray⟩ : ByteArray) ≠ ⟨#[]⟩ := fun q => by simpa using (ba_eq_nil _).1 q
        have hb0 := ba_head c zs (by simp [ByteArray.size])
        have hb1 := ba_tail c zs
        have hw : wrap64 (c.toNat : Int) = (c.toNat : Int) := IntWalk.wrap64_in _ ⟨by omega, by have := c.toNat_lt; omega⟩
        have HS2 : Hid (∀ e : Int, RefAt ((wr.setCell ⟨t, 0, none⟩ (.string ⟨zs.toArray⟩)).setCell ⟨t, 1, none⟩ (.int .i64 e)) t zs e ∧ MutO (rdFp t) w ((wr.setCell ⟨t, 0, none⟩ (.string ⟨zs.toArray⟩)).setCell ⟨t, 1, none⟩ (.int .i64 e))) :=
          Lib.hid fun e => ⟨(HR.out.set 0 (S zs)).set 1 _, MutO.set (fp := rdFp t) (p := ⟨t, 1, none⟩) (MutO.set (fp := rdFp t) (p := ⟨t, 0, none⟩) HM.out rfl _) rfl _⟩
        have HS0 : Hid (RefAt (wr.setCell ⟨t, 0, none⟩ (.string ⟨zs.toArray⟩)) t zs 0 ∧ MutO (rdFp t) w (wr.setCell ⟨t, 0, none⟩ (.string ⟨zs.toArray⟩))) := Lib.hid ⟨HR.out.set 0 (S zs), MutO.set (fp := rdFp t) (p := ⟨t, 0, none⟩) HM.out rfl _⟩
        by_cases hz : c = 0 ∧ 0 < j
        · obtain ⟨rfl, hj0⟩ := hz
          go_wp2_with fail
          go_ret
          refine RefOut.err (e := 11) ?_ (HS2.out 11).2 ⟨rfl, _, (HS2.out 11).1⟩
          unfold rdNumber; rw [HN.out, show 10 - j = (9 - j) + 1 by omega, rdNumF]
          simp [rdNext, h9, hj0]
        · have hnx : rdNext j (c :: zs) = .ok (c, zs) := by 
            have : ¬ (c = 0 ∧ 0 < j) := hz
            unfold rdNext
            rw [if_neg h9]
            show (if c = 0 ∧ 0 < j then _ else _) = _
            rw [if_neg this]
          have hval := step_val2 acc j c hj8 HA.out
          have hN : rdNum xs = if c.toNat < 128 then .ok (acc + c.toNat % 128 * 128 ^ j, zs) else rdNumF (10 - (j + 1)) (j + 1) (acc + c.toNat % 128 * 128 ^ j) zs := by
            rw [HN.out, show 10 - j = (9 - j) + 1 by omega, rdNumF, hnx, show 10 - (j + 1) = 9 - j by omega]
          have HL : Hid (acc + c.toNat % 128 * 128 ^ j < 128 ^ (j + 1)) := Lib.hid (acc_lt _ _ _ HA.out (Nat.mod_lt _ (by decide)))
          have hacc63 : acc + c.toNat % 128 * 128 ^ j < 9223372036854775808 := Nat.lt_of_lt_of_le HL.out (pow128_le j hj8)
          have huu := HU.out hj8
          obtain ⟨acc', hacc'⟩ : ∃ x, acc + c.toNat % 128 * 128 ^ j = x := ⟨_, rfl⟩
          obtain ⟨pw, hpw⟩ : ∃ x, x = 128 ^ j := ⟨_, rfl⟩
          rw [hacc'] at hval hN HL hacc63
          rw [← hpw] at hval huu
          subst huu
          have HPW := Lib.hid hpw
          have HN' := Lib.hid hN
          have hc0 : ¬ (c.toNat = 0 ∧ 0 < j) := fun ⟨q, q2⟩ => hz ⟨UInt8.toNat.inj (by simpa using q), q2⟩
          have hc256 := c.toNat_lt
          have hzero : c.toNat = 0 → acc' = acc := fun q => by rw [← hacc', q]; simp
          have HZ := Lib.hid hzero
          have hval2 : wrap64 ((acc : Int) + wrap64 ((c.toNat : Int) % 128 * (pw : Int))) = (acc' : Int) := by
            rw [Int.tmod_eq_emod_of_nonneg (by omega)] at hval; exact hval
          have HX : Hid (j + 1 ≤ 8 → wrap64 ((pw : Int) * 128) = ((128 ^ (j + 1) : Nat) : Int)) := Lib.hid fun q => by
            have h1 := pow128_le (j + 1) q
            rw [hpw, Nat.pow_succ]
            have h2 : 128 ^ (j + 1 + 1) = 128 ^ j * 128 * 128 := by rw [Nat.pow_succ, Nat.pow_succ]
            rw [h2] at h1
            rw [show ((128 ^ j : Nat) : Int) * 128 = ((128 ^ j * 128 : Nat) : Int) by simp]
            exact IntWalk.wrap64_in _ ⟨by omega, by omega⟩
          clear hN hacc' hpw hnx HN HA HU hz hzero
          by_cases hc : c.toNat < 128
          · have hok : rdNum xs = .ok (acc', zs) := by rw [HN'.out, if_pos hc]
            have HOK := Lib.hid hok
            clear hok
            by_cases hmost : most < (acc' : Int)
            · have hE : rdNumber most xs = .error 12 := by unfold rdNumber; rw [HOK.out]; simp [hmost]
              have HE := Lib.hid hE
              clear hE
              by_cases hcc : c.toNat = 0
              · obtain rfl : j = 0 := by omega
                obtain rfl := HZ.out hcc
                have hwa : wrap64 (acc' : Int) = (acc' : Int) := IntWalk.wrap64_in _ ⟨by omega, by omega⟩
                go_wp2_with fail
                go_ret
                exact RefOut.err HE.out (HS2.out 12).2 ⟨rfl, _, (HS2.out 12).1⟩
              · go_wp2_with fail
                go_ret
                exact RefOut.err HE.out (HS2.out 12).2 ⟨rfl, _, (HS2.out 12).1⟩
            · have hE : rdNumber most xs = .ok (acc', zs) := by unfold rdNumber; rw [HOK.out]; simp [hmost]
              have HE := Lib.hid hE
              clear hE
              by_cases hcc : c.toNat = 0
              · obtain rfl : j = 0 := by omega
                obtain rfl := HZ.out hcc
                have hwa : wrap64 (acc' : Int) = (acc' : Int) := IntWalk.wrap64_in _ ⟨by omega, by omega⟩
                go_wp2_with fail
                go_ret
                exact RefOut.ok HE.out HS0.out.2 ⟨rfl, HS0.out.1⟩
              · go_wp2_with fail
                go_ret
                exact RefOut.ok HE.out HS0.out.2 ⟨rfl, HS0.out.1⟩
          · go_wp2_with fail
            go_roundw
            case rel => exact ⟨j + 1, acc', zs, _, by omega, by go_num, by go_num, rfl, fun q => by first | exact HX.out q | (have := HX.out q; simp at this ⊢; omega), HL.out, by rw [HN'.out, if_neg hc], HS0.out.1, HS0.out.2⟩
            case measure => simp [intOf]; omega
theorem ba_size (ys : List UInt8) : ByteArray.size ⟨ys.toArray⟩ = ys.length := by simp [ByteArray.size]
theorem ba_take (ys : List UInt8) (n : Nat) : (⟨ys.toArray⟩ : ByteArray).extract 0 n = ⟨(ys.take n).toArray⟩ := by
  apply ByteArray.ext
  simp [ByteArray.data_extract]
theorem ba_drop (ys : List UInt8) (n : Nat) : (⟨ys.toArray⟩ : ByteArray).extract n ys.length = ⟨(ys.drop n).toArray⟩ := by
  apply ByteArray.ext
  simp [ByteArray.data_extract, List.take_of_length_le]
set_option maxRecDepth 100000 in
set_option maxHeartbeats 1000000 in
set_option maxRecDepth 20000 in
theorem refTText_any (w : World) (t : Nat) (xs : List UInt8) (most : Int) (h : RefAt w t xs 0) (hl : xs.length ≤ 100000000000) :
    Calls Try.prog 190 #[.pointer (some ⟨t, 0, none⟩), .int .i64 most] w (RefOut t w (rdText most xs) (S []) fun bs => S bs) := by
  have H := Lib.hid h; clear h
  go_enter Try.func190, Try.ntmps190
  go_wp2_with fail
  refine (refTNumber_any _ t xs _ H.out).mono ?_
  intro e w1 h1
  rcases rdNum_cases xs with ⟨er, her⟩ | ⟨n, ys, hok⟩
  · have h2 : rdNumber 9223372036854775807 xs = .error er := by unfold rdNumber; rw [her]
    rw [h2] at h1
    have hE : rdText most xs = .error er := by unfold rdText; rw [her]
    obtain ⟨hm1, rfl, s, hs⟩ := h1
    have hne := rdNum_err her
    have g1 := hs.cell 1
    have HE := Lib.hid hE
    have HM := Lib.hid hm1
    have HR := Lib.hid hs
    clear hE hm1 hs her h2
    go_wp2_with fail
    go_ret
    exact RefOut.err HE.out HM.out ⟨rfl, _, HR.out⟩
  · have hsp := rdNum_spec hok
    have h2 : rdNumber 9223372036854775807 xs = .ok (n, ys) := by
      unfold rdNumber; rw [hok]
      simp only
      rw [if_neg (by omega)]
    rw [h2] at h1
    obtain ⟨hm1, rfl, hr⟩ := h1
    have hout : rdText most xs = if most < n then .error 12 else if ys.length < n then .error 10 else .ok (ys.take n, ys.drop n) := by unfold rdText; rw [hok]
    have HO := Lib.hid hout
    have g0 := hr.cell 0
    have g1 := hr.cell 1
    have f0 := hr.free 0
    have f1 := hr.free 1
    unfold S at g0
    have hsz := ba_size ys
    have HR := Lib.hid hr
    have HM := Lib.hid hm1
    have hn63 := hsp.1
    have hyl : ys.length ≤ 100000000000 := by omega
    have HSE : Hid (∀ e : Int, RefAt (w1.setCell ⟨t, 1, none⟩ (.int .i64 e)) t ys e ∧ MutO (rdFp t) w (w1.setCell ⟨t, 1, none⟩ (.int .i64 e))) := Lib.hid fun e => ⟨HR.out.set 1 _, MutO.set (fp := rdFp t) (p := ⟨t, 1, none⟩) HM.out rfl _⟩
    clear hout hok h2 hr hm1 hsp
    by_cases g2 : most < (n : Int)
    · go_wp2_with fail
      go_ret
      exact RefOut.err (by rw [HO.out, if_pos g2]) (HSE.out 12).2 ⟨rfl, _, (HSE.out 12).1⟩
    · by_cases g3 : ys.length < n
      · go_wp2_with fail
        go_ret
        exact RefOut.err (by rw [HO.out, if_neg (show ¬ most < (n : Int) by omega), if_pos g3]) (HSE.out 10).2 ⟨rfl, _, (HSE.out 10).1⟩
      · have htk := ba_take ys n
        have hdr := ba_drop ys n
        have HS0 : Hid (RefAt (w1.setCell ⟨t, 0, none⟩ (.string ⟨(ys.drop n).toArray⟩)) t (ys.drop n) 0 ∧ MutO (rdFp t) w (w1.setCell ⟨t, 0, none⟩ (.string ⟨(ys.drop n).toArray⟩))) := Lib.hid ⟨HR.out.set 0 (S (ys.drop n)), MutO.set (fp := rdFp t) (p := ⟨t, 0, none⟩) HM.out rfl _⟩
        go_wp2_with fail
        go_ret
        exact RefOut.ok (by rw [HO.out, if_neg (show ¬ most < (n : Int) by omega), if_neg (by omega)]) HS0.out.2 ⟨rfl, HS0.out.1⟩
end Go.Proofs.Ytcminppmmhinjaa
