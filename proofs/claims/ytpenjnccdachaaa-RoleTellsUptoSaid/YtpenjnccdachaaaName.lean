/- Names: which are right. -/
import Derived.Test.YtpenjnccdachaaaSepR
import Derived.Test.YtpenjnccdachaaaRegion4
import Derived.Test.YtpenjnccdachaaaShelf
import Derived.Test.YtpenjnccdachaaaNameL
import Derived.Deep.LoopGhost
namespace Go.Proofs.Ytpenjnccdachaaa
set_option linter.unusedSimpArgs false
set_option linter.unusedVariables false
open Go Go.RowKit
def lettersB : List UInt8 := [97, 98, 99, 100, 101, 102, 103, 104, 105, 106, 107, 108, 109, 110, 111, 112, 113, 114, 115, 116, 117, 118, 119, 120, 121, 122]
def signsB : List UInt8 := lettersB ++ [48, 49, 50, 51, 52, 53, 54, 55, 56, 57, 45]
theorem ix_letters : ∀ n : Nat, n < 256 → (decide (0 ≤ Lib.indexByte lettersB n.toUInt8)) = ltr n.toUInt8 := by decide +kernel
theorem ix_signs : ∀ n : Nat, n < 256 → (decide (Lib.indexByte signsB n.toUInt8 < 0)) = !sgn n.toUInt8 := by decide +kernel
theorem ix_letter (c : UInt8) : (decide (0 ≤ Lib.indexByte lettersB c)) = ltr c := by
  have := ix_letters c.toNat c.toNat_lt
  simpa using this
theorem ix_sign (c : UInt8) : (decide (Lib.indexByte signsB c < 0)) = !sgn c := by
  have := ix_signs c.toNat c.toNat_lt
  simpa using this
theorem signIx (c : UInt8) (w : World) : Calls Try.prog 103 #[.string ⟨signsB.toArray⟩, .int .u8 (c.toNat : Int)] w fun e w' => ∃ v : Int, e = .returned (.int .i64 v) ∧ decide (v < 0) = !sgn c ∧ w = w' :=
  (Try.strings_IndexByte ⟨signsB.toArray⟩ _ w).mono fun e w' ⟨h1, h2⟩ => ⟨_, h1, by simpa using ix_sign c, h2.symm⟩
theorem letterIx (c : UInt8) (w : World) : Calls Try.prog 103 #[.string ⟨lettersB.toArray⟩, .int .u8 (c.toNat : Int)] w fun e w' => ∃ v : Int, e = .returned (.int .i64 v) ∧ decide (0 ≤ v) = ltr c ∧ w = w' :=
  (Try.strings_IndexByte ⟨lettersB.toArray⟩ _ w).mono fun e w' ⟨h1, h2⟩ => ⟨_, h1, by simpa using ix_letter c, h2.symm⟩
set_option maxRecDepth 100000 in
set_option maxHeartbeats 1000000 in
theorem only_any (s : List UInt8) (W : World) (hs : s.length ≤ 100000) : Calls Try.prog 104 #[S s] W fun e w' => e = .returned (.bool (s.all sgn)) ∧ Ext W w' := by
  have st := Own.startOld W
  unfold S
  (try simp only [Value.cells, List.cons_append, List.nil_append, List.set, spl, putIt, pick, List.map_cons, List.map_nil, List.getElem?_cons_zero, List.getElem?_cons_succ, Option.getD_some, List.drop_succ_cons, List.drop_zero, List.drop_nil, List.append_nil, unB] at st)
  (try clear hc); have hc := st.facts; (try simp only [factsOf, blkI, blkFacts, rowI, byI, datI, nullI, oldI, penI, rdI, rdAnyI, rdOverI, Nat.zero_add, Nat.reduceAdd, and_true, true_and, and_self] at hc)
  go_enter Try.func104, Try.ntmps104
  go_wp2_with (first
      | ((with_reducible refine wl_convert ?_ (fun K hK => ?_)); (rfl); ((refine owp_sb (o := ⟨some 6, _, _, _, _, _⟩) rfl st rfl Try.underlying9 Try.underlying23 Try.underlying5 ?_ ?_; (simp only [maxLen]; omega); (clear st; intro A6 c6 w hc6 st)); (try simp only [Value.cells, List.cons_append, List.nil_append, List.set, spl, putIt, pick, List.map_cons, List.map_nil, List.getElem?_cons_zero, List.getElem?_cons_succ, Option.getD_some, List.drop_succ_cons, List.drop_zero, List.drop_nil, List.append_nil, unB] at st); (try clear hc); have hc := st.facts; (try simp only [factsOf, blkI, blkFacts, rowI, byI, datI, nullI, oldI, penI, rdI, rdAnyI, rdOverI, Nat.zero_add, Nat.reduceAdd, and_true, true_and, and_self] at hc))))
  go_loopw [8] (fun i wr => ∃ j : Nat, j ≤ s.length ∧ i = .int .i64 (j : Int) ∧ Hid ((s.take j).all sgn = true) ∧ Own (fun _ => False) (fun _ => True) W [oldI W, byI A6 s.length s] wr) (fun i _ => s.length - (intOf i).toNat)
  case atStart => exact ⟨0, by omega, rfl, Lib.hid (by simp), st⟩
  case round =>
    obtain ⟨j, hj, rfl, HT, st'⟩ := hrel
    clear st hc
    have st := st'
    clear st'
    by_cases hjn : j < s.length
    · obtain ⟨b, off, ha, hq, hjl, hcell⟩ := (st.by (i := 1) get1).at hjn
      clear hq
      subst ha
      have hts : s.take (j + 1) = s.take j ++ [s[j]] := (List.take_append_getElem hjl).symm
      have hall : s.all sgn = (s.take j ++ s[j] :: s.drop (j + 1)).all sgn := by rw [← List.drop_eq_getElem_cons hjl, List.take_append_drop]
      generalize s[j] = x at *
      have HX := Lib.hid (And.intro hts hall)
      have hix := ix_sign x
      clear hts hall
      go_wp2_with fail
      refine (signIx x _).mono ?_
      rintro en w' ⟨v, rfl, hv, rfl⟩
      clear hix
      by_cases hsx : sgn x = true
      · have hv0 : decide (v < 0) = false := by rw [hv, hsx]; rfl
        have hv1 : ¬ v < 0 := by simpa using hv0
        clear hv
        go_wp2_with fail
        exact ⟨⟨j + 1, by omega, by go_num, Lib.hid (by rw [HX.out.1, List.all_append, HT.out]; simp [hsx]), st⟩, by simp [intOf]; omega⟩
      · have hsx' : sgn x = false := by simpa using hsx
        have hv0 : decide (v < 0) = true := by rw [hv, hsx']; rfl
        have hv1 : v < 0 := by simpa using hv0
        clear hv
        have HF : Hid (s.all sgn = false) := Lib.hid (by rw [HX.out.2, List.all_append, List.all_cons, hsx']; simp)
        go_wp2_with fail
        go_ret
        exact ⟨by rw [HF.out]; rfl, st.ext0⟩
    · obtain rfl : j = s.length := by omega
      have e : s.all sgn = true := by have := HT.out; rwa [List.take_length] at this
      have HE := Lib.hid e
      clear e
      go_wp2_with fail
      go_ret
      exact ⟨by rw [HE.out]; rfl, st.ext0⟩
set_option maxRecDepth 100000 in
set_option maxHeartbeats 1000000 in
theorem right_any (s : List UInt8) (W : World) (hs : s.length ≤ 100000) : Calls Try.prog 35 #[S s] W fun e w' => e = .returned (.bool (nameR s)) ∧ Ext W w' := by
  unfold S
  cases s with
  | nil =>
    go_enter Try.func35, Try.ntmps35
    go_wp2_with fail
    go_ret
    exact ⟨rfl, Ext.refl _⟩
  | cons c s =>
    have hsz : (⟨(c :: s).toArray⟩ : ByteArray).size = s.length + 1 := by simp [ByteArray.size]
    have hg0 : (⟨(c :: s).toArray⟩ : ByteArray)[0]? = some c := rfl
    simp only [List.length_cons] at hs
    by_cases h16 : s.length + 1 ≤ 16
    · skip
      go_enter Try.func35, Try.ntmps35
      go_wp2_with fail
      refine (letterIx c W).mono ?_
      rintro en w' ⟨v, rfl, hv, rfl⟩
      by_cases hl : ltr c = true
      · have hv0 : decide (0 ≤ v) = true := by rw [hv, hl]
        have hv1 : 0 ≤ v := by simpa using hv0
        clear hv
        go_wp2_with fail
        refine (only_any (c :: s) W (by simp; omega)).mono ?_
        rintro en w ⟨rfl, hx⟩
        have HX := Lib.hid hx
        clear hx
        have HN : Hid (nameR (c :: s) = (c :: s).all sgn) := Lib.hid (by unfold nameR; simp [h16, hl])
        generalize (c :: s).all sgn = q at *
        go_wp2_with fail
        go_ret
        exact ⟨by rw [HN.out]; rfl, HX.out⟩
      · have hl' : ltr c = false := by simpa using hl
        have hv0 : decide (0 ≤ v) = false := by rw [hv, hl']
        have hv1 : ¬ 0 ≤ v := by simpa using hv0
        have HN : Hid (nameR (c :: s) = false) := Lib.hid (by unfold nameR; simp [hl'])
        clear hv
        go_wp2_with fail
        go_ret
        exact ⟨by rw [HN.out]; rfl, Ext.refl _⟩
    · skip
      go_enter Try.func35, Try.ntmps35
      have HN : Hid (nameR (c :: s) = false) := Lib.hid (by unfold nameR; simp [h16])
      go_wp2_with fail
      go_ret
      exact ⟨by rw [HN.out]; rfl, Ext.refl _⟩
end Go.Proofs.Ytpenjnccdachaaa
