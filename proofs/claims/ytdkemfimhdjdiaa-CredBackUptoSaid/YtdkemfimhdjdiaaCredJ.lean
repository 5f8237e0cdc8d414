/- Texts parsed as credentials: of, Parse; Roles. -/
import Derived.Test.YtdkemfimhdjdiaaCredI
import Derived.Test.YtdkemfimhdjdiaaSlCredF
import Derived.Test.YtdkemfimhdjdiaaSlRoleA
namespace Go.Proofs.Ytdkemfimhdjdiaa
set_option linter.unusedSimpArgs false
set_option linter.unusedVariables false
open Go Go.RowKit
/-- internal/bytealg's variable holds some number. -/
def Glob (w : World) : Prop := ∃ m, w.cell? ⟨0, 0, none⟩ = some (.int .i64 m)
theorem Glob.ext {w w' : World} (h : Glob w) (hx : Ext w w') : Glob w' := let ⟨m, hm⟩ := h; ⟨m, hx.cell hm⟩
theorem ext_drewN (w : World) (n : Nat) : Ext w (w.drewN n) := ⟨⟨rfl, rfl, rfl, Nat.le_refl _, fun _ _ => rfl⟩, Nat.le_add_right _ _⟩
theorem sCut_any (s sep : List UInt8) (W : World) (hs : s.length ≤ 100000000) (hg : Glob W) : Calls Try.prog 95 #[.string ⟨s.toArray⟩, .string ⟨sep.toArray⟩] W fun e w' =>
    e = .returned (.tuple #[.string ⟨(Lib.cut s sep).1.toArray⟩, .string ⟨(Lib.cut s sep).2.1.toArray⟩, .bool (Lib.cut s sep).2.2]) ∧ Ext W w' := by
  obtain ⟨m, hm⟩ := hg
  refine (Try.strings_Cut ⟨s.toArray⟩ ⟨sep.toArray⟩ m W (by simp [ByteArray.size]; omega) hm).mono ?_
  rintro e w' ⟨rfl, n, rfl⟩
  exact ⟨rfl, ext_drewN _ _⟩
theorem sLast_any (s : List UInt8) (W : World) (hs : s.length ≤ 100000000) : Calls Try.prog 116 #[.string ⟨s.toArray⟩, .string ⟨#[46]⟩] W fun e w' => e = .returned (.int .i64 (Lib.lastIndex s [46])) ∧ Ext W w' := by
  refine (Try.strings_LastIndex ⟨s.toArray⟩ ⟨#[46]⟩ (by simp [ByteArray.size]; omega) W).mono ?_
  rintro e w' ⟨rfl, rfl⟩
  exact ⟨rfl, Ext.refl _⟩
theorem sCount_any (s : List UInt8) (W : World) : Calls Try.prog 117 #[.string ⟨s.toArray⟩, .string ⟨#[46]⟩] W fun e w' => e = .returned (.int .i64 (Lib.countByte s 46 : Nat)) ∧ Ext W w' := by
  refine (Try.strings_Count_one ⟨s.toArray⟩ 46 W).mono ?_
  rintro e w' ⟨rfl, rfl⟩
  exact ⟨rfl, Ext.refl _⟩
theorem cut_le (s sep : List UInt8) : (Lib.cut s sep).1.length ≤ s.length ∧ (Lib.cut s sep).2.1.length ≤ s.length := by
  unfold Lib.cut; split <;> simp <;> omega
theorem roleP1_le (s : List UInt8) : (roleP1 s).1.length ≤ s.length ∧ (roleP1 s).2.length ≤ s.length := by
  unfold roleP1 roleP
  cases h : cutDot s with
  | none => simp
  | some p =>
    have := cutDot_le h
    simp only
    split
    · simpa using this
    · simp
theorem lastIndex_pos {s : List UInt8} (h : Lib.countByte s 46 ≠ 0) : ∃ i : Nat, Lib.lastIndex s [46] = i ∧ i < s.length := by
  rcases lastIndex_46 s with ⟨_, h2⟩ | ⟨i, h1, h2, _⟩
  · exfalso
    apply h
    refine count_no fun x hx e => ?_
    obtain ⟨k, hk, hkx⟩ := List.getElem_of_mem hx
    exact h2 k (by rw [List.getElem?_eq_getElem hk, hkx, e])
  · exact ⟨i, h1, (List.getElem?_eq_some_iff.1 h2).1⟩
set_option maxRecDepth 100000 in
set_option maxHeartbeats 1000000 in
theorem credOf_any (h : Role) (s : List UInt8) (W : World) (hs : s.length ≤ 100000) (hg : Glob W) :
    Calls Try.prog 97 #[rV h, S s] W fun e w' => e = .returned (cV (ofP h s)) ∧ Ext W w' := by
  have hg1 := Lib.hid hg
  have hc1 := cut_le s ampS
  have HC := Lib.hid (fun W => sCut_any s ampS W (by omega))
  obtain ⟨⟨c1, c2, c3⟩, hcc⟩ : ∃ p, Lib.cut s ampS = p := ⟨_, rfl⟩
  have HO : Hid (ofP h s = if c3 = true then ⟨4, h, [], roleP1 c1, roleP1 c2, []⟩ else if Lib.countByte s 46 = 0 then ⟨1, h, s, nR, nR, []⟩ else if Lib.countByte s 46 = 1 then ⟨2, h, [], roleP1 c1, nR, []⟩
      else ⟨3, h, [], roleP1 (s.take (Lib.lastIndex s [46]).toNat), nR, s.drop ((Lib.lastIndex s [46]).toNat + 1)⟩) := Lib.hid (by unfold ofP; rw [hcc])
  rw [hcc] at HC hc1
  simp only at HC hc1
  clear hcc hg
  have HP1 := Lib.hid (fun W => roleParse_any c1 W (by omega))
  have HP2 := Lib.hid (fun W => roleParse_any c2 W (by omega))
  have HLI := Lib.hid (fun W => sLast_any s W (by omega))
  have HCN := Lib.hid (fun W => sCount_any s W)
  have hlp := @lastIndex_pos s
  have hcl : Lib.countByte s 46 ≤ s.length := List.count_le_length
  obtain ⟨p1, hp1⟩ : ∃ p, roleP1 c1 = p := ⟨_, rfl⟩
  obtain ⟨p2, hp2⟩ : ∃ p, roleP1 c2 = p := ⟨_, rfl⟩
  obtain ⟨q1, hq1⟩ : ∃ p, (roleP c1).isSome = p := ⟨_, rfl⟩
  obtain ⟨q2, hq2⟩ : ∃ p, (roleP c2).isSome = p := ⟨_, rfl⟩
  obtain ⟨li, hli⟩ : ∃ i, Lib.lastIndex s [46] = i := ⟨_, rfl⟩
  obtain ⟨cn, hcn⟩ : ∃ i, Lib.countByte s 46 = i := ⟨_, rfl⟩
  rw [hp1, hp2, hli, hcn] at HO
  rw [hp1, hq1] at HP1
  rw [hp2, hq2] at HP2
  rw [hli] at HLI hlp
  rw [hcn] at HCN hlp hcl
  clear hp1 hp2 hq1 hq2 hli hcn
  have HLP := Lib.hid hlp
  clear hlp
  have st := Own.startOld W
  unfold cV S
  unfold rV S at *
  unfold ampS at HC
  (try simp only [Value.cells, List.cons_append, List.nil_append, List.set, spl, putIt, pick, List.map_cons, List.map_nil, List.getElem?_cons_zero, List.getElem?_cons_succ, Option.getD_some, List.drop_succ_cons, List.drop_zero, List.drop_nil, List.append_nil, unB] at st)
  (try clear hc); have hc := st.facts; (try simp only [factsOf, blkI, blkFacts, rowI, byI, datI, nullI, oldI, penI, rdI, rdAnyI, rdOverI, Nat.zero_add, Nat.reduceAdd, and_true, true_and, and_self] at hc)
  have hgw : ∀ {w}, Own (fun _ => False) (fun _ => True) W [oldI W] w → Glob w := fun st => hg1.out.ext st.ext0
  go_enter Try.func97, Try.ntmps97
  go_wp2_with ((first
        | ((with_reducible refine wl_box ?_ (fun K hK => ?_)); rfl; refine owp_box (o := ⟨some 2, _, _, _, _, _⟩) rfl st ?_; apply Exists.intro; refine ⟨?_, ?_⟩; (focus (go_simp; try rfl)); (clear st; intro b2 w hb st; clear hb))
        | ((with_reducible refine wl_alloc ?_ (fun K hK => ?_)); rfl; refine owp_alloc (o := ⟨some 4, _, _, _, _, _⟩) rfl st ?_; apply Exists.intro; apply Exists.intro; refine ⟨?_, ?_⟩; (focus (first | (go_simp; done) | (go_simp; rfl))); (clear st; intro b4 w hb st; clear hb))); (try simp only [Value.cells, List.cons_append, List.nil_append, List.set, spl, putIt, pick, List.map_cons, List.map_nil, List.getElem?_cons_zero, List.getElem?_cons_succ, Option.getD_some, List.drop_succ_cons, List.drop_zero, List.drop_nil, List.append_nil, unB] at st); (try clear hc); have hc := st.facts; (try simp only [factsOf, blkI, blkFacts, rowI, byI, datI, nullI, oldI, penI, rdI, rdAnyI, rdOverI, Nat.zero_add, Nat.reduceAdd, and_true, true_and, and_self] at hc))
  refine (HC.out _ (hg1.out.ext st.ext0)).mono ?_
  rintro en w ⟨rfl, hx⟩
  replace st := st.ext hx
  clear hx
  (try clear hc); have hc := st.facts; (try simp only [factsOf, blkI, blkFacts, rowI, byI, datI, nullI, oldI, penI, rdI, rdAnyI, rdOverI, Nat.zero_add, Nat.reduceAdd, and_true, true_and, and_self] at hc)
  go_wp2_with fail
  refine (HP1.out _).mono ?_
  rintro en w ⟨rfl, hx⟩
  replace st := st.ext hx
  clear hx
  (try clear hc); have hc := st.facts; (try simp only [factsOf, blkI, blkFacts, rowI, byI, datI, nullI, oldI, penI, rdI, rdAnyI, rdOverI, Nat.zero_add, Nat.reduceAdd, and_true, true_and, and_self] at hc)
  go_wp2_with ((first
        | ((with_reducible refine wl_alloc ?_ (fun K hK => ?_)); rfl; refine owp_alloc (o := ⟨some 8, _, _, _, _, _⟩) rfl st ?_; apply Exists.intro; apply Exists.intro; refine ⟨?_, ?_⟩; (focus (first | (go_simp; done) | (go_simp; rfl))); (clear st; intro b8 w hb st; clear hb))
        | ((with_reducible refine wl_store ?_ (fun K hK => ?_)); rfl; refine owp_store rfl st ?_; apply Exists.intro; apply Exists.intro; refine ⟨?_, ?_, ?_⟩; (focus (go_simp; try rfl)); (focus (go_simp; try rfl)); (with_reducible refine ⟨3, _, _, _, _, get3, rfl, rfl, ?_, ?_, ?_, ?_⟩); (kernel_rfl); (simp [Value.cells]); (rfl); (clear st; intro w st))); (try simp only [Value.cells, List.cons_append, List.nil_append, List.set, spl, putIt, pick, List.map_cons, List.map_nil, List.getElem?_cons_zero, List.getElem?_cons_succ, Option.getD_some, List.drop_succ_cons, List.drop_zero, List.drop_nil, List.append_nil, unB] at st); (try clear hc); have hc := st.facts; (try simp only [factsOf, blkI, blkFacts, rowI, byI, datI, nullI, oldI, penI, rdI, rdAnyI, rdOverI, Nat.zero_add, Nat.reduceAdd, and_true, true_and, and_self] at hc))
  refine (HP2.out _).mono ?_
  rintro en w ⟨rfl, hx⟩
  replace st := st.ext hx
  clear hx
  (try clear hc); have hc := st.facts; (try simp only [factsOf, blkI, blkFacts, rowI, byI, datI, nullI, oldI, penI, rdI, rdAnyI, rdOverI, Nat.zero_add, Nat.reduceAdd, and_true, true_and, and_self] at hc)
  go_wp2_with ((first
        | ((with_reducible refine wl_store ?_ (fun K hK => ?_)); rfl; refine owp_store rfl st ?_; apply Exists.intro; apply Exists.intro; refine ⟨?_, ?_, ?_⟩; (focus (go_simp; try rfl)); (focus (go_simp; try rfl)); (with_reducible refine ⟨4, _, _, _, _, get4, rfl, rfl, ?_, ?_, ?_, ?_⟩); (kernel_rfl); (simp [Value.cells]); (rfl); (clear st; intro w st))
        | ((with_reducible refine wl_alloc ?_ (fun K hK => ?_)); rfl; refine owp_alloc (o := ⟨some 10, _, _, _, _, _⟩) rfl st ?_; apply Exists.intro; apply Exists.intro; refine ⟨?_, ?_⟩; (focus (first | (go_simp; done) | (go_simp; rfl))); (clear st; intro b10 w hb st; clear hb))); (try simp only [Value.cells, List.cons_append, List.nil_append, List.set, spl, putIt, pick, List.map_cons, List.map_nil, List.getElem?_cons_zero, List.getElem?_cons_succ, Option.getD_some, List.drop_succ_cons, List.drop_zero, List.drop_nil, List.append_nil, unB] at st); (try clear hc); have hc := st.facts; (try simp only [factsOf, blkI, blkFacts, rowI, byI, datI, nullI, oldI, penI, rdI, rdAnyI, rdOverI, Nat.zero_add, Nat.reduceAdd, and_true, true_and, and_self] at hc))
  refine (HLI.out _).mono ?_
  rintro en w ⟨rfl, hx⟩
  replace st := st.ext hx
  clear hx
  (try clear hc); have hc := st.facts; (try simp only [factsOf, blkI, blkFacts, rowI, byI, datI, nullI, oldI, penI, rdI, rdAnyI, rdOverI, Nat.zero_add, Nat.reduceAdd, and_true, true_and, and_self] at hc)
  cases c3 with
  | true =>
    obtain ⟨b1, b2⟩ := p1
    obtain ⟨d1, d2⟩ := p2
    obtain ⟨h1, h2⟩ := h
    go_wp2_with ((((with_reducible refine wl_store ?_ (fun K hK => ?_)); rfl; refine owp_store rfl st ?_; apply Exists.intro; apply Exists.intro; refine ⟨?_, ?_, ?_⟩; (focus (go_simp; try rfl)); (focus (go_simp; try rfl)); (with_reducible refine ⟨2, _, _, _, _, get2, rfl, rfl, ?_, ?_, ?_, ?_⟩); (kernel_rfl); (simp [Value.cells]); (rfl); (clear st; intro w st))); (try simp only [Value.cells, List.cons_append, List.nil_append, List.set, spl, putIt, pick, List.map_cons, List.map_nil, List.getElem?_cons_zero, List.getElem?_cons_succ, Option.getD_some, List.drop_succ_cons, List.drop_zero, List.drop_nil, List.append_nil, unB] at st); (try clear hc); have hc := st.facts; (try simp only [factsOf, blkI, blkFacts, rowI, byI, datI, nullI, oldI, penI, rdI, rdAnyI, rdOverI, Nat.zero_add, Nat.reduceAdd, and_true, true_and, and_self] at hc))
    (try simp only [Exit.inBlock, Exit.then])
    refine bodyPost_cell rfl rfl (st.blk (i := 2) get2) Try.underlying98 rfl (by kernel_rfl) rfl ?_
    exact ⟨by rw [HO.out]; rfl, st.ext0⟩
  | false =>
    obtain ⟨b1, b2⟩ := p1
    obtain ⟨h1, h2⟩ := h
    go_wp2_with fail
    refine (HCN.out _).mono ?_
    rintro en w ⟨rfl, hx⟩
    replace st := st.ext hx
    clear hx
    (try clear hc); have hc := st.facts; (try simp only [factsOf, blkI, blkFacts, rowI, byI, datI, nullI, oldI, penI, rdI, rdAnyI, rdOverI, Nat.zero_add, Nat.reduceAdd, and_true, true_and, and_self] at hc)
    by_cases n0 : cn = 0
    · subst n0
      go_wp2_with ((((with_reducible refine wl_store ?_ (fun K hK => ?_)); rfl; refine owp_store rfl st ?_; apply Exists.intro; apply Exists.intro; refine ⟨?_, ?_, ?_⟩; (focus (go_simp; try rfl)); (focus (go_simp; try rfl)); (with_reducible refine ⟨2, _, _, _, _, get2, rfl, rfl, ?_, ?_, ?_, ?_⟩); (kernel_rfl); (simp [Value.cells]); (rfl); (clear st; intro w st))); (try simp only [Value.cells, List.cons_append, List.nil_append, List.set, spl, putIt, pick, List.map_cons, List.map_nil, List.getElem?_cons_zero, List.getElem?_cons_succ, Option.getD_some, List.drop_succ_cons, List.drop_zero, List.drop_nil, List.append_nil, unB] at st); (try clear hc); have hc := st.facts; (try simp only [factsOf, blkI, blkFacts, rowI, byI, datI, nullI, oldI, penI, rdI, rdAnyI, rdOverI, Nat.zero_add, Nat.reduceAdd, and_true, true_and, and_self] at hc))
      (try simp only [Exit.inBlock, Exit.then])
      refine bodyPost_cell rfl rfl (st.blk (i := 2) get2) Try.underlying98 rfl (by kernel_rfl) rfl ?_
      exact ⟨by rw [HO.out]; rfl, st.ext0⟩
    · have hn0 : ((cn : Int) == 0) = false := by simp; omega
      go_wp2_with fail
      refine (HCN.out _).mono ?_
      rintro en w ⟨rfl, hx⟩
      replace st := st.ext hx
      clear hx
      (try clear hc); have hc := st.facts; (try simp only [factsOf, blkI, blkFacts, rowI, byI, datI, nullI, oldI, penI, rdI, rdAnyI, rdOverI, Nat.zero_add, Nat.reduceAdd, and_true, true_and, and_self] at hc)
      by_cases n1 : cn = 1
      · subst n1
        go_wp2_with ((((with_reducible refine wl_store ?_ (fun K hK => ?_)); rfl; refine owp_store rfl st ?_; apply Exists.intro; apply Exists.intro; refine ⟨?_, ?_, ?_⟩; (focus (go_simp; try rfl)); (focus (go_simp; try rfl)); (with_reducible refine ⟨2, _, _, _, _, get2, rfl, rfl, ?_, ?_, ?_, ?_⟩); (kernel_rfl); (simp [Value.cells]); (rfl); (clear st; intro w st))); (try simp only [Value.cells, List.cons_append, List.nil_append, List.set, spl, putIt, pick, List.map_cons, List.map_nil, List.getElem?_cons_zero, List.getElem?_cons_succ, Option.getD_some, List.drop_succ_cons, List.drop_zero, List.drop_nil, List.append_nil, unB] at st); (try clear hc); have hc := st.facts; (try simp only [factsOf, blkI, blkFacts, rowI, byI, datI, nullI, oldI, penI, rdI, rdAnyI, rdOverI, Nat.zero_add, Nat.reduceAdd, and_true, true_and, and_self] at hc))
        (try simp only [Exit.inBlock, Exit.then])
        refine bodyPost_cell rfl rfl (st.blk (i := 2) get2) Try.underlying98 rfl (by kernel_rfl) rfl ?_
        exact ⟨by rw [HO.out]; rfl, st.ext0⟩
      · have hn1 : ((cn : Int) == 1) = false := by simp; omega
        obtain ⟨i, hi, hil⟩ := HLP.out n0
        subst hi
        have HN := Lib.hid (And.intro n0 n1)
        clear n0 n1
        have hsz : (⟨s.toArray⟩ : ByteArray).size = s.length := by simp [ByteArray.size]
        have e1 : (⟨s.toArray⟩ : ByteArray).extract 0 i = ⟨(s.take i).toArray⟩ := by apply ByteArray.ext; rw [ByteArray.data_extract]; simp [List.extract_eq_take_drop]
        have e2 : (⟨s.toArray⟩ : ByteArray).extract (i + 1) s.length = ⟨(s.drop (i + 1)).toArray⟩ := by apply ByteArray.ext; rw [ByteArray.data_extract]; simp only [List.extract_toArray, List.extract_eq_take_drop]; rw [List.take_of_length_le (by simp)]
        have hw1 : IntKind.i64.wrap ((i : Int) + 1) = ((i + 1 : Nat) : Int) := IntWalk.i64_in _ ⟨by omega, by omega⟩
        have HP3 := Lib.hid (fun W => roleParse_any (s.take i) W (by simp; omega))
        simp only [Int.toNat_natCast] at HO
        obtain ⟨⟨u1, u2⟩, hp3⟩ : ∃ p, roleP1 (s.take i) = p := ⟨_, rfl⟩
        obtain ⟨q3, hq3⟩ : ∃ p, (roleP (s.take i)).isSome = p := ⟨_, rfl⟩
        rw [hp3] at HO HP3
        rw [hq3] at HP3
        clear hp3 hq3
        have HE := Lib.hid (And.intro e1 e2)
        clear e1 e2
        obtain ⟨tk, htk⟩ : ∃ t, s.take i = t := ⟨_, rfl⟩
        obtain ⟨dp, hdp⟩ : ∃ t, s.drop (i + 1) = t := ⟨_, rfl⟩
        rw [htk] at HP3 HE
        rw [hdp] at HO HE
        clear htk hdp
        unfold rV S at HP3
        go_wp2_with fail
        rw [HE.out.1]
        refine (HP3.out _).mono ?_
        rintro en w ⟨rfl, hx⟩
        replace st := st.ext hx
        clear hx
        (try clear hc); have hc := st.facts; (try simp only [factsOf, blkI, blkFacts, rowI, byI, datI, nullI, oldI, penI, rdI, rdAnyI, rdOverI, Nat.zero_add, Nat.reduceAdd, and_true, true_and, and_self] at hc)
        go_wp2_with ((first
              | ((with_reducible refine wl_store ?_ (fun K hK => ?_)); rfl; refine owp_store rfl st ?_; apply Exists.intro; apply Exists.intro; refine ⟨?_, ?_, ?_⟩; (focus (go_simp; try rfl)); (focus (go_simp; try rfl)); (with_reducible refine ⟨5, _, _, _, _, get5, rfl, rfl, ?_, ?_, ?_, ?_⟩); (kernel_rfl); (simp [Value.cells]); (rfl); (clear st; intro w st))
              | ((with_reducible refine wl_alloc ?_ (fun K hK => ?_)); rfl; refine owp_alloc (o := ⟨some 13, _, _, _, _, _⟩) rfl st ?_; apply Exists.intro; apply Exists.intro; refine ⟨?_, ?_⟩; (focus (first | (go_simp; done) | (go_simp; rfl))); (clear st; intro b13 w hb st; clear hb))); (try simp only [Value.cells, List.cons_append, List.nil_append, List.set, spl, putIt, pick, List.map_cons, List.map_nil, List.getElem?_cons_zero, List.getElem?_cons_succ, Option.getD_some, List.drop_succ_cons, List.drop_zero, List.drop_nil, List.append_nil, unB] at st); (try clear hc); have hc := st.facts; (try simp only [factsOf, blkI, blkFacts, rowI, byI, datI, nullI, oldI, penI, rdI, rdAnyI, rdOverI, Nat.zero_add, Nat.reduceAdd, and_true, true_and, and_self] at hc))
        refine Rg4.wp_region4_eq #[0, 0, 0, 0, 8, 28, 63, 127] [7] [0, 1] (fun _ => True) [0, 1, 2, 3, 4, 5, 6, 7] (by kernel_rfl) (by kernel_rfl) (by kernel_rfl) (by kernel_rfl) (show Rg4.PB _ by repeat (first | with_reducible exact Rg4.pb_body | with_reducible exact Rg4.pb_bodyD rfl | with_reducible refine Rg4.pb_then ?_ | with_reducible refine Rg4.pb_inBlock ?_ | with_reducible refine Rg4.pb_noGoto ?_)) (trivial) ?_
        replace st := st.drew
        change Rg4.wp4 _ _ _ _ _ _ _ _ _ (World.drew _) _ _
        generalize World.drew _ = w at st ⊢
        (try clear hc); have hc := st.facts; (try simp only [factsOf, blkI, blkFacts, rowI, byI, datI, nullI, oldI, penI, rdI, rdAnyI, rdOverI, Nat.zero_add, Nat.reduceAdd, and_true, true_and, and_self] at hc)
        (refine Rg4.w4_read (Rg4.want_none rfl) rfl rfl ?_; apply Exists.intro; refine ⟨fun w' hw' hcl' => ?_, ?_⟩; focus (subst hw'; (focus (first | (go_simp; done) | (go_simp; first | rfl | (rw [if_neg] <;> first | rfl | omega) | (rw [if_pos] <;> first | rfl | omega))))); (try simp only [Act.put, List.setIfInBounds_toArray, List.set]))
        (refine Rg4.w4_read (Rg4.want_none rfl) rfl rfl ?_; apply Exists.intro; refine ⟨fun w' hw' hcl' => ?_, ?_⟩; focus (subst hw'; (focus (first | (go_simp; done) | (go_simp; first | rfl | (rw [if_neg] <;> first | rfl | omega) | (rw [if_pos] <;> first | rfl | omega))))); (try simp only [Act.put, List.setIfInBounds_toArray, List.set]))
        (refine Rg4.w4_any (Rg4.want_none rfl) rfl ?_; apply Exists.intro; refine ⟨fun w' => ?_, ?_⟩; (focus (first | (go_simp; done) | (go_simp; first | rfl | (rw [if_neg] <;> first | rfl | omega) | (rw [if_pos] <;> first | rfl | omega)))); (try simp only [Act.put, List.setIfInBounds_toArray, List.set]))
        (refine Rg4.w4_any (Rg4.want_none rfl) rfl ?_; apply Exists.intro; refine ⟨fun w' => ?_, ?_⟩; (focus (first | (go_simp; done) | (go_simp; first | rfl | (rw [if_neg] <;> first | rfl | omega) | (rw [if_pos] <;> first | rfl | omega)))); (try simp only [Act.put, List.setIfInBounds_toArray, List.set]))
        (refine Rg4.w4_any (Rg4.want_none rfl) rfl ?_; apply Exists.intro; refine ⟨fun w' => ?_, ?_⟩; (focus (first | (go_simp; done) | (go_simp; first | rfl | (rw [if_neg] <;> first | rfl | omega) | (rw [if_pos] <;> first | rfl | omega)))); (try simp only [Act.put, List.setIfInBounds_toArray, List.set]))
        (refine Rg4.w4_any (Rg4.want_none rfl) rfl ?_; apply Exists.intro; refine ⟨fun w' => ?_, ?_⟩; (focus (first | (go_simp; done) | (go_simp; first | rfl | (rw [if_neg] <;> first | rfl | omega) | (rw [if_pos] <;> first | rfl | omega)))); (try simp only [Act.put, List.setIfInBounds_toArray, List.set]))
        (refine Rg4.w4_any (Rg4.want_none rfl) rfl ?_; apply Exists.intro; refine ⟨fun w' => ?_, ?_⟩; (focus (first | (go_simp; done) | (go_simp; first | rfl | (rw [if_neg] <;> first | rfl | omega) | (rw [if_pos] <;> first | rfl | omega)))); (try simp only [Act.put, List.setIfInBounds_toArray, List.set]))
        (refine Rg4.w4_bar (Rg4.want_none rfl) rfl (fun w' hw' hcl' _ K hK => ?_); subst hw'; (refine owp_store rfl st ?_; apply Exists.intro; apply Exists.intro; refine ⟨?_, ?_, ?_⟩; (focus (go_simp; try rfl)); (focus (go_simp; try rfl)); (with_reducible refine ⟨2, _, _, _, _, get2, rfl, rfl, ?_, ?_, ?_, ?_⟩); (kernel_rfl); (simp [Value.cells]); (rfl); (clear st; intro w st); (try simp only [Value.cells, List.cons_append, List.nil_append, List.set, spl, putIt, pick, List.map_cons, List.map_nil, List.getElem?_cons_zero, List.getElem?_cons_succ, Option.getD_some, List.drop_succ_cons, List.drop_zero, List.drop_nil, List.append_nil, unB] at st); (try clear hc); have hc := st.facts; (try simp only [factsOf, blkI, blkFacts, rowI, byI, datI, nullI, oldI, penI, rdI, rdAnyI, rdOverI, Nat.zero_add, Nat.reduceAdd, and_true, true_and, and_self] at hc)); refine hK _ _ ⟨trivial, ?_⟩; (try simp only [Act.put, List.setIfInBounds_toArray, List.set]))
        refine Rg4.w4_nil (fun w' hw' hcl' _ => ?_); subst hw'; clear hcl'
        rw [HE.out.2] at st
        go_wp2_with fail
        (try simp only [Exit.inBlock, Exit.then])
        refine bodyPost_cell rfl rfl (st.blk (i := 2) get2) Try.underlying98 rfl (by kernel_rfl) rfl ?_
        exact ⟨by rw [HO.out, if_neg (by decide), if_neg HN.out.1, if_neg HN.out.2]; rfl, st.ext0⟩
theorem cV_z : cV zC = .agg #[.int .i64 0, .string ⟨#[]⟩, .string ⟨#[]⟩, .string ⟨#[]⟩, .string ⟨#[]⟩, .string ⟨#[]⟩, .string ⟨#[]⟩, .string ⟨#[]⟩, .string ⟨#[]⟩] := rfl
def refP1 (s : List UInt8) : CredT := (refP s).getD zC
theorem ofP_len (h : Role) (s : List UInt8) (hh : h.1.length ≤ 100000 ∧ h.2.length ≤ 100000) (hs : s.length ≤ 100000) : CredL 100000 (ofP h s) := by
  have hc := cut_le s ampS
  have r1 := roleP1_le (Lib.cut s ampS).1
  have r2 := roleP1_le (Lib.cut s ampS).2.1
  have r3 := roleP1_le (s.take (Lib.lastIndex s [46]).toNat)
  have r4 : (s.take (Lib.lastIndex s [46]).toNat).length ≤ s.length := by simp; omega
  unfold ofP CredL
  split
  · simp only [List.length_nil]; omega
  · split
    · simp only [nR, List.length_nil]; omega
    · split
      · simp only [nR, List.length_nil]; omega
      · simp only [nR, List.length_nil, List.length_drop]; omega
set_option maxRecDepth 100000 in
set_option maxHeartbeats 1000000 in
theorem credParse_any (s : List UInt8) (W : World) (hs : s.length ≤ 100000) (hg : Glob W) :
    Calls Try.prog 52 #[S s] W fun e w' => e = .returned (.tuple #[cV (refP1 s), .bool (refP s).isSome]) ∧ Ext W w' := by
  have hg1 := Lib.hid hg
  have hc1 := cut_le s arrow
  have HC := Lib.hid (fun W => sCut_any s arrow W (by omega))
  unfold refP1
  rw [← progP_eq s]
  obtain ⟨⟨c1, c2, c3⟩, hcc⟩ : ∃ p, Lib.cut s arrow = p := ⟨_, rfl⟩
  have HO : Hid (progP s = if c3 = true ∧ (roleP c1).isSome = true then (if credTy (ofP (roleP1 c1) c2) = s then some (ofP (roleP1 c1) c2) else none) else none) := Lib.hid (by unfold progP; rw [hcc])
  rw [hcc] at HC hc1
  simp only at HC hc1
  clear hcc hg
  have HP1 := Lib.hid (fun W => roleParse_any c1 W (by omega))
  have hrl := roleP1_le c1
  have hol := ofP_len (roleP1 c1) c2 (by omega) (by omega)
  have HOF := Lib.hid (fun W hg => credOf_any (roleP1 c1) c2 W (by omega) hg)
  obtain ⟨⟨p1, p2⟩, hp1⟩ : ∃ p, roleP1 c1 = p := ⟨_, rfl⟩
  obtain ⟨q1, hq1⟩ : ∃ p, (roleP c1).isSome = p := ⟨_, rfl⟩
  rw [hp1] at HP1 HO HOF hol
  rw [hq1] at HP1 HO
  clear hp1 hq1
  obtain ⟨x, hx0⟩ : ∃ x, ofP (p1, p2) c2 = x := ⟨_, rfl⟩
  rw [hx0] at HO HOF hol
  clear hx0
  have HT := Lib.hid (fun W => credText_any x W hol)
  obtain ⟨t, ht0⟩ : ∃ t, credTy x = t := ⟨_, rfl⟩
  rw [ht0] at HO HT
  clear ht0 hol
  have HZ := Lib.hid cV_z
  have st := Own.startOld W
  unfold rV S at *
  unfold arrow at HC
  have HV : Hid (cV x = .agg #[.int .i64 x.k, .string ⟨x.h.1.toArray⟩, .string ⟨x.h.2.toArray⟩, .string ⟨x.w.toArray⟩, .string ⟨x.b.1.toArray⟩, .string ⟨x.b.2.toArray⟩, .string ⟨x.c.1.toArray⟩, .string ⟨x.c.2.toArray⟩, .string ⟨x.e.toArray⟩]) := Lib.hid rfl
  rw [HV.out] at HOF HT
  (try simp only [Value.cells, List.cons_append, List.nil_append, List.set, spl, putIt, pick, List.map_cons, List.map_nil, List.getElem?_cons_zero, List.getElem?_cons_succ, Option.getD_some, List.drop_succ_cons, List.drop_zero, List.drop_nil, List.append_nil, unB] at st)
  (try clear hc); have hc := st.facts; (try simp only [factsOf, blkI, blkFacts, rowI, byI, datI, nullI, oldI, penI, rdI, rdAnyI, rdOverI, Nat.zero_add, Nat.reduceAdd, and_true, true_and, and_self] at hc)
  go_enter Try.func52, Try.ntmps52
  go_wp2_with ((((with_reducible refine wl_alloc ?_ (fun K hK => ?_)); rfl; refine owp_alloc (o := ⟨some 2, _, _, _, _, _⟩) rfl st ?_; apply Exists.intro; apply Exists.intro; refine ⟨?_, ?_⟩; (focus (first | (go_simp; done) | (go_simp; rfl))); (clear st; intro b2 w hb st; clear hb))); (try simp only [Value.cells, List.cons_append, List.nil_append, List.set, spl, putIt, pick, List.map_cons, List.map_nil, List.getElem?_cons_zero, List.getElem?_cons_succ, Option.getD_some, List.drop_succ_cons, List.drop_zero, List.drop_nil, List.append_nil, unB] at st); (try clear hc); have hc := st.facts; (try simp only [factsOf, blkI, blkFacts, rowI, byI, datI, nullI, oldI, penI, rdI, rdAnyI, rdOverI, Nat.zero_add, Nat.reduceAdd, and_true, true_and, and_self] at hc))
  refine (HC.out _ (hg1.out.ext st.ext0)).mono ?_
  rintro en w ⟨rfl, hx⟩
  replace st := st.ext hx
  clear hx
  (try clear hc); have hc := st.facts; (try simp only [factsOf, blkI, blkFacts, rowI, byI, datI, nullI, oldI, penI, rdI, rdAnyI, rdOverI, Nat.zero_add, Nat.reduceAdd, and_true, true_and, and_self] at hc)
  go_wp2_with fail
  refine (HP1.out _).mono ?_
  rintro en w ⟨rfl, hx⟩
  replace st := st.ext hx
  clear hx
  (try clear hc); have hc := st.facts; (try simp only [factsOf, blkI, blkFacts, rowI, byI, datI, nullI, oldI, penI, rdI, rdAnyI, rdOverI, Nat.zero_add, Nat.reduceAdd, and_true, true_and, and_self] at hc)
  cases c3 with
  | false =>
    go_wp2_with ((first
          | ((with_reducible refine wl_alloc ?_ (fun K hK => ?_)); rfl; refine owp_alloc (o := ⟨some 7, _, _, _, _, _⟩) rfl st ?_; apply Exists.intro; apply Exists.intro; refine ⟨?_, ?_⟩; (focus (first | (go_simp; done) | (go_simp; rfl))); (clear st; intro b7 w hb st; clear hb))
          | ((with_reducible refine wl_store ?_ (fun K hK => ?_)); rfl; refine owp_store rfl st ?_; apply Exists.intro; apply Exists.intro; refine ⟨?_, ?_, ?_⟩; (focus (go_simp; try rfl)); (focus (go_simp; try rfl)); (first | (with_reducible refine ⟨1, _, _, _, _, get1, rfl, rfl, ?_, ?_, ?_, ?_⟩) | (with_reducible refine ⟨2, _, _, _, _, get2, rfl, rfl, ?_, ?_, ?_, ?_⟩)); (kernel_rfl); (simp [Value.cells]); (rfl); (clear st; intro w st))); (try simp only [Value.cells, List.cons_append, List.nil_append, List.set, spl, putIt, pick, List.map_cons, List.map_nil, List.getElem?_cons_zero, List.getElem?_cons_succ, Option.getD_some, List.drop_succ_cons, List.drop_zero, List.drop_nil, List.append_nil, unB] at st); (try clear hc); have hc := st.facts; (try simp only [factsOf, blkI, blkFacts, rowI, byI, datI, nullI, oldI, penI, rdI, rdAnyI, rdOverI, Nat.zero_add, Nat.reduceAdd, and_true, true_and, and_self] at hc))
    (try simp only [Exit.inBlock, Exit.then])
    refine bodyPost_cell2 rfl rfl (st.blk (i := 1) get1) Try.underlying98 rfl (by kernel_rfl) rfl ?_
    exact ⟨by rw [HO.out]; rfl, st.ext0⟩
  | true =>
    cases q1 with
    | false =>
      go_wp2_with ((first
            | ((with_reducible refine wl_alloc ?_ (fun K hK => ?_)); rfl; refine owp_alloc (o := ⟨some 7, _, _, _, _, _⟩) rfl st ?_; apply Exists.intro; apply Exists.intro; refine ⟨?_, ?_⟩; (focus (first | (go_simp; done) | (go_simp; rfl))); (clear st; intro b7 w hb st; clear hb))
            | ((with_reducible refine wl_store ?_ (fun K hK => ?_)); rfl; refine owp_store rfl st ?_; apply Exists.intro; apply Exists.intro; refine ⟨?_, ?_, ?_⟩; (focus (go_simp; try rfl)); (focus (go_simp; try rfl)); (first | (with_reducible refine ⟨1, _, _, _, _, get1, rfl, rfl, ?_, ?_, ?_, ?_⟩) | (with_reducible refine ⟨2, _, _, _, _, get2, rfl, rfl, ?_, ?_, ?_, ?_⟩)); (kernel_rfl); (simp [Value.cells]); (rfl); (clear st; intro w st))); (try simp only [Value.cells, List.cons_append, List.nil_append, List.set, spl, putIt, pick, List.map_cons, List.map_nil, List.getElem?_cons_zero, List.getElem?_cons_succ, Option.getD_some, List.drop_succ_cons, List.drop_zero, List.drop_nil, List.append_nil, unB] at st); (try clear hc); have hc := st.facts; (try simp only [factsOf, blkI, blkFacts, rowI, byI, datI, nullI, oldI, penI, rdI, rdAnyI, rdOverI, Nat.zero_add, Nat.reduceAdd, and_true, true_and, and_self] at hc))
      (try simp only [Exit.inBlock, Exit.then])
      refine bodyPost_cell2 rfl rfl (st.blk (i := 1) get1) Try.underlying98 rfl (by kernel_rfl) rfl ?_
      exact ⟨by rw [HO.out]; rfl, st.ext0⟩
    | true =>
      go_wp2_with ((first
            | ((with_reducible refine wl_alloc ?_ (fun K hK => ?_)); rfl; refine owp_alloc (o := ⟨some 7, _, _, _, _, _⟩) rfl st ?_; apply Exists.intro; apply Exists.intro; refine ⟨?_, ?_⟩; (focus (first | (go_simp; done) | (go_simp; rfl))); (clear st; intro b7 w hb st; clear hb))
            | ((with_reducible refine wl_store ?_ (fun K hK => ?_)); rfl; refine owp_store rfl st ?_; apply Exists.intro; apply Exists.intro; refine ⟨?_, ?_, ?_⟩; (focus (go_simp; try rfl)); (focus (go_simp; try rfl)); (with_reducible refine ⟨2, _, _, _, _, get2, rfl, rfl, ?_, ?_, ?_, ?_⟩); (kernel_rfl); (simp [Value.cells]); (rfl); (clear st; intro w st))); (try simp only [Value.cells, List.cons_append, List.nil_append, List.set, spl, putIt, pick, List.map_cons, List.map_nil, List.getElem?_cons_zero, List.getElem?_cons_succ, Option.getD_some, List.drop_succ_cons, List.drop_zero, List.drop_nil, List.append_nil, unB] at st); (try clear hc); have hc := st.facts; (try simp only [factsOf, blkI, blkFacts, rowI, byI, datI, nullI, oldI, penI, rdI, rdAnyI, rdOverI, Nat.zero_add, Nat.reduceAdd, and_true, true_and, and_self] at hc))
      refine (HOF.out _ (hg1.out.ext st.ext0)).mono ?_
      rintro en w ⟨rfl, hx⟩
      replace st := st.ext hx
      clear hx
      (try clear hc); have hc := st.facts; (try simp only [factsOf, blkI, blkFacts, rowI, byI, datI, nullI, oldI, penI, rdI, rdAnyI, rdOverI, Nat.zero_add, Nat.reduceAdd, and_true, true_and, and_self] at hc)
      go_wp2_with ((first
            | ((with_reducible refine wl_store ?_ (fun K hK => ?_)); rfl; refine owp_store rfl st ?_; apply Exists.intro; apply Exists.intro; refine ⟨?_, ?_, ?_⟩; (focus (go_simp; try rfl)); (focus (go_simp; try rfl)); (with_reducible refine ⟨3, _, _, _, _, get3, rfl, rfl, ?_, ?_, ?_, ?_⟩); (kernel_rfl); (simp [Value.cells]); (rfl); (clear st; intro w st))
            | ((with_reducible refine wl_alloc ?_ (fun K hK => ?_)); rfl; refine owp_alloc (o := ⟨some 9, _, _, _, _, _⟩) rfl st ?_; apply Exists.intro; apply Exists.intro; refine ⟨?_, ?_⟩; (focus (first | (go_simp; done) | (go_simp; rfl))); (clear st; intro b9 w hb st; clear hb))); (try simp only [Value.cells, List.cons_append, List.nil_append, List.set, spl, putIt, pick, List.map_cons, List.map_nil, List.getElem?_cons_zero, List.getElem?_cons_succ, Option.getD_some, List.drop_succ_cons, List.drop_zero, List.drop_nil, List.append_nil, unB] at st); (try clear hc); have hc := st.facts; (try simp only [factsOf, blkI, blkFacts, rowI, byI, datI, nullI, oldI, penI, rdI, rdAnyI, rdOverI, Nat.zero_add, Nat.reduceAdd, and_true, true_and, and_self] at hc))
      refine (HT.out _).mono ?_
      rintro en w ⟨rfl, hx⟩
      replace st := st.ext hx
      clear hx
      (try clear hc); have hc := st.facts; (try simp only [factsOf, blkI, blkFacts, rowI, byI, datI, nullI, oldI, penI, rdI, rdAnyI, rdOverI, Nat.zero_add, Nat.reduceAdd, and_true, true_and, and_self] at hc)
      cases hts : (t == s) with
      | true =>
        have hne : (t != s) = false := by simp [bne, hts]
        have hts2 : t = s := by simpa using hts
        have HS := Lib.hid hts2
        clear hts2
        go_wp2_with ((((with_reducible refine wl_store ?_ (fun K hK => ?_)); rfl; refine owp_store rfl st ?_; apply Exists.intro; apply Exists.intro; refine ⟨?_, ?_, ?_⟩; (focus (go_simp; try rfl)); (focus (go_simp; try rfl)); (with_reducible refine ⟨1, _, _, _, _, get1, rfl, rfl, ?_, ?_, ?_, ?_⟩); (kernel_rfl); (simp [Value.cells]); (rfl); (clear st; intro w st))); (try simp only [Value.cells, List.cons_append, List.nil_append, List.set, spl, putIt, pick, List.map_cons, List.map_nil, List.getElem?_cons_zero, List.getElem?_cons_succ, Option.getD_some, List.drop_succ_cons, List.drop_zero, List.drop_nil, List.append_nil, unB] at st); (try clear hc); have hc := st.facts; (try simp only [factsOf, blkI, blkFacts, rowI, byI, datI, nullI, oldI, penI, rdI, rdAnyI, rdOverI, Nat.zero_add, Nat.reduceAdd, and_true, true_and, and_self] at hc))
        (try simp only [Exit.inBlock, Exit.then])
        refine bodyPost_cell2 rfl rfl (st.blk (i := 1) get1) Try.underlying98 rfl (by kernel_rfl) rfl ?_
        exact ⟨by rw [HO.out, if_pos (by simp), if_pos HS.out]; rfl, st.ext0⟩
      | false =>
        have hne : (t != s) = true := by simp [bne, hts]
        have hts2 : t ≠ s := by simpa using hts
        have HS := Lib.hid hts2
        clear hts2
        go_wp2_with ((((with_reducible refine wl_store ?_ (fun K hK => ?_)); rfl; refine owp_store rfl st ?_; apply Exists.intro; apply Exists.intro; refine ⟨?_, ?_, ?_⟩; (focus (go_simp; try rfl)); (focus (go_simp; try rfl)); (with_reducible refine ⟨1, _, _, _, _, get1, rfl, rfl, ?_, ?_, ?_, ?_⟩); (kernel_rfl); (simp [Value.cells]); (rfl); (clear st; intro w st))); (try simp only [Value.cells, List.cons_append, List.nil_append, List.set, spl, putIt, pick, List.map_cons, List.map_nil, List.getElem?_cons_zero, List.getElem?_cons_succ, Option.getD_some, List.drop_succ_cons, List.drop_zero, List.drop_nil, List.append_nil, unB] at st); (try clear hc); have hc := st.facts; (try simp only [factsOf, blkI, blkFacts, rowI, byI, datI, nullI, oldI, penI, rdI, rdAnyI, rdOverI, Nat.zero_add, Nat.reduceAdd, and_true, true_and, and_self] at hc))
        (try simp only [Exit.inBlock, Exit.then])
        refine bodyPost_cell2 rfl rfl (st.blk (i := 1) get1) Try.underlying98 rfl (by kernel_rfl) rfl ?_
        exact ⟨by rw [HO.out, if_pos (by simp), if_neg HS.out]; rfl, st.ext0⟩
/-- The roles of a credential. -/
def credRo (x : CredT) : List Role := if credR x = true then (if x.k = 1 then [x.h] else if x.k = 4 then [x.h, x.b, x.c] else [x.h, x.b]) else []
end Go.Proofs.Ytdkemfimhdjdiaa
