/- Credentials read back; ententelaw05: what first answers. -/
import Derived.Test.YtdkemfimhdjdiaaCredM
import Derived.Test.YtdkemfimhdjdiaaCredN
import Derived.Test.YtdkemfimhdjdiaaCredDF
namespace Go.Proofs.Ytdkemfimhdjdiaa
set_option linter.unusedSimpArgs false
set_option linter.unusedVariables false
open Go Go.RowKit
theorem rdCred_put {x : CredT} (h : credR x = true) : rdCred (credB x) = .ok (x, []) := by
  obtain ⟨h1, hc⟩ := credR_cases h
  obtain ⟨k, hh, w, b, c, e⟩ := x
  simp only at h1 hc
  have hn : ∀ (k : Nat) (ys : List UInt8), k ≤ 4 → rdNumber 9223372036854775807 (numB k ++ ys) = .ok (k, ys) := fun k ys hk => rdNumber_put 9223372036854775807 k ys (by omega) (by decide)
  rcases hc with ⟨rfl, q1, rfl, rfl, rfl⟩ | ⟨rfl, q2, ⟨rfl, rfl, rfl⟩ | ⟨rfl, rfl, _, q5⟩ | ⟨rfl, rfl, q5, _⟩⟩
  · have e0 : credB ⟨1, hh, w, nR, nR, []⟩ = numB 1 ++ (roleB hh ++ (numB w.length ++ w ++ [])) := by simp [credB]
    unfold rdCred
    rw [e0, hn 1 _ (by decide), bd_ok, if_neg (by decide), rdRole_puts hh _ h1, bd_ok, if_pos rfl, rdName_put w [] q1, bd_ok, okCr, if_pos h]
  · have e0 : credB ⟨2, hh, [], b, nR, []⟩ = numB 2 ++ (roleB hh ++ (roleB b ++ [])) := by simp [credB]
    unfold rdCred
    rw [e0, hn 2 _ (by decide), bd_ok, if_neg (by decide), rdRole_puts hh _ h1, bd_ok, if_neg (by decide), rdRole_puts b _ q2, bd_ok, if_pos rfl, okCr, if_pos h]
  · have e0 : credB ⟨3, hh, [], b, nR, e⟩ = numB 3 ++ (roleB hh ++ (roleB b ++ (numB e.length ++ e ++ []))) := by simp [credB]
    unfold rdCred
    rw [e0, hn 3 _ (by decide), bd_ok, if_neg (by decide), rdRole_puts hh _ h1, bd_ok, if_neg (by decide), rdRole_puts b _ q2, bd_ok, if_neg (by decide), if_pos rfl, rdName_put e [] q5, bd_ok, okCr, if_pos h]
  · have e0 : credB ⟨4, hh, [], b, c, []⟩ = numB 4 ++ (roleB hh ++ (roleB b ++ (roleB c ++ []))) := by simp [credB]
    unfold rdCred
    rw [e0, hn 4 _ (by decide), bd_ok, if_neg (by decide), rdRole_puts hh _ h1, bd_ok, if_neg (by decide), rdRole_puts b _ q2, bd_ok, if_neg (by decide), if_neg (by decide), rdRole_puts c _ q5, bd_ok, okCr, if_pos h]
theorem rdRole_err {xs : List UInt8} {e : Int} (h : rdRole xs = .error e) : e ≠ 0 := by
  unfold rdRole at h
  cases hr : rdName xs with
  | error e2 => rw [hr] at h; simp at h; subst h; exact rdName_er hr
  | ok p =>
    obtain ⟨o, ys⟩ := p
    rw [hr] at h; simp only at h
    cases hr2 : rdName ys with
    | error e2 => rw [hr2] at h; simp at h; subst h; exact rdName_er hr2
    | ok p => rw [hr2] at h; simp at h
theorem rdCred_er {xs : List UInt8} {e : Int} (h : rdCred xs = .error e) : e ≠ 0 := by
  have fin : ∀ {c ys}, okCr c ys = .error e → e ≠ 0 := fun {c ys} h => by
    unfold okCr at h; split at h
    · cases h
    · cases h; decide
  unfold rdCred at h
  cases h0 : rdNumber 9223372036854775807 xs with
  | error e0 => rw [h0, bd_er] at h; cases h; exact rdNumber_er h0
  | ok p =>
    obtain ⟨n, ys⟩ := p
    rw [h0, bd_ok] at h
    split at h
    · cases h; decide
    · cases h1 : rdRole ys with
      | error e0 => rw [h1, bd_er] at h; cases h; exact rdRole_err h1
      | ok p =>
        obtain ⟨hh, zs⟩ := p
        rw [h1, bd_ok] at h
        split at h
        · cases h2 : rdName zs with
          | error e0 => rw [h2, bd_er] at h; cases h; exact rdName_er h2
          | ok p => obtain ⟨w, us⟩ := p; rw [h2, bd_ok] at h; exact fin h
        · cases h2 : rdRole zs with
          | error e0 => rw [h2, bd_er] at h; cases h; exact rdRole_err h2
          | ok p =>
            obtain ⟨b, us⟩ := p
            rw [h2, bd_ok] at h
            split at h
            · exact fin h
            · split at h
              · cases h3 : rdName us with
                | error e0 => rw [h3, bd_er] at h; cases h; exact rdName_er h3
                | ok p => obtain ⟨w, us⟩ := p; rw [h3, bd_ok] at h; exact fin h
              · cases h3 : rdRole us with
                | error e0 => rw [h3, bd_er] at h; cases h; exact rdRole_err h3
                | ok p => obtain ⟨w, us⟩ := p; rw [h3, bd_ok] at h; exact fin h
theorem credSet_is (l out : List CredT) (h : out.Pairwise (fun x y => credLt x y = true) ∧ (∀ x ∈ out, x ∈ l ∧ credR x = true) ∧ ∀ x ∈ l, credR x = true → x ∈ out) : credSet l = out :=
  (credSet_set l).uniq credOrd ⟨h.1, fun x => ⟨h.2.1 x, fun q => h.2.2 x q.1 q.2⟩⟩
def cS1 : List UInt8 := [115, 104, 111, 112, 46, 100, 101, 97, 108, 32, 60, 45, 32, 115, 104, 111, 112, 46, 112, 97, 114, 116, 110, 101, 114, 46, 109, 101, 109, 98, 101, 114]
def cS2 : List UInt8 := [97, 46, 114, 32, 60, 45, 32, 98, 111, 98]
def cS3 : List UInt8 := [97, 46, 114, 32, 60, 45, 32, 99, 46, 116, 32, 38, 32, 98, 46, 115]
def cX : CredT := ⟨3, ([115, 104, 111, 112], [100, 101, 97, 108]), [], ([115, 104, 111, 112], [112, 97, 114, 116, 110, 101, 114]), ([], []), [109, 101, 109, 98, 101, 114]⟩
def dX : CredT := ⟨1, ([97], [114]), [98, 111, 98], ([], []), ([], []), []⟩
theorem cp1 : refP cS1 = some cX := by decide +kernel
theorem cp2 : refP cS2 = some dX := by decide +kernel
theorem cp3 : refP cS3 = none := by decide +kernel
theorem cs0 : credSet [cX, dX, cX] = [dX, cX] := credSet_is _ _ (by decide +kernel)
theorem cr2 : credR dX = true := by decide +kernel
theorem cb2 : credBy dX = [1, 1, 97, 1, 114, 3, 98, 111, 98] := by decide +kernel
theorem ct2 : credTy dX = cS2 := by decide +kernel
theorem ro1 : (credRo cX).length = 2 := by decide +kernel
theorem rd2 : rdCred [1, 1, 97, 1, 114, 3, 98, 111, 98] = .ok (dX, []) := by
  have := rdCred_put cr2
  rwa [show credB dX = [1, 1, 97, 1, 114, 3, 98, 111, 98] from by decide +kernel] at this
theorem cXL : CredL 100000 cX := by unfold CredL; decide
theorem dXL : CredL 100000 dX := by unfold CredL; decide
set_option maxRecDepth 100000 in
set_option maxHeartbeats 4000000 in
theorem credFirst_any (W : World) (hg : Glob W) : Calls Try.prog 46 #[] W fun e w' => e = .returned (.bool true) ∧ Ext W w' := by
  have hg1 := Lib.hid hg
  clear hg
  have st := Own.startOld W
  have HP1 := Lib.hid (fun W => credParse_any cS1 W (by decide))
  have HP2 := Lib.hid (fun W => credParse_any cS2 W (by decide))
  have HP3 := Lib.hid (fun W => credParse_any cS3 W (by decide))
  unfold refP1 at HP1 HP2 HP3
  rw [cp1] at HP1
  rw [cp2] at HP2
  rw [cp3] at HP3
  have HB := Lib.hid (fun W => credBytes_f dX W dXL)
  obtain ⟨u, hu⟩ : ∃ u, credBy dX = u := ⟨_, rfl⟩
  rw [hu] at HB
  have HU : Hid (u = [1, 1, 97, 1, 114, 3, 98, 111, 98]) := Lib.hid (hu.symm.trans cb2)
  have hul : u.length = 9 := by rw [HU.out]; rfl
  have HRU : Hid (rdCred u = .ok (dX, [])) := Lib.hid (by rw [HU.out]; exact rd2)
  clear hu
  unfold cV S cX cS1 at HP1
  unfold cV S dX cS2 at HP2
  unfold cV S zC cS3 at HP3
  unfold cV S dX at HB
  (try simp only [Value.cells, List.cons_append, List.nil_append, List.set, spl, putIt, pick, List.map_cons, List.map_nil, List.getElem?_cons_zero, List.getElem?_cons_succ, Option.getD_some, List.drop_succ_cons, List.drop_zero, List.drop_nil, List.append_nil, unB] at st)
  (try clear hc); have hc := st.facts; (try simp only [factsOf, blkI, blkFacts, rowI, byI, datI, nullI, oldI, penI, rdI, rdAnyI, rdOverI, Nat.zero_add, Nat.reduceAdd, and_true, true_and, and_self] at hc)
  go_enter Try.func46, Try.ntmps46
  go_wp2_with fail
  refine (HP1.out _ (hg1.out.ext st.ext0)).mono ?_
  rintro en w ⟨rfl, hx⟩
  replace st := st.ext hx
  clear hx
  (try clear hc); have hc := st.facts; (try simp only [factsOf, blkI, blkFacts, rowI, byI, datI, nullI, oldI, penI, rdI, rdAnyI, rdOverI, Nat.zero_add, Nat.reduceAdd, and_true, true_and, and_self] at hc)
  go_wp2_with ((first
        | ((with_reducible refine wl_alloc ?_ (fun K hK => ?_)); rfl; refine owp_alloc (o := ⟨some 1, _, _, _, _, _⟩) rfl st ?_; apply Exists.intro; apply Exists.intro; refine ⟨?_, ?_⟩; (focus (first | (go_simp; done) | (go_simp; rfl))); (clear st; intro b1 w hb st; clear hb))
        | ((with_reducible refine wl_store ?_ (fun K hK => ?_)); rfl; refine owp_store rfl st ?_; apply Exists.intro; apply Exists.intro; refine ⟨?_, ?_, ?_⟩; (focus (go_simp; try rfl)); (focus (go_simp; try rfl)); (with_reducible refine ⟨1, _, _, _, _, get1, rfl, rfl, ?_, ?_, ?_, ?_⟩); (kernel_rfl); (simp [Value.cells]); (rfl); (clear st; intro w st))); (try simp only [Value.cells, List.cons_append, List.nil_append, List.set, spl, putIt, pick, List.map_cons, List.map_nil, List.getElem?_cons_zero, List.getElem?_cons_succ, Option.getD_some, List.drop_succ_cons, List.drop_zero, List.drop_nil, List.append_nil, unB] at st); (try clear hc); have hc := st.facts; (try simp only [factsOf, blkI, blkFacts, rowI, byI, datI, nullI, oldI, penI, rdI, rdAnyI, rdOverI, Nat.zero_add, Nat.reduceAdd, and_true, true_and, and_self] at hc))
  refine (HP2.out _ (hg1.out.ext st.ext0)).mono ?_
  rintro en w ⟨rfl, hx⟩
  replace st := st.ext hx
  clear hx
  (try clear hc); have hc := st.facts; (try simp only [factsOf, blkI, blkFacts, rowI, byI, datI, nullI, oldI, penI, rdI, rdAnyI, rdOverI, Nat.zero_add, Nat.reduceAdd, and_true, true_and, and_self] at hc)
  go_wp2_with ((first
        | ((with_reducible refine wl_store ?_ (fun K hK => ?_)); rfl; refine owp_store rfl st ?_; apply Exists.intro; apply Exists.intro; refine ⟨?_, ?_, ?_⟩; (focus (go_simp; try rfl)); (focus (go_simp; try rfl)); (with_reducible refine ⟨2, _, _, _, _, get2, rfl, rfl, ?_, ?_, ?_, ?_⟩); (kernel_rfl); (simp [Value.cells]); (rfl); (clear st; intro w st))
        | ((with_reducible refine wl_alloc ?_ (fun K hK => ?_)); rfl; refine owp_alloc (o := ⟨some 3, _, _, _, _, _⟩) rfl st ?_; apply Exists.intro; apply Exists.intro; refine ⟨?_, ?_⟩; (focus (first | (go_simp; done) | (go_simp; rfl))); (clear st; intro b3 w hb st; clear hb))); (try simp only [Value.cells, List.cons_append, List.nil_append, List.set, spl, putIt, pick, List.map_cons, List.map_nil, List.getElem?_cons_zero, List.getElem?_cons_succ, Option.getD_some, List.drop_succ_cons, List.drop_zero, List.drop_nil, List.append_nil, unB] at st); (try clear hc); have hc := st.facts; (try simp only [factsOf, blkI, blkFacts, rowI, byI, datI, nullI, oldI, penI, rdI, rdAnyI, rdOverI, Nat.zero_add, Nat.reduceAdd, and_true, true_and, and_self] at hc))
  refine (HP3.out _ (hg1.out.ext st.ext0)).mono ?_
  rintro en w ⟨rfl, hx⟩
  replace st := st.ext hx
  clear hx
  (try clear hc); have hc := st.facts; (try simp only [factsOf, blkI, blkFacts, rowI, byI, datI, nullI, oldI, penI, rdI, rdAnyI, rdOverI, Nat.zero_add, Nat.reduceAdd, and_true, true_and, and_self] at hc)
  go_wp2_with ((first
        | ((with_reducible refine wl_store ?_ (fun K hK => ?_)); rfl; refine owp_store rfl st ?_; apply Exists.intro; apply Exists.intro; refine ⟨?_, ?_, ?_⟩; (focus (go_simp; try rfl)); (focus (go_simp; try rfl)); (with_reducible refine ⟨3, _, _, _, _, get3, rfl, rfl, ?_, ?_, ?_, ?_⟩); (kernel_rfl); (simp [Value.cells]); (rfl); (clear st; intro w st))
        | ((with_reducible refine wl_alloc ?_ (fun K hK => ?_)); rfl; refine owp_alloc (o := ⟨some 5, _, _, _, _, _⟩) rfl st ?_; apply Exists.intro; apply Exists.intro; refine ⟨?_, ?_⟩; (focus (first | (go_simp; done) | (go_simp; rfl))); (clear st; intro b5 w hb st; clear hb))); (try simp only [Value.cells, List.cons_append, List.nil_append, List.set, spl, putIt, pick, List.map_cons, List.map_nil, List.getElem?_cons_zero, List.getElem?_cons_succ, Option.getD_some, List.drop_succ_cons, List.drop_zero, List.drop_nil, List.append_nil, unB] at st); (try clear hc); have hc := st.facts; (try simp only [factsOf, blkI, blkFacts, rowI, byI, datI, nullI, oldI, penI, rdI, rdAnyI, rdOverI, Nat.zero_add, Nat.reduceAdd, and_true, true_and, and_self] at hc))
  refine (HB.out _).mono ?_
  rintro en w ⟨pa, pn, pc, rfl, hfr⟩
  have hpn : pn = 9 := hfr.by.2.1.trans hul
  subst hpn
  replace st := st.fresh hfr
  clear hfr
  (try simp only [Value.cells, List.cons_append, List.nil_append, List.set, spl, putIt, pick, List.map_cons, List.map_nil, List.getElem?_cons_zero, List.getElem?_cons_succ, Option.getD_some, List.drop_succ_cons, List.drop_zero, List.drop_nil, List.append_nil, unB] at st)
  (try clear hc); have hc := st.facts; (try simp only [factsOf, blkI, blkFacts, rowI, byI, datI, nullI, oldI, penI, rdI, rdAnyI, rdOverI, Nat.zero_add, Nat.reduceAdd, and_true, true_and, and_self] at hc)
  go_wp2_with ((((with_reducible refine wl_alloc ?_ (fun K hK => ?_)); rfl; refine owp_alloc (o := ⟨some 8, _, _, _, _, _⟩) rfl st ?_; apply Exists.intro; apply Exists.intro; refine ⟨?_, ?_⟩; (focus (first | (go_simp; done) | (go_simp; rfl))); (clear st; intro b8 w hb st; clear hb))); (try simp only [Value.cells, List.cons_append, List.nil_append, List.set, spl, putIt, pick, List.map_cons, List.map_nil, List.getElem?_cons_zero, List.getElem?_cons_succ, Option.getD_some, List.drop_succ_cons, List.drop_zero, List.drop_nil, List.append_nil, unB] at st); (try clear hc); have hc := st.facts; (try simp only [factsOf, blkI, blkFacts, rowI, byI, datI, nullI, oldI, penI, rdI, rdAnyI, rdOverI, Nat.zero_add, Nat.reduceAdd, and_true, true_and, and_self] at hc))
  refine (readGet_c st 5 get5 (st.rowBy (i := 4) get4).2 (st.rowBy (i := 4) get4).1 (by omega) 87 (fun _ _ => by kernel_rfl) (rdCred u) cC (fun fr al w r st => cfirstGet_c zC st (by omega))).mono ?_
  rintro en w ⟨r1, rfl, st'⟩
  rw [HRU.out] at st' ⊢
  simp only [gotE, gotZ, if_true, cC, dX, S] at st' ⊢
  clear st
  have st := st'.keep [1, 2, 3, 5, 6] (by decide) (by simp)
  clear st' HP1 HP2 HP3 HB
  simp only [pick, List.map_cons, List.map_nil, List.set, List.getElem?_cons_zero, List.getElem?_cons_succ, Option.getD_some] at st
  (try simp only [Value.cells, List.cons_append, List.nil_append, List.set, spl, putIt, pick, List.map_cons, List.map_nil, List.getElem?_cons_zero, List.getElem?_cons_succ, Option.getD_some, List.drop_succ_cons, List.drop_zero, List.drop_nil, List.append_nil, unB] at st)
  (try clear hc); have hc := st.facts; (try simp only [factsOf, blkI, blkFacts, rowI, byI, datI, nullI, oldI, penI, rdI, rdAnyI, rdOverI, Nat.zero_add, Nat.reduceAdd, and_true, true_and, and_self] at hc)
  go_wp2_with ((((with_reducible refine wl_buildSlice ?_ (fun K hK => ?_)); rfl; refine owp_buildSlice (o := ⟨some 31, _, _, _, _, _⟩) rfl st ?_; apply Exists.intro; apply Exists.intro; apply Exists.intro; apply Exists.intro; refine ⟨?_, ?_⟩; (focus (go_simp; (first | done | exact ⟨⟨rfl, rfl⟩, rfl⟩ | rfl))); (clear st; intro b31 w hb st; clear hb))); (try simp only [Value.cells, List.cons_append, List.nil_append, List.set, spl, putIt, pick, List.map_cons, List.map_nil, List.getElem?_cons_zero, List.getElem?_cons_succ, Option.getD_some, List.drop_succ_cons, List.drop_zero, List.drop_nil, List.append_nil, unB] at st); (try clear hc); have hc := st.facts; (try simp only [factsOf, blkI, blkFacts, rowI, byI, datI, nullI, oldI, penI, rdI, rdAnyI, rdOverI, Nat.zero_add, Nat.reduceAdd, and_true, true_and, and_self] at hc))
  have hF := fl_lit (st.blk (i := 5) get5) ([cX, dX, cX] : List CredT) rfl
  have hL : ∀ x ∈ [cX, dX, cX], CredL 100000 x := fun x hx => by
    simp only [List.mem_cons, List.not_mem_nil, or_false] at hx
    rcases hx with rfl | rfl | rfl
    · exact cXL
    · exact dXL
    · exact cXL
  refine (credSet_any _ _ 3 _ _ hF (by decide) hL).mono ?_
  rintro en w ⟨va, vc, rfl, hnew⟩
  rw [cs0] at hnew ⊢
  replace st := st.fresh hnew
  clear hnew hF hL
  have e2 : ([dX, cX] : List CredT).length = 2 := rfl
  rw [e2] at st ⊢
  clear e2
  have HCX := Lib.hid (fun W => credRoles_any cX W cXL)
  have HTX := Lib.hid (fun W => credText_any dX W dXL)
  rw [ro1] at HCX
  rw [ct2] at HTX
  unfold cV S cX at HCX
  unfold cV S dX cS2 at HTX
  (try simp only [Value.cells, List.cons_append, List.nil_append, List.set, spl, putIt, pick, List.map_cons, List.map_nil, List.getElem?_cons_zero, List.getElem?_cons_succ, Option.getD_some, List.drop_succ_cons, List.drop_zero, List.drop_nil, List.append_nil, unB] at st)
  (try clear hc); have hc := st.facts; (try simp only [factsOf, blkI, blkFacts, rowI, byI, datI, nullI, oldI, penI, rdI, rdAnyI, rdOverI, Nat.zero_add, Nat.reduceAdd, and_true, true_and, and_self] at hc)
  obtain ⟨g, cap, hv, hcap, _⟩ := st.rowAt (i := 6) get6 (by omega)
  injection hv with hv1 hv2 hv3
  subst hv1 hv3
  clear hv2
  have HUb : Hid (u = [1, 1, 97, 1, 114, 3, 98, 111, 98]) := HU
  go_wp2_with fail
  refine Rg4.wp_region4 (Rel := Ext) #[0, 1, 3, 7, 15, 31, 63, 127, 255, 511, 1023, 2047, 4095, 8191, 16383, 32767, 65535, 131071, 262143, 524287, 1048575, 2097151, 4194303, 8388607, 16777215, 33554431, 67108863, 134217727, 268435455, 268435455, 1073741823, 2147483647, 4294967295, 8589934591, 17179869183, 34359738367, 68719476735, 137438953471, 274877906943, 549755813887, 1099511627775, 274877906943, 4398046511103, 8796093022207, 17592186044415, 35184372088831, 35184372088831, 140737488355327, 281474976710655, 562949953421311, 1125899906842623, 2251799813685247, 4503599627370495, 9007199254740991, 18014398509481983, 36028797018963967, 72057594037927935, 144115188075855871, 288230376151711743, 576460752303423487, 1152921504606846975]
    [(47, .val (.bool true)), (57, .val (.string ⟨#[97, 46, 114, 32, 60, 45, 32, 98, 111, 98]⟩))] [51] [3, 8, 20, 28, 29, 40, 41, 46, 50, 56] (fun _ => True) [0, 1, 2, 3, 4, 5, 6, 7, 8, 9, 10, 11, 12, 13, 14, 15, 16, 17, 18, 19, 20, 21, 22, 23, 24, 25, 26, 27, 28, 29, 30, 31, 32, 33, 34, 35, 36, 37, 38, 39, 40, 41, 42, 43, 44, 45, 46, 47, 48, 49, 50, 51, 52, 53, 54, 55, 56, 57, 58, 59, 60] (by kernel_rfl) (by kernel_rfl) (by kernel_rfl) (by kernel_rfl) Ext.refl (fun _ _ _ => Ext.trans) (show Rg4.PB _ by repeat (first | with_reducible exact Rg4.pb_body | with_reducible exact Rg4.pb_bodyD rfl | with_reducible refine Rg4.pb_then ?_ | with_reducible refine Rg4.pb_inBlock ?_ | with_reducible refine Rg4.pb_noGoto ?_)) (trivial) ?_
  replace st := st.drew
  change Rg4.wp4 _ _ _ _ _ _ _ _ _ (World.drew _) _ _
  generalize World.drew _ = w at st ⊢
  (try clear hc); have hc := st.facts; (try simp only [factsOf, blkI, blkFacts, rowI, byI, datI, nullI, oldI, penI, rdI, rdAnyI, rdOverI, Nat.zero_add, Nat.reduceAdd, and_true, true_and, and_self] at hc)
  (refine Rg4.w4_any (Rg4.want_none rfl) rfl ?_; apply Exists.intro; refine ⟨fun w' => ?_, ?_⟩; (focus (first | (go_simp; done) | (go_simp; first | rfl | (rw [if_neg] <;> first | rfl | omega) | (rw [if_pos] <;> first | rfl | omega)))); (try simp only [Act.put, List.setIfInBounds_toArray, List.set]))
  (refine Rg4.w4_any (Rg4.want_none rfl) rfl ?_; apply Exists.intro; refine ⟨fun w' => ?_, ?_⟩; (focus (first | (go_simp; done) | (go_simp; first | rfl | (rw [if_neg] <;> first | rfl | omega) | (rw [if_pos] <;> first | rfl | omega)))); (try simp only [Act.put, List.setIfInBounds_toArray, List.set]))
  (first | (refine Rg4.w4_any (Rg4.want_of 1 34 true rfl rfl rfl) rfl ?_; apply Exists.intro; refine ⟨fun w' => ?_, ?_⟩; (focus (first | (go_simp; done) | (go_simp; first | rfl | (rw [if_neg] <;> first | rfl | omega) | (rw [if_pos] <;> first | rfl | omega)))); (try simp only [Act.put, List.setIfInBounds_toArray, List.set])) | (refine Rg4.w4_skip (Rg4.unwant_of 1 34 true rfl rfl rfl) ?_; (try simp only [Act.put, List.setIfInBounds_toArray, List.set])) | (refine Rg4.w4_skip (Rg4.unwant_nil 1 34 true rfl rfl rfl) ?_; (try simp only [Act.put, List.setIfInBounds_toArray, List.set])))
  (first | (refine Rg4.w4_read (Rg4.want_of 1 34 true rfl rfl rfl) rfl rfl ?_; apply Exists.intro; refine ⟨fun w' hw' hcl' => ?_, ?_⟩; focus (have st' := st.ext hw'; have hc' := st'.facts; (try simp only [factsOf, blkI, blkFacts, rowI, byI, datI, nullI, oldI, penI, rdI, rdAnyI, rdOverI, Nat.zero_add, Nat.reduceAdd, and_true, true_and, and_self] at hc'); have r0 := st'.rowC (i := 6) get6 0 (.int .i64 1) rfl; have r1 := st'.rowC (i := 6) get6 1 (S [97]) rfl; have r2 := st'.rowC (i := 6) get6 2 (S [114]) rfl; have r3 := st'.rowC (i := 6) get6 3 (S [98, 111, 98]) rfl; have r4 := st'.rowC (i := 6) get6 4 (S []) rfl; have r5 := st'.rowC (i := 6) get6 5 (S []) rfl; have r6 := st'.rowC (i := 6) get6 6 (S []) rfl; have r7 := st'.rowC (i := 6) get6 7 (S []) rfl; have r8 := st'.rowC (i := 6) get6 8 (S []) rfl; unfold S at r1 r2 r3 r4 r5 r6 r7 r8; have q4 := conv_bs (P := Try.prog) (src := 30) (dst := 9) (c := pc) Try.underlying30 Try.underlying5 Try.underlying9 (st'.rowBy (i := 3) get3).2; unfold S at q4; rw [HUb.out] at q4; (focus (first | (go_simp; done) | (go_simp; first | rfl | (rw [if_neg] <;> first | rfl | omega) | (rw [if_pos] <;> first | rfl | omega))))); (try simp only [Act.put, List.setIfInBounds_toArray, List.set])) | (refine Rg4.w4_skip (Rg4.unwant_of 1 34 true rfl rfl rfl) ?_; (try simp only [Act.put, List.setIfInBounds_toArray, List.set])) | (refine Rg4.w4_skip (Rg4.unwant_nil 1 34 true rfl rfl rfl) ?_; (try simp only [Act.put, List.setIfInBounds_toArray, List.set])))
  (first | (refine Rg4.w4_any (Rg4.want_of 1 34 true rfl rfl rfl) rfl ?_; apply Exists.intro; refine ⟨fun w' => ?_, ?_⟩; (focus (first | (go_simp; done) | (go_simp; first | rfl | (rw [if_neg] <;> first | rfl | omega) | (rw [if_pos] <;> first | rfl | omega)))); (try simp only [Act.put, List.setIfInBounds_toArray, List.set])) | (refine Rg4.w4_skip (Rg4.unwant_of 1 34 true rfl rfl rfl) ?_; (try simp only [Act.put, List.setIfInBounds_toArray, List.set])) | (refine Rg4.w4_skip (Rg4.unwant_nil 1 34 true rfl rfl rfl) ?_; (try simp only [Act.put, List.setIfInBounds_toArray, List.set])))
  (refine Rg4.w4_any (Rg4.want_none rfl) rfl ?_; apply Exists.intro; refine ⟨fun w' => ?_, ?_⟩; (focus (first | (go_simp; done) | (go_simp; first | rfl | (rw [if_neg] <;> first | rfl | omega) | (rw [if_pos] <;> first | rfl | omega)))); (try simp only [Act.put, List.setIfInBounds_toArray, List.set]))
  (refine Rg4.w4_any (Rg4.want_none rfl) rfl ?_; apply Exists.intro; refine ⟨fun w' => ?_, ?_⟩; (focus (first | (go_simp; done) | (go_simp; first | rfl | (rw [if_neg] <;> first | rfl | omega) | (rw [if_pos] <;> first | rfl | omega)))); (try simp only [Act.put, List.setIfInBounds_toArray, List.set]))
  (first | (refine Rg4.w4_any (Rg4.want_of 6 39 true rfl rfl rfl) rfl ?_; apply Exists.intro; refine ⟨fun w' => ?_, ?_⟩; (focus (first | (go_simp; done) | (go_simp; first | rfl | (rw [if_neg] <;> first | rfl | omega) | (rw [if_pos] <;> first | rfl | omega)))); (try simp only [Act.put, List.setIfInBounds_toArray, List.set])) | (refine Rg4.w4_skip (Rg4.unwant_of 6 39 true rfl rfl rfl) ?_; (try simp only [Act.put, List.setIfInBounds_toArray, List.set])) | (refine Rg4.w4_skip (Rg4.unwant_nil 6 39 true rfl rfl rfl) ?_; (try simp only [Act.put, List.setIfInBounds_toArray, List.set])))
  (first | (refine Rg4.w4_read (Rg4.want_of 6 39 true rfl rfl rfl) rfl rfl ?_; apply Exists.intro; refine ⟨fun w' hw' hcl' => ?_, ?_⟩; focus (have st' := st.ext hw'; have hc' := st'.facts; (try simp only [factsOf, blkI, blkFacts, rowI, byI, datI, nullI, oldI, penI, rdI, rdAnyI, rdOverI, Nat.zero_add, Nat.reduceAdd, and_true, true_and, and_self] at hc'); have r0 := st'.rowC (i := 6) get6 0 (.int .i64 1) rfl; have r1 := st'.rowC (i := 6) get6 1 (S [97]) rfl; have r2 := st'.rowC (i := 6) get6 2 (S [114]) rfl; have r3 := st'.rowC (i := 6) get6 3 (S [98, 111, 98]) rfl; have r4 := st'.rowC (i := 6) get6 4 (S []) rfl; have r5 := st'.rowC (i := 6) get6 5 (S []) rfl; have r6 := st'.rowC (i := 6) get6 6 (S []) rfl; have r7 := st'.rowC (i := 6) get6 7 (S []) rfl; have r8 := st'.rowC (i := 6) get6 8 (S []) rfl; unfold S at r1 r2 r3 r4 r5 r6 r7 r8; have q4 := conv_bs (P := Try.prog) (src := 30) (dst := 9) (c := pc) Try.underlying30 Try.underlying5 Try.underlying9 (st'.rowBy (i := 3) get3).2; unfold S at q4; rw [HUb.out] at q4; (focus (first | (go_simp; done) | (go_simp; first | rfl | (rw [if_neg] <;> first | rfl | omega) | (rw [if_pos] <;> first | rfl | omega))))); (try simp only [Act.put, List.setIfInBounds_toArray, List.set])) | (refine Rg4.w4_skip (Rg4.unwant_of 6 39 true rfl rfl rfl) ?_; (try simp only [Act.put, List.setIfInBounds_toArray, List.set])) | (refine Rg4.w4_skip (Rg4.unwant_nil 6 39 true rfl rfl rfl) ?_; (try simp only [Act.put, List.setIfInBounds_toArray, List.set])))
  (first | (refine Rg4.w4_any (Rg4.want_of 6 39 true rfl rfl rfl) rfl ?_; apply Exists.intro; refine ⟨fun w' => ?_, ?_⟩; (focus (first | (go_simp; done) | (go_simp; first | rfl | (rw [if_neg] <;> first | rfl | omega) | (rw [if_pos] <;> first | rfl | omega)))); (try simp only [Act.put, List.setIfInBounds_toArray, List.set])) | (refine Rg4.w4_skip (Rg4.unwant_of 6 39 true rfl rfl rfl) ?_; (try simp only [Act.put, List.setIfInBounds_toArray, List.set])) | (refine Rg4.w4_skip (Rg4.unwant_nil 6 39 true rfl rfl rfl) ?_; (try simp only [Act.put, List.setIfInBounds_toArray, List.set])))
  (refine Rg4.w4_any (Rg4.want_none rfl) rfl ?_; apply Exists.intro; refine ⟨fun w' => ?_, ?_⟩; (focus (first | (go_simp; done) | (go_simp; first | rfl | (rw [if_neg] <;> first | rfl | omega) | (rw [if_pos] <;> first | rfl | omega)))); (try simp only [Act.put, List.setIfInBounds_toArray, List.set]))
  (refine Rg4.w4_any (Rg4.want_none rfl) rfl ?_; apply Exists.intro; refine ⟨fun w' => ?_, ?_⟩; (focus (first | (go_simp; done) | (go_simp; first | rfl | (rw [if_neg] <;> first | rfl | omega) | (rw [if_pos] <;> first | rfl | omega)))); (try simp only [Act.put, List.setIfInBounds_toArray, List.set]))
  (first | (refine Rg4.w4_any (Rg4.want_of 11 44 true rfl rfl rfl) rfl ?_; apply Exists.intro; refine ⟨fun w' => ?_, ?_⟩; (focus (first | (go_simp; done) | (go_simp; first | rfl | (rw [if_neg] <;> first | rfl | omega) | (rw [if_pos] <;> first | rfl | omega)))); (try simp only [Act.put, List.setIfInBounds_toArray, List.set])) | (refine Rg4.w4_skip (Rg4.unwant_of 11 44 true rfl rfl rfl) ?_; (try simp only [Act.put, List.setIfInBounds_toArray, List.set])) | (refine Rg4.w4_skip (Rg4.unwant_nil 11 44 true rfl rfl rfl) ?_; (try simp only [Act.put, List.setIfInBounds_toArray, List.set])))
  (refine Rg4.w4_any (Rg4.want_none rfl) rfl ?_; apply Exists.intro; refine ⟨fun w' => ?_, ?_⟩; (focus (first | (go_simp; done) | (go_simp; first | rfl | (rw [if_neg] <;> first | rfl | omega) | (rw [if_pos] <;> first | rfl | omega)))); (try simp only [Act.put, List.setIfInBounds_toArray, List.set]))
  (refine Rg4.w4_any (Rg4.want_none rfl) rfl ?_; apply Exists.intro; refine ⟨fun w' => ?_, ?_⟩; (focus (first | (go_simp; done) | (go_simp; first | rfl | (rw [if_neg] <;> first | rfl | omega) | (rw [if_pos] <;> first | rfl | omega)))); (try simp only [Act.put, List.setIfInBounds_toArray, List.set]))
  (first | (refine Rg4.w4_any (Rg4.want_of 14 47 true rfl rfl rfl) rfl ?_; apply Exists.intro; refine ⟨fun w' => ?_, ?_⟩; (focus (first | (go_simp; done) | (go_simp; first | rfl | (rw [if_neg] <;> first | rfl | omega) | (rw [if_pos] <;> first | rfl | omega)))); (try simp only [Act.put, List.setIfInBounds_toArray, List.set])) | (refine Rg4.w4_skip (Rg4.unwant_of 14 47 true rfl rfl rfl) ?_; (try simp only [Act.put, List.setIfInBounds_toArray, List.set])) | (refine Rg4.w4_skip (Rg4.unwant_nil 14 47 true rfl rfl rfl) ?_; (try simp only [Act.put, List.setIfInBounds_toArray, List.set])))
  (first | (refine Rg4.w4_any (Rg4.want_of 14 47 true rfl rfl rfl) rfl ?_; apply Exists.intro; refine ⟨fun w' => ?_, ?_⟩; (focus (first | (go_simp; done) | (go_simp; first | rfl | (rw [if_neg] <;> first | rfl | omega) | (rw [if_pos] <;> first | rfl | omega)))); (try simp only [Act.put, List.setIfInBounds_toArray, List.set])) | (refine Rg4.w4_skip (Rg4.unwant_of 14 47 true rfl rfl rfl) ?_; (try simp only [Act.put, List.setIfInBounds_toArray, List.set])) | (refine Rg4.w4_skip (Rg4.unwant_nil 14 47 true rfl rfl rfl) ?_; (try simp only [Act.put, List.setIfInBounds_toArray, List.set])))
  (refine Rg4.w4_any (Rg4.want_none rfl) rfl ?_; apply Exists.intro; refine ⟨fun w' => ?_, ?_⟩; (focus (first | (go_simp; done) | (go_simp; first | rfl | (rw [if_neg] <;> first | rfl | omega) | (rw [if_pos] <;> first | rfl | omega)))); (try simp only [Act.put, List.setIfInBounds_toArray, List.set]))
  (refine Rg4.w4_any (Rg4.want_none rfl) rfl ?_; apply Exists.intro; refine ⟨fun w' => ?_, ?_⟩; (focus (first | (go_simp; done) | (go_simp; first | rfl | (rw [if_neg] <;> first | rfl | omega) | (rw [if_pos] <;> first | rfl | omega)))); (try simp only [Act.put, List.setIfInBounds_toArray, List.set]))
  (first | (refine Rg4.w4_any (Rg4.want_of 18 51 true rfl rfl rfl) rfl ?_; apply Exists.intro; refine ⟨fun w' => ?_, ?_⟩; (focus (first | (go_simp; done) | (go_simp; first | rfl | (rw [if_neg] <;> first | rfl | omega) | (rw [if_pos] <;> first | rfl | omega)))); (try simp only [Act.put, List.setIfInBounds_toArray, List.set])) | (refine Rg4.w4_skip (Rg4.unwant_of 18 51 true rfl rfl rfl) ?_; (try simp only [Act.put, List.setIfInBounds_toArray, List.set])) | (refine Rg4.w4_skip (Rg4.unwant_nil 18 51 true rfl rfl rfl) ?_; (try simp only [Act.put, List.setIfInBounds_toArray, List.set])))
  (first | (refine Rg4.w4_read (Rg4.want_of 18 51 true rfl rfl rfl) rfl rfl ?_; apply Exists.intro; refine ⟨fun w' hw' hcl' => ?_, ?_⟩; focus (have st' := st.ext hw'; have hc' := st'.facts; (try simp only [factsOf, blkI, blkFacts, rowI, byI, datI, nullI, oldI, penI, rdI, rdAnyI, rdOverI, Nat.zero_add, Nat.reduceAdd, and_true, true_and, and_self] at hc'); have r0 := st'.rowC (i := 6) get6 0 (.int .i64 1) rfl; have r1 := st'.rowC (i := 6) get6 1 (S [97]) rfl; have r2 := st'.rowC (i := 6) get6 2 (S [114]) rfl; have r3 := st'.rowC (i := 6) get6 3 (S [98, 111, 98]) rfl; have r4 := st'.rowC (i := 6) get6 4 (S []) rfl; have r5 := st'.rowC (i := 6) get6 5 (S []) rfl; have r6 := st'.rowC (i := 6) get6 6 (S []) rfl; have r7 := st'.rowC (i := 6) get6 7 (S []) rfl; have r8 := st'.rowC (i := 6) get6 8 (S []) rfl; unfold S at r1 r2 r3 r4 r5 r6 r7 r8; have q4 := conv_bs (P := Try.prog) (src := 30) (dst := 9) (c := pc) Try.underlying30 Try.underlying5 Try.underlying9 (st'.rowBy (i := 3) get3).2; unfold S at q4; rw [HUb.out] at q4; (focus (first | (go_simp; done) | (go_simp; first | rfl | (rw [if_neg] <;> first | rfl | omega) | (rw [if_pos] <;> first | rfl | omega))))); (try simp only [Act.put, List.setIfInBounds_toArray, List.set])) | (refine Rg4.w4_skip (Rg4.unwant_of 18 51 true rfl rfl rfl) ?_; (try simp only [Act.put, List.setIfInBounds_toArray, List.set])) | (refine Rg4.w4_skip (Rg4.unwant_nil 18 51 true rfl rfl rfl) ?_; (try simp only [Act.put, List.setIfInBounds_toArray, List.set])))
  (first | (refine Rg4.w4_any (Rg4.want_of 18 51 true rfl rfl rfl) rfl ?_; apply Exists.intro; refine ⟨fun w' => ?_, ?_⟩; (focus (first | (go_simp; done) | (go_simp; first | rfl | (rw [if_neg] <;> first | rfl | omega) | (rw [if_pos] <;> first | rfl | omega)))); (try simp only [Act.put, List.setIfInBounds_toArray, List.set])) | (refine Rg4.w4_skip (Rg4.unwant_of 18 51 true rfl rfl rfl) ?_; (try simp only [Act.put, List.setIfInBounds_toArray, List.set])) | (refine Rg4.w4_skip (Rg4.unwant_nil 18 51 true rfl rfl rfl) ?_; (try simp only [Act.put, List.setIfInBounds_toArray, List.set])))
  (refine Rg4.w4_any (Rg4.want_none rfl) rfl ?_; apply Exists.intro; refine ⟨fun w' => ?_, ?_⟩; (focus (first | (go_simp; done) | (go_simp; first | rfl | (rw [if_neg] <;> first | rfl | omega) | (rw [if_pos] <;> first | rfl | omega)))); (try simp only [Act.put, List.setIfInBounds_toArray, List.set]))
  (refine Rg4.w4_any (Rg4.want_none rfl) rfl ?_; apply Exists.intro; refine ⟨fun w' => ?_, ?_⟩; (focus (first | (go_simp; done) | (go_simp; first | rfl | (rw [if_neg] <;> first | rfl | omega) | (rw [if_pos] <;> first | rfl | omega)))); (try simp only [Act.put, List.setIfInBounds_toArray, List.set]))
  (first | (refine Rg4.w4_any (Rg4.want_of 23 56 true rfl rfl rfl) rfl ?_; apply Exists.intro; refine ⟨fun w' => ?_, ?_⟩; (focus (first | (go_simp; done) | (go_simp; first | rfl | (rw [if_neg] <;> first | rfl | omega) | (rw [if_pos] <;> first | rfl | omega)))); (try simp only [Act.put, List.setIfInBounds_toArray, List.set])) | (refine Rg4.w4_skip (Rg4.unwant_of 23 56 true rfl rfl rfl) ?_; (try simp only [Act.put, List.setIfInBounds_toArray, List.set])) | (refine Rg4.w4_skip (Rg4.unwant_nil 23 56 true rfl rfl rfl) ?_; (try simp only [Act.put, List.setIfInBounds_toArray, List.set])))
  (first | (refine Rg4.w4_any (Rg4.want_of 23 56 true rfl rfl rfl) rfl ?_; apply Exists.intro; refine ⟨fun w' => ?_, ?_⟩; (focus (first | (go_simp; done) | (go_simp; first | rfl | (rw [if_neg] <;> first | rfl | omega) | (rw [if_pos] <;> first | rfl | omega)))); (try simp only [Act.put, List.setIfInBounds_toArray, List.set])) | (refine Rg4.w4_skip (Rg4.unwant_of 23 56 true rfl rfl rfl) ?_; (try simp only [Act.put, List.setIfInBounds_toArray, List.set])) | (refine Rg4.w4_skip (Rg4.unwant_nil 23 56 true rfl rfl rfl) ?_; (try simp only [Act.put, List.setIfInBounds_toArray, List.set])))
  (refine Rg4.w4_any (Rg4.want_none rfl) rfl ?_; apply Exists.intro; refine ⟨fun w' => ?_, ?_⟩; (focus (first | (go_simp; done) | (go_simp; first | rfl | (rw [if_neg] <;> first | rfl | omega) | (rw [if_pos] <;> first | rfl | omega)))); (try simp only [Act.put, List.setIfInBounds_toArray, List.set]))
  (refine Rg4.w4_any (Rg4.want_none rfl) rfl ?_; apply Exists.intro; refine ⟨fun w' => ?_, ?_⟩; (focus (first | (go_simp; done) | (go_simp; first | rfl | (rw [if_neg] <;> first | rfl | omega) | (rw [if_pos] <;> first | rfl | omega)))); (try simp only [Act.put, List.setIfInBounds_toArray, List.set]))
  (first | (refine Rg4.w4_read (Rg4.want_of 27 60 true rfl rfl rfl) rfl rfl ?_; apply Exists.intro; refine ⟨fun w' hw' hcl' => ?_, ?_⟩; focus (have st' := st.ext hw'; have hc' := st'.facts; (try simp only [factsOf, blkI, blkFacts, rowI, byI, datI, nullI, oldI, penI, rdI, rdAnyI, rdOverI, Nat.zero_add, Nat.reduceAdd, and_true, true_and, and_self] at hc'); have r0 := st'.rowC (i := 6) get6 0 (.int .i64 1) rfl; have r1 := st'.rowC (i := 6) get6 1 (S [97]) rfl; have r2 := st'.rowC (i := 6) get6 2 (S [114]) rfl; have r3 := st'.rowC (i := 6) get6 3 (S [98, 111, 98]) rfl; have r4 := st'.rowC (i := 6) get6 4 (S []) rfl; have r5 := st'.rowC (i := 6) get6 5 (S []) rfl; have r6 := st'.rowC (i := 6) get6 6 (S []) rfl; have r7 := st'.rowC (i := 6) get6 7 (S []) rfl; have r8 := st'.rowC (i := 6) get6 8 (S []) rfl; unfold S at r1 r2 r3 r4 r5 r6 r7 r8; have q4 := conv_bs (P := Try.prog) (src := 30) (dst := 9) (c := pc) Try.underlying30 Try.underlying5 Try.underlying9 (st'.rowBy (i := 3) get3).2; unfold S at q4; rw [HUb.out] at q4; (focus (first | (go_simp; done) | (go_simp; first | rfl | (rw [if_neg] <;> first | rfl | omega) | (rw [if_pos] <;> first | rfl | omega))))); (try simp only [Act.put, List.setIfInBounds_toArray, List.set])) | (refine Rg4.w4_skip (Rg4.unwant_of 27 60 true rfl rfl rfl) ?_; (try simp only [Act.put, List.setIfInBounds_toArray, List.set])) | (refine Rg4.w4_skip (Rg4.unwant_nil 27 60 true rfl rfl rfl) ?_; (try simp only [Act.put, List.setIfInBounds_toArray, List.set])))
  (first | (refine Rg4.w4_read (Rg4.want_of 27 60 true rfl rfl rfl) rfl rfl ?_; apply Exists.intro; refine ⟨fun w' hw' hcl' => ?_, ?_⟩; focus (have st' := st.ext hw'; have hc' := st'.facts; (try simp only [factsOf, blkI, blkFacts, rowI, byI, datI, nullI, oldI, penI, rdI, rdAnyI, rdOverI, Nat.zero_add, Nat.reduceAdd, and_true, true_and, and_self] at hc'); have r0 := st'.rowC (i := 6) get6 0 (.int .i64 1) rfl; have r1 := st'.rowC (i := 6) get6 1 (S [97]) rfl; have r2 := st'.rowC (i := 6) get6 2 (S [114]) rfl; have r3 := st'.rowC (i := 6) get6 3 (S [98, 111, 98]) rfl; have r4 := st'.rowC (i := 6) get6 4 (S []) rfl; have r5 := st'.rowC (i := 6) get6 5 (S []) rfl; have r6 := st'.rowC (i := 6) get6 6 (S []) rfl; have r7 := st'.rowC (i := 6) get6 7 (S []) rfl; have r8 := st'.rowC (i := 6) get6 8 (S []) rfl; unfold S at r1 r2 r3 r4 r5 r6 r7 r8; have q4 := conv_bs (P := Try.prog) (src := 30) (dst := 9) (c := pc) Try.underlying30 Try.underlying5 Try.underlying9 (st'.rowBy (i := 3) get3).2; unfold S at q4; rw [HUb.out] at q4; (focus (first | (go_simp; done) | (go_simp; first | rfl | (rw [if_neg] <;> first | rfl | omega) | (rw [if_pos] <;> first | rfl | omega))))); (try simp only [Act.put, List.setIfInBounds_toArray, List.set])) | (refine Rg4.w4_skip (Rg4.unwant_of 27 60 true rfl rfl rfl) ?_; (try simp only [Act.put, List.setIfInBounds_toArray, List.set])) | (refine Rg4.w4_skip (Rg4.unwant_nil 27 60 true rfl rfl rfl) ?_; (try simp only [Act.put, List.setIfInBounds_toArray, List.set])))
  (first | (refine Rg4.w4_any (Rg4.want_of 27 60 true rfl rfl rfl) rfl ?_; apply Exists.intro; refine ⟨fun w' => ?_, ?_⟩; (focus (first | (go_simp; done) | (go_simp; first | rfl | (rw [if_neg] <;> first | rfl | omega) | (rw [if_pos] <;> first | rfl | omega)))); (try simp only [Act.put, List.setIfInBounds_toArray, List.set])) | (refine Rg4.w4_skip (Rg4.unwant_of 27 60 true rfl rfl rfl) ?_; (try simp only [Act.put, List.setIfInBounds_toArray, List.set])) | (refine Rg4.w4_skip (Rg4.unwant_nil 27 60 true rfl rfl rfl) ?_; (try simp only [Act.put, List.setIfInBounds_toArray, List.set])))
  (refine Rg4.w4_any (Rg4.want_none rfl) rfl ?_; apply Exists.intro; refine ⟨fun w' => ?_, ?_⟩; (focus (first | (go_simp; done) | (go_simp; first | rfl | (rw [if_neg] <;> first | rfl | omega) | (rw [if_pos] <;> first | rfl | omega)))); (try simp only [Act.put, List.setIfInBounds_toArray, List.set]))
  (refine Rg4.w4_any (Rg4.want_none rfl) rfl ?_; apply Exists.intro; refine ⟨fun w' => ?_, ?_⟩; (focus (first | (go_simp; done) | (go_simp; first | rfl | (rw [if_neg] <;> first | rfl | omega) | (rw [if_pos] <;> first | rfl | omega)))); (try simp only [Act.put, List.setIfInBounds_toArray, List.set]))
  (first | (refine Rg4.w4_any (Rg4.want_of 32 65 true rfl rfl rfl) rfl ?_; apply Exists.intro; refine ⟨fun w' => ?_, ?_⟩; (focus (first | (go_simp; done) | (go_simp; first | rfl | (rw [if_neg] <;> first | rfl | omega) | (rw [if_pos] <;> first | rfl | omega)))); (try simp only [Act.put, List.setIfInBounds_toArray, List.set])) | (refine Rg4.w4_skip (Rg4.unwant_of 32 65 true rfl rfl rfl) ?_; (try simp only [Act.put, List.setIfInBounds_toArray, List.set])) | (refine Rg4.w4_skip (Rg4.unwant_nil 32 65 true rfl rfl rfl) ?_; (try simp only [Act.put, List.setIfInBounds_toArray, List.set])))
  (first | (refine Rg4.w4_any (Rg4.want_of 32 65 true rfl rfl rfl) rfl ?_; apply Exists.intro; refine ⟨fun w' => ?_, ?_⟩; (focus (first | (go_simp; done) | (go_simp; first | rfl | (rw [if_neg] <;> first | rfl | omega) | (rw [if_pos] <;> first | rfl | omega)))); (try simp only [Act.put, List.setIfInBounds_toArray, List.set])) | (refine Rg4.w4_skip (Rg4.unwant_of 32 65 true rfl rfl rfl) ?_; (try simp only [Act.put, List.setIfInBounds_toArray, List.set])) | (refine Rg4.w4_skip (Rg4.unwant_nil 32 65 true rfl rfl rfl) ?_; (try simp only [Act.put, List.setIfInBounds_toArray, List.set])))
  (first | (refine Rg4.w4_any (Rg4.want_of 32 65 true rfl rfl rfl) rfl ?_; apply Exists.intro; refine ⟨fun w' => ?_, ?_⟩; (focus (first | (go_simp; done) | (go_simp; first | rfl | (rw [if_neg] <;> first | rfl | omega) | (rw [if_pos] <;> first | rfl | omega)))); (try simp only [Act.put, List.setIfInBounds_toArray, List.set])) | (refine Rg4.w4_skip (Rg4.unwant_of 32 65 true rfl rfl rfl) ?_; (try simp only [Act.put, List.setIfInBounds_toArray, List.set])) | (refine Rg4.w4_skip (Rg4.unwant_nil 32 65 true rfl rfl rfl) ?_; (try simp only [Act.put, List.setIfInBounds_toArray, List.set])))
  (refine Rg4.w4_any (Rg4.want_none rfl) rfl ?_; apply Exists.intro; refine ⟨fun w' => ?_, ?_⟩; (focus (first | (go_simp; done) | (go_simp; first | rfl | (rw [if_neg] <;> first | rfl | omega) | (rw [if_pos] <;> first | rfl | omega)))); (try simp only [Act.put, List.setIfInBounds_toArray, List.set]))
  (refine Rg4.w4_any (Rg4.want_none rfl) rfl ?_; apply Exists.intro; refine ⟨fun w' => ?_, ?_⟩; (focus (first | (go_simp; done) | (go_simp; first | rfl | (rw [if_neg] <;> first | rfl | omega) | (rw [if_pos] <;> first | rfl | omega)))); (try simp only [Act.put, List.setIfInBounds_toArray, List.set]))
  (first | (refine Rg4.w4_any (Rg4.want_of 37 70 true rfl rfl rfl) rfl ?_; apply Exists.intro; refine ⟨fun w' => ?_, ?_⟩; (focus (first | (go_simp; done) | (go_simp; first | rfl | (rw [if_neg] <;> first | rfl | omega) | (rw [if_pos] <;> first | rfl | omega)))); (try simp only [Act.put, List.setIfInBounds_toArray, List.set])) | (refine Rg4.w4_skip (Rg4.unwant_of 37 70 true rfl rfl rfl) ?_; (try simp only [Act.put, List.setIfInBounds_toArray, List.set])) | (refine Rg4.w4_skip (Rg4.unwant_nil 37 70 true rfl rfl rfl) ?_; (try simp only [Act.put, List.setIfInBounds_toArray, List.set])))
  (first | (refine Rg4.w4_any (Rg4.want_of 37 70 true rfl rfl rfl) rfl ?_; apply Exists.intro; refine ⟨fun w' => ?_, ?_⟩; (focus (first | (go_simp; done) | (go_simp; first | rfl | (rw [if_neg] <;> first | rfl | omega) | (rw [if_pos] <;> first | rfl | omega)))); (try simp only [Act.put, List.setIfInBounds_toArray, List.set])) | (refine Rg4.w4_skip (Rg4.unwant_of 37 70 true rfl rfl rfl) ?_; (try simp only [Act.put, List.setIfInBounds_toArray, List.set])) | (refine Rg4.w4_skip (Rg4.unwant_nil 37 70 true rfl rfl rfl) ?_; (try simp only [Act.put, List.setIfInBounds_toArray, List.set])))
  (first | (refine Rg4.w4_read (Rg4.want_of 37 70 true rfl rfl rfl) rfl rfl ?_; apply Exists.intro; refine ⟨fun w' hw' hcl' => ?_, ?_⟩; focus (have st' := st.ext hw'; have hc' := st'.facts; (try simp only [factsOf, blkI, blkFacts, rowI, byI, datI, nullI, oldI, penI, rdI, rdAnyI, rdOverI, Nat.zero_add, Nat.reduceAdd, and_true, true_and, and_self] at hc'); have r0 := st'.rowC (i := 6) get6 0 (.int .i64 1) rfl; have r1 := st'.rowC (i := 6) get6 1 (S [97]) rfl; have r2 := st'.rowC (i := 6) get6 2 (S [114]) rfl; have r3 := st'.rowC (i := 6) get6 3 (S [98, 111, 98]) rfl; have r4 := st'.rowC (i := 6) get6 4 (S []) rfl; have r5 := st'.rowC (i := 6) get6 5 (S []) rfl; have r6 := st'.rowC (i := 6) get6 6 (S []) rfl; have r7 := st'.rowC (i := 6) get6 7 (S []) rfl; have r8 := st'.rowC (i := 6) get6 8 (S []) rfl; unfold S at r1 r2 r3 r4 r5 r6 r7 r8; have q4 := conv_bs (P := Try.prog) (src := 30) (dst := 9) (c := pc) Try.underlying30 Try.underlying5 Try.underlying9 (st'.rowBy (i := 3) get3).2; unfold S at q4; rw [HUb.out] at q4; (focus (first | (go_simp; done) | (go_simp; first | rfl | (rw [if_neg] <;> first | rfl | omega) | (rw [if_pos] <;> first | rfl | omega))))); (try simp only [Act.put, List.setIfInBounds_toArray, List.set])) | (refine Rg4.w4_skip (Rg4.unwant_of 37 70 true rfl rfl rfl) ?_; (try simp only [Act.put, List.setIfInBounds_toArray, List.set])) | (refine Rg4.w4_skip (Rg4.unwant_nil 37 70 true rfl rfl rfl) ?_; (try simp only [Act.put, List.setIfInBounds_toArray, List.set])))
  (first | (refine Rg4.w4_read (Rg4.want_of 37 70 true rfl rfl rfl) rfl rfl ?_; apply Exists.intro; refine ⟨fun w' hw' hcl' => ?_, ?_⟩; focus (have st' := st.ext hw'; have hc' := st'.facts; (try simp only [factsOf, blkI, blkFacts, rowI, byI, datI, nullI, oldI, penI, rdI, rdAnyI, rdOverI, Nat.zero_add, Nat.reduceAdd, and_true, true_and, and_self] at hc'); have r0 := st'.rowC (i := 6) get6 0 (.int .i64 1) rfl; have r1 := st'.rowC (i := 6) get6 1 (S [97]) rfl; have r2 := st'.rowC (i := 6) get6 2 (S [114]) rfl; have r3 := st'.rowC (i := 6) get6 3 (S [98, 111, 98]) rfl; have r4 := st'.rowC (i := 6) get6 4 (S []) rfl; have r5 := st'.rowC (i := 6) get6 5 (S []) rfl; have r6 := st'.rowC (i := 6) get6 6 (S []) rfl; have r7 := st'.rowC (i := 6) get6 7 (S []) rfl; have r8 := st'.rowC (i := 6) get6 8 (S []) rfl; unfold S at r1 r2 r3 r4 r5 r6 r7 r8; have q4 := conv_bs (P := Try.prog) (src := 30) (dst := 9) (c := pc) Try.underlying30 Try.underlying5 Try.underlying9 (st'.rowBy (i := 3) get3).2; unfold S at q4; rw [HUb.out] at q4; (focus (first | (go_simp; done) | (go_simp; first | rfl | (rw [if_neg] <;> first | rfl | omega) | (rw [if_pos] <;> first | rfl | omega))))); (try simp only [Act.put, List.setIfInBounds_toArray, List.set])) | (refine Rg4.w4_skip (Rg4.unwant_of 37 70 true rfl rfl rfl) ?_; (try simp only [Act.put, List.setIfInBounds_toArray, List.set])) | (refine Rg4.w4_skip (Rg4.unwant_nil 37 70 true rfl rfl rfl) ?_; (try simp only [Act.put, List.setIfInBounds_toArray, List.set])))
  (first | (refine Rg4.w4_any (Rg4.want_of 37 70 true rfl rfl rfl) rfl ?_; apply Exists.intro; refine ⟨fun w' => ?_, ?_⟩; (focus (first | (go_simp; done) | (go_simp; first | rfl | (rw [if_neg] <;> first | rfl | omega) | (rw [if_pos] <;> first | rfl | omega)))); (try simp only [Act.put, List.setIfInBounds_toArray, List.set])) | (refine Rg4.w4_skip (Rg4.unwant_of 37 70 true rfl rfl rfl) ?_; (try simp only [Act.put, List.setIfInBounds_toArray, List.set])) | (refine Rg4.w4_skip (Rg4.unwant_nil 37 70 true rfl rfl rfl) ?_; (try simp only [Act.put, List.setIfInBounds_toArray, List.set])))
  (refine Rg4.w4_any (Rg4.want_none rfl) rfl ?_; apply Exists.intro; refine ⟨fun w' => ?_, ?_⟩; (focus (first | (go_simp; done) | (go_simp; first | rfl | (rw [if_neg] <;> first | rfl | omega) | (rw [if_pos] <;> first | rfl | omega)))); (try simp only [Act.put, List.setIfInBounds_toArray, List.set]))
  (refine Rg4.w4_any (Rg4.want_none rfl) rfl ?_; apply Exists.intro; refine ⟨fun w' => ?_, ?_⟩; (focus (first | (go_simp; done) | (go_simp; first | rfl | (rw [if_neg] <;> first | rfl | omega) | (rw [if_pos] <;> first | rfl | omega)))); (try simp only [Act.put, List.setIfInBounds_toArray, List.set]))
  (first | (refine Rg4.w4_any (Rg4.want_of 44 77 true rfl rfl rfl) rfl ?_; apply Exists.intro; refine ⟨fun w' => ?_, ?_⟩; (focus (first | (go_simp; done) | (go_simp; first | rfl | (rw [if_neg] <;> first | rfl | omega) | (rw [if_pos] <;> first | rfl | omega)))); (try simp only [Act.put, List.setIfInBounds_toArray, List.set])) | (refine Rg4.w4_skip (Rg4.unwant_of 44 77 true rfl rfl rfl) ?_; (try simp only [Act.put, List.setIfInBounds_toArray, List.set])) | (refine Rg4.w4_skip (Rg4.unwant_nil 44 77 true rfl rfl rfl) ?_; (try simp only [Act.put, List.setIfInBounds_toArray, List.set])))
  (first | (refine Rg4.w4_read (Rg4.want_of 44 77 true rfl rfl rfl) rfl rfl ?_; apply Exists.intro; refine ⟨fun w' hw' hcl' => ?_, ?_⟩; focus (have st' := st.ext hw'; have hc' := st'.facts; (try simp only [factsOf, blkI, blkFacts, rowI, byI, datI, nullI, oldI, penI, rdI, rdAnyI, rdOverI, Nat.zero_add, Nat.reduceAdd, and_true, true_and, and_self] at hc'); have r0 := st'.rowC (i := 6) get6 0 (.int .i64 1) rfl; have r1 := st'.rowC (i := 6) get6 1 (S [97]) rfl; have r2 := st'.rowC (i := 6) get6 2 (S [114]) rfl; have r3 := st'.rowC (i := 6) get6 3 (S [98, 111, 98]) rfl; have r4 := st'.rowC (i := 6) get6 4 (S []) rfl; have r5 := st'.rowC (i := 6) get6 5 (S []) rfl; have r6 := st'.rowC (i := 6) get6 6 (S []) rfl; have r7 := st'.rowC (i := 6) get6 7 (S []) rfl; have r8 := st'.rowC (i := 6) get6 8 (S []) rfl; unfold S at r1 r2 r3 r4 r5 r6 r7 r8; have q4 := conv_bs (P := Try.prog) (src := 30) (dst := 9) (c := pc) Try.underlying30 Try.underlying5 Try.underlying9 (st'.rowBy (i := 3) get3).2; unfold S at q4; rw [HUb.out] at q4; (focus (first | (go_simp; done) | (go_simp; first | rfl | (rw [if_neg] <;> first | rfl | omega) | (rw [if_pos] <;> first | rfl | omega))))); (try simp only [Act.put, List.setIfInBounds_toArray, List.set])) | (refine Rg4.w4_skip (Rg4.unwant_of 44 77 true rfl rfl rfl) ?_; (try simp only [Act.put, List.setIfInBounds_toArray, List.set])) | (refine Rg4.w4_skip (Rg4.unwant_nil 44 77 true rfl rfl rfl) ?_; (try simp only [Act.put, List.setIfInBounds_toArray, List.set])))
  refine Rg4.w4_some (Rg4.want_of 44 77 true rfl rfl rfl) rfl (fun w' hw' hcl' _ => ?_) ?_
  · refine Rg.relAt_call (by go_simp; exact ⟨rfl, rfl⟩) ?_
    have st' := st.ext hw'
    refine (credHas_any _ 2 _ [dX, cX] cX _ (st'.rowFl3 (α := CredT) (xs := [dX, cX]) (i := 6) get6).2 (by omega)).mono ?_
    rintro en w'' ⟨rfl, hx⟩
    exact ⟨_, rfl, hx, trivial, by rw [show decide (cX ∈ [dX, cX]) = true from by decide +kernel]; rfl⟩
  rintro v ⟨_, _, _, rfl⟩
  (try simp only [Act.put, List.setIfInBounds_toArray, List.set])
  (refine Rg4.w4_any (Rg4.want_none rfl) rfl ?_; apply Exists.intro; refine ⟨fun w' => ?_, ?_⟩; (focus (first | (go_simp; done) | (go_simp; first | rfl | (rw [if_neg] <;> first | rfl | omega) | (rw [if_pos] <;> first | rfl | omega)))); (try simp only [Act.put, List.setIfInBounds_toArray, List.set]))
  (refine Rg4.w4_any (Rg4.want_none rfl) rfl ?_; apply Exists.intro; refine ⟨fun w' => ?_, ?_⟩; (focus (first | (go_simp; done) | (go_simp; first | rfl | (rw [if_neg] <;> first | rfl | omega) | (rw [if_pos] <;> first | rfl | omega)))); (try simp only [Act.put, List.setIfInBounds_toArray, List.set]))
  (first | (refine Rg4.w4_read (Rg4.want_of 49 82 true rfl rfl rfl) rfl rfl ?_; apply Exists.intro; refine ⟨fun w' hw' hcl' => ?_, ?_⟩; focus (have st' := st.ext hw'; have hc' := st'.facts; (try simp only [factsOf, blkI, blkFacts, rowI, byI, datI, nullI, oldI, penI, rdI, rdAnyI, rdOverI, Nat.zero_add, Nat.reduceAdd, and_true, true_and, and_self] at hc'); have r0 := st'.rowC (i := 6) get6 0 (.int .i64 1) rfl; have r1 := st'.rowC (i := 6) get6 1 (S [97]) rfl; have r2 := st'.rowC (i := 6) get6 2 (S [114]) rfl; have r3 := st'.rowC (i := 6) get6 3 (S [98, 111, 98]) rfl; have r4 := st'.rowC (i := 6) get6 4 (S []) rfl; have r5 := st'.rowC (i := 6) get6 5 (S []) rfl; have r6 := st'.rowC (i := 6) get6 6 (S []) rfl; have r7 := st'.rowC (i := 6) get6 7 (S []) rfl; have r8 := st'.rowC (i := 6) get6 8 (S []) rfl; unfold S at r1 r2 r3 r4 r5 r6 r7 r8; have q4 := conv_bs (P := Try.prog) (src := 30) (dst := 9) (c := pc) Try.underlying30 Try.underlying5 Try.underlying9 (st'.rowBy (i := 3) get3).2; unfold S at q4; rw [HUb.out] at q4; (focus (first | (go_simp; done) | (go_simp; first | rfl | (rw [if_neg] <;> first | rfl | omega) | (rw [if_pos] <;> first | rfl | omega))))); (try simp only [Act.put, List.setIfInBounds_toArray, List.set])) | (refine Rg4.w4_skip (Rg4.unwant_of 49 82 true rfl rfl rfl) ?_; (try simp only [Act.put, List.setIfInBounds_toArray, List.set])) | (refine Rg4.w4_skip (Rg4.unwant_nil 49 82 true rfl rfl rfl) ?_; (try simp only [Act.put, List.setIfInBounds_toArray, List.set])))
  refine Rg4.w4_bar (Rg4.want_of 49 82 true rfl rfl rfl) rfl (fun w' hw' hcl _ K hK => ?_)
  replace st := st.ext hw'
  clear hw'
  (try clear hc); have hc := st.facts; (try simp only [factsOf, blkI, blkFacts, rowI, byI, datI, nullI, oldI, penI, rdI, rdAnyI, rdOverI, Nat.zero_add, Nat.reduceAdd, and_true, true_and, and_self] at hc)
  go_wp2_with fail
  refine (HCX.out _).mono ?_
  rintro en w ⟨wa, wc, rfl, hnew⟩
  replace st := st.fresh hnew
  clear hnew
  (try simp only [Value.cells, List.cons_append, List.nil_append, List.set, spl, putIt, pick, List.map_cons, List.map_nil, List.getElem?_cons_zero, List.getElem?_cons_succ, Option.getD_some, List.drop_succ_cons, List.drop_zero, List.drop_nil, List.append_nil, unB] at st)
  (try clear hc); have hc := st.facts; (try simp only [factsOf, blkI, blkFacts, rowI, byI, datI, nullI, oldI, penI, rdI, rdAnyI, rdOverI, Nat.zero_add, Nat.reduceAdd, and_true, true_and, and_self] at hc)
  refine hK _ _ ⟨trivial, ?_⟩
  clear hK
  (try simp only [Act.put, List.setIfInBounds_toArray, List.set])
  (first | (refine Rg4.w4_any (Rg4.want_of 49 82 true rfl rfl rfl) rfl ?_; apply Exists.intro; refine ⟨fun w' => ?_, ?_⟩; (focus (first | (go_simp; done) | (go_simp; first | rfl | (rw [if_neg] <;> first | rfl | omega) | (rw [if_pos] <;> first | rfl | omega)))); (try simp only [Act.put, List.setIfInBounds_toArray, List.set])) | (refine Rg4.w4_skip (Rg4.unwant_of 49 82 true rfl rfl rfl) ?_; (try simp only [Act.put, List.setIfInBounds_toArray, List.set])) | (refine Rg4.w4_skip (Rg4.unwant_nil 49 82 true rfl rfl rfl) ?_; (try simp only [Act.put, List.setIfInBounds_toArray, List.set])))
  (first | (refine Rg4.w4_any (Rg4.want_of 49 82 true rfl rfl rfl) rfl ?_; apply Exists.intro; refine ⟨fun w' => ?_, ?_⟩; (focus (first | (go_simp; done) | (go_simp; first | rfl | (rw [if_neg] <;> first | rfl | omega) | (rw [if_pos] <;> first | rfl | omega)))); (try simp only [Act.put, List.setIfInBounds_toArray, List.set])) | (refine Rg4.w4_skip (Rg4.unwant_of 49 82 true rfl rfl rfl) ?_; (try simp only [Act.put, List.setIfInBounds_toArray, List.set])) | (refine Rg4.w4_skip (Rg4.unwant_nil 49 82 true rfl rfl rfl) ?_; (try simp only [Act.put, List.setIfInBounds_toArray, List.set])))
  (refine Rg4.w4_any (Rg4.want_none rfl) rfl ?_; apply Exists.intro; refine ⟨fun w' => ?_, ?_⟩; (focus (first | (go_simp; done) | (go_simp; first | rfl | (rw [if_neg] <;> first | rfl | omega) | (rw [if_pos] <;> first | rfl | omega)))); (try simp only [Act.put, List.setIfInBounds_toArray, List.set]))
  (refine Rg4.w4_any (Rg4.want_none rfl) rfl ?_; apply Exists.intro; refine ⟨fun w' => ?_, ?_⟩; (focus (first | (go_simp; done) | (go_simp; first | rfl | (rw [if_neg] <;> first | rfl | omega) | (rw [if_pos] <;> first | rfl | omega)))); (try simp only [Act.put, List.setIfInBounds_toArray, List.set]))
  (first | (refine Rg4.w4_read (Rg4.want_of 55 88 true rfl rfl rfl) rfl rfl ?_; apply Exists.intro; refine ⟨fun w' hw' hcl' => ?_, ?_⟩; focus (have st' := st.ext hw'; have hc' := st'.facts; (try simp only [factsOf, blkI, blkFacts, rowI, byI, datI, nullI, oldI, penI, rdI, rdAnyI, rdOverI, Nat.zero_add, Nat.reduceAdd, and_true, true_and, and_self] at hc'); have r0 := st'.rowC (i := 6) get6 0 (.int .i64 1) rfl; have r1 := st'.rowC (i := 6) get6 1 (S [97]) rfl; have r2 := st'.rowC (i := 6) get6 2 (S [114]) rfl; have r3 := st'.rowC (i := 6) get6 3 (S [98, 111, 98]) rfl; have r4 := st'.rowC (i := 6) get6 4 (S []) rfl; have r5 := st'.rowC (i := 6) get6 5 (S []) rfl; have r6 := st'.rowC (i := 6) get6 6 (S []) rfl; have r7 := st'.rowC (i := 6) get6 7 (S []) rfl; have r8 := st'.rowC (i := 6) get6 8 (S []) rfl; unfold S at r1 r2 r3 r4 r5 r6 r7 r8; have q4 := conv_bs (P := Try.prog) (src := 30) (dst := 9) (c := pc) Try.underlying30 Try.underlying5 Try.underlying9 (st'.rowBy (i := 3) get3).2; unfold S at q4; rw [HUb.out] at q4; (focus (first | (go_simp; done) | (go_simp; first | rfl | (rw [if_neg] <;> first | rfl | omega) | (rw [if_pos] <;> first | rfl | omega))))); (try simp only [Act.put, List.setIfInBounds_toArray, List.set])) | (refine Rg4.w4_skip (Rg4.unwant_of 55 88 true rfl rfl rfl) ?_; (try simp only [Act.put, List.setIfInBounds_toArray, List.set])) | (refine Rg4.w4_skip (Rg4.unwant_nil 55 88 true rfl rfl rfl) ?_; (try simp only [Act.put, List.setIfInBounds_toArray, List.set])))
  refine Rg4.w4_some (Rg4.want_of 55 88 true rfl rfl rfl) rfl (fun w' hw' hcl' _ => ?_) ?_
  · refine Rg.relAt_call (by go_simp; exact ⟨rfl, rfl⟩) ?_
    refine (HTX.out _).mono ?_
    rintro en w'' ⟨rfl, hx⟩
    exact ⟨_, rfl, hx, trivial, rfl⟩
  rintro v ⟨_, _, _, rfl⟩
  (try simp only [Act.put, List.setIfInBounds_toArray, List.set])
  (first | (refine Rg4.w4_any (Rg4.want_of 55 88 true rfl rfl rfl) rfl ?_; apply Exists.intro; refine ⟨fun w' => ?_, ?_⟩; (focus (first | (go_simp; done) | (go_simp; first | rfl | (rw [if_neg] <;> first | rfl | omega) | (rw [if_pos] <;> first | rfl | omega)))); (try simp only [Act.put, List.setIfInBounds_toArray, List.set])) | (refine Rg4.w4_skip (Rg4.unwant_of 55 88 true rfl rfl rfl) ?_; (try simp only [Act.put, List.setIfInBounds_toArray, List.set])) | (refine Rg4.w4_skip (Rg4.unwant_nil 55 88 true rfl rfl rfl) ?_; (try simp only [Act.put, List.setIfInBounds_toArray, List.set])))
  (refine Rg4.w4_any (Rg4.want_none rfl) rfl ?_; apply Exists.intro; refine ⟨fun w' => ?_, ?_⟩; (focus (first | (go_simp; done) | (go_simp; first | rfl | (rw [if_neg] <;> first | rfl | omega) | (rw [if_pos] <;> first | rfl | omega)))); (try simp only [Act.put, List.setIfInBounds_toArray, List.set]))
  (refine Rg4.w4_any (Rg4.want_none rfl) rfl ?_; apply Exists.intro; refine ⟨fun w' => ?_, ?_⟩; (focus (first | (go_simp; done) | (go_simp; first | rfl | (rw [if_neg] <;> first | rfl | omega) | (rw [if_pos] <;> first | rfl | omega)))); (try simp only [Act.put, List.setIfInBounds_toArray, List.set]))
  refine Rg4.w4_nil (fun w' hw' hcl' _ => ?_); replace st := st.ext hw'; clear hw' hcl'; (try clear hc); have hc := st.facts; (try simp only [factsOf, blkI, blkFacts, rowI, byI, datI, nullI, oldI, penI, rdI, rdAnyI, rdOverI, Nat.zero_add, Nat.reduceAdd, and_true, true_and, and_self] at hc)
  go_wp2_with fail
  go_ret
  exact ⟨rfl, st.ext0⟩
end Go.Proofs.Ytdkemfimhdjdiaa
