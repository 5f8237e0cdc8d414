/- Check, and the reference's. -/
import Derived.Test.YtekngjkjgmplpaaCredD
import Derived.Test.YtekngjkjgmplpaaChkS
import Derived.Test.YtekngjkjgmplpaaCredA
import Derived.Test.YtekngjkjgmplpaaRefTape
import Derived.ProofKit
import Derived.OpenShut
import Derived.Test.YtekngjkjgmplpaaRows
import Derived.Deep.Strs
import Derived.Deep.Slices
import Derived.ChangeSame
import Derived.ChangeArms
namespace Go.Proofs.Ytekngjkjgmplpaa
set_option linter.unusedSimpArgs false
set_option linter.unusedVariables false
open Go Go.RowKit
def badAt (l : List StepT) (cs : List CredT) (j : Nat) : Bool := match l[j]? with | some x => !(decide (x.c ∈ cs) && folAt l j) | none => false
def placeB (l : List StepT) (cs : List CredT) : Nat := chainFrom (badAt l cs) 0 l.length
/-- What Check answers. -/
def checkV (l : List StepT) (cs : List CredT) (want : FactT) : Value := .tuple #[.int .i64 (placeB l cs : Nat), .int .i64 (if placeB l cs < l.length then 50 else if want ∈ l.map StepT.f then 0 else 42)]
set_option maxRecDepth 100000 in
set_option maxHeartbeats 1000000 in
theorem chkCredHas_any (a : Option Addr) (n c : Nat) (l : List CredT) (y : CredT) (W : World) (h : Fl W a n l) (hn : n ≤ 2000000) :
    Calls Try.prog 102 #[.slice a n c, cV y] W fun e w' => e = .returned (.bool (decide (y ∈ l))) ∧ Ext W w' := by
  have H := Lib.hid h
  clear h
  have HI := Lib.hid (fun W h => credContains_any a n c l y W h hn)
  obtain ⟨kk, ⟨ho, hd⟩, nw, ⟨bo, bd⟩, ⟨co, cd⟩, we⟩ := y
  have st := Own.startOld W
  unfold cV S at *
  (try simp only [nsl, Value.cells, unB] at st)
  (try clear hc); have hc := st.facts; (try simp only [nfl, nft, Nat.reduceAdd] at hc)
  go_enter Try.func102, Try.ntmps102
  go_wp2_with ((((with_reducible refine wl_box ?_ (fun K hK => ?_)); rfl; refine owp_box (o := ⟨some 3, _, _, _, _, _⟩) rfl st ?_; apply Exists.intro; refine ⟨?_, ?_⟩; (focus (go_simp; try rfl)); (clear st; intro b3 w hb st; clear hb))); (try simp only [nsl, Value.cells, unB] at st); (try clear hc); have hc := st.facts; (try simp only [nfl, nft, Nat.reduceAdd] at hc))
  refine (HI.out _ (st.oldFl (i := 0) get0 H.out)).mono ?_
  rintro en w ⟨rfl, hx⟩
  replace st := st.ext hx
  clear hx
  (try clear hc); have hc := st.facts; (try simp only [nfl, nft, Nat.reduceAdd] at hc)
  go_wp2_with fail
  go_ret
  exact ⟨rfl, st.ext0⟩
set_option maxRecDepth 100000 in
set_option maxHeartbeats 8000000 in
theorem chkCheck_any (a : Option Addr) (n c : Nat) (l : List StepT) (a' : Option Addr) (n' c' : Nat) (cs : List CredT) (want : FactT) (W : World) (h : Fl W a n l) (hn : n ≤ 1000000) (hl : ∀ x ∈ l, CLenS x.c) (h' : Fl W a' n' cs) (hn' : n' ≤ 2000000) :
    Calls Try.prog 39 #[.slice a n c, .slice a' n' c', fV want] W fun e w' => e = .returned (checkV l cs want) ∧ Ext W w' := by
  have H := Lib.hid h
  have H' := Lib.hid h'
  have HNL := Lib.hid h.1
  have HL := Lib.hid hl
  have HWA := Lib.hid (fun fa fc W h => factContainsF fa n fc (l.map StepT.f) want W h (by omega))
  have HR : Hid (checkV l cs want = .tuple #[.int .i64 (placeB l cs : Nat), .int .i64 (if placeB l cs < l.length then 50 else if want ∈ l.map StepT.f then 0 else 42)]) := Lib.hid rfl
  obtain ⟨rv, hr⟩ : ∃ r, checkV l cs want = r := ⟨_, rfl⟩
  rw [hr] at HR ⊢
  obtain ⟨pl, hpl⟩ : ∃ p, placeB l cs = p := ⟨_, rfl⟩
  rw [hpl] at HR
  have HPL : Hid (pl = chainFrom (badAt l cs) 0 n) := Lib.hid (by rw [← hpl, h.1]; rfl)
  obtain ⟨wi, hwi⟩ : ∃ p, decide (want ∈ l.map StepT.f) = p := ⟨_, rfl⟩
  rw [hwi] at HWA
  have HWI := Lib.hid hwi
  clear h hl h' hr hpl hwi
  obtain ⟨⟨qo, qd⟩, qw⟩ := want
  have st := Own.startOld W
  unfold fV at *
  unfold S at *
  (try simp only [nsl, Value.cells, unB] at st)
  (try clear hc); have hc := st.facts; (try simp only [nfl, nft, Nat.reduceAdd] at hc)
  go_enter Try.func39, Try.ntmps39
  go_wp2_with ((((with_reducible refine wl_box ?_ (fun K hK => ?_)); rfl; refine owp_box (o := ⟨some 5, _, _, _, _, _⟩) rfl st ?_; apply Exists.intro; refine ⟨?_, ?_⟩; (focus (go_simp; try rfl)); (clear st; intro b5 w hb st; clear hb))); (try simp only [nsl, Value.cells, unB] at st); (try clear hc); have hc := st.facts; (try simp only [nfl, nft, Nat.reduceAdd] at hc))
  refine (chkFacts_any a n c l _ (st.oldFl (i := 0) get0 H.out) hn).mono ?_
  rintro en w ⟨fa, fc, rfl, hfr⟩
  replace st := st.fresh hfr
  clear hfr
  have hfc := (rowFl' (α := FactT) st (i := 2) get2).1
  (try simp only [nsl, Value.cells, unB] at st)
  (try clear hc); have hc := st.facts; (try simp only [nfl, nft, Nat.reduceAdd] at hc)
  go_wp2_with fail
  go_loopg [15] n (fun kk i wr => ∃ (j : Nat), j ≤ n ∧ kk = n - j ∧ i = .int .i64 (j : Int) ∧ Hid (pl = chainFrom (badAt l cs) j (n - j)) ∧ Own (fun _ => False) (fun _ => True) W [oldI W, blkI b5 [.string ⟨qo.toArray⟩, .string ⟨qd.toArray⟩, .string ⟨qw.toArray⟩], rowI 62 3 (.slice fa n fc) n (cellsL (l.map StepT.f))] wr)
  case atStart => exact ⟨0, by omega, by omega, rfl, Lib.hid (by rw [HPL.out]; rfl), st⟩
  case round =>
    obtain ⟨j, hj, rfl, rfl, HT, st'⟩ := hrel
    clear st hc
    have st := st'
    clear st'
    (try simp only [nsl, Value.cells, unB] at st)
    (try clear hc); have hc := st.facts; (try simp only [nfl, nft, Nat.reduceAdd] at hc)
    by_cases hjn : j < n
    · obtain ⟨b, off, ha, hcell⟩ := H.out.step (by omega)
      have hjl : j < l.length := by have := HNL.out; omega
      obtain ⟨r0, r1, r2, r3, r4, r5, r6, r7, r8, r9, r10, r11⟩ := hcell j l[j] (List.getElem?_eq_getElem hjl)
      replace r0 := st.oldCell (i := 0) get0 r0
      replace r1 := st.oldCell (i := 0) get0 r1
      replace r2 := st.oldCell (i := 0) get0 r2
      replace r3 := st.oldCell (i := 0) get0 r3
      replace r4 := st.oldCell (i := 0) get0 r4
      replace r5 := st.oldCell (i := 0) get0 r5
      replace r6 := st.oldCell (i := 0) get0 r6
      replace r7 := st.oldCell (i := 0) get0 r7
      replace r8 := st.oldCell (i := 0) get0 r8
      replace r9 := st.oldCell (i := 0) get0 r9
      replace r10 := st.oldCell (i := 0) get0 r10
      replace r11 := st.oldCell (i := 0) get0 r11
      have HFA : Hid (folAt l j = folB ((l.map StepT.f).take j) l[j]) := Lib.hid (by unfold folAt; rw [List.getElem?_eq_getElem hjl, List.map_take])
      have HBA : Hid (badAt l cs j = !(decide (l[j].c ∈ cs) && folAt l j)) := Lib.hid (by unfold badAt; rw [List.getElem?_eq_getElem hjl])
      have HCL := Lib.hid (HL.out _ (List.getElem_mem hjl))
      clear hcell
      generalize l[j] = x at *
      subst ha
      have HFO := Lib.hid (fun W h => chkFollows_any x fa j fc ((l.map StepT.f).take j) W h (by omega) HCL.out)
      have HCH := Lib.hid (fun W h => chkCredHas_any a' n' c' cs x.c W h hn')
      rw [← HFA.out] at HFO
      obtain ⟨p, hp⟩ : ∃ p, folAt l j = p := ⟨_, rfl⟩
      obtain ⟨p0, hp0⟩ : ∃ p, decide (x.c ∈ cs) = p := ⟨_, rfl⟩
      rw [hp] at HFO HBA
      rw [hp0] at HCH HBA
      have HTS : Hid (pl = if badAt l cs j then j else chainFrom (badAt l cs) (j + 1) (n - (j + 1))) := Lib.hid (by rw [HT.out, chainFrom_step _ _ _ hjn])
      rw [HBA.out] at HTS
      unfold stV at HFO
      unfold cV at HCH
      unfold S at r1 r2 r3 r4 r5 r6 r7 r8 r9 r10 r11 HFO HCH
      clear hp hp0 HFA HBA
      go_wp2_with ((first
            | ((with_reducible refine wl_alloc ?_ (fun K hK => ?_)); rfl; refine owp_alloc (o := ⟨some 10, _, _, _, _, _⟩) rfl st ?_; apply Exists.intro; apply Exists.intro; refine ⟨?_, ?_⟩; (focus (first | (go_simp; done) | (go_simp; rfl))); (clear st; intro b10 w hb st; clear hb))
            | ((with_reducible refine wl_store ?_ (fun K hK => ?_)); rfl; refine owp_store rfl st ?_; apply Exists.intro; apply Exists.intro; refine ⟨?_, ?_, ?_⟩; (focus (go_simp; try rfl)); (focus (go_simp; try rfl)); (with_reducible refine ⟨3, _, _, _, _, get3, rfl, rfl, ?_, ?_, ?_, ?_⟩); (kernel_rfl); (simp [Value.cells]); (rfl); (clear st; intro w st))); (try simp only [nsl, Value.cells, unB] at st); (try clear hc); have hc := st.facts; (try simp only [nfl, nft, Nat.reduceAdd] at hc))
      clear r0 r1 r2 r3 r4 r5 r6 r7 r8 r9 r10 r11
      cases p0 with
      | false =>
        have HF : Hid (rv = .tuple #[.int .i64 (j : Int), .int .i64 50]) := Lib.hid (by
          have hp : pl = j := by rw [HTS.out]; simp
          rw [HR.out, hp, if_pos hjl])
        refine Rg4.wp_region4_eq #[0, 0, 2, 7, 15, 31, 63, 63, 63, 447, 1023, 2047, 4095] [3, 10] [2, 6] (fun _ => True) [0, 1, 2, 3, 4, 5, 6, 7, 8, 9, 10, 11, 12] (by kernel_rfl) (by kernel_rfl) (by kernel_rfl) (by kernel_rfl) (show Rg4.PB _ by repeat (first | with_reducible exact Rg4.pb_body | with_reducible exact Rg4.pb_bodyD rfl | with_reducible refine Rg4.pb_then ?_ | with_reducible refine Rg4.pb_inBlock ?_ | with_reducible refine Rg4.pb_noGoto ?_)) (trivial) ?_
        replace st := st.drew
        change Rg4.wp4 _ _ _ _ _ _ _ _ _ (World.drew _) _ _
        generalize World.drew _ = w at st ⊢
        (try clear hc); have hc := st.facts; (try simp only [nfl, nft, Nat.reduceAdd] at hc)
        iterate 2 (refine Rg4.w4_any (Rg4.want_none rfl) rfl ?_; apply Exists.intro; refine ⟨fun w' => ?_, ?_⟩; (focus (first | (go_simp; done) | (go_simp; first | rfl | (rw [if_neg] <;> first | rfl | omega) | (rw [if_pos] <;> first | rfl | omega)))); (try simp only [Rg4.nrm]))
        (refine Rg4.w4_read (Rg4.want_none rfl) rfl rfl ?_; apply Exists.intro; refine ⟨fun w' hw' hcl' => ?_, ?_⟩; focus (subst hw'; (focus (first | (go_simp; done) | (go_simp; first | rfl | (rw [if_neg] <;> first | rfl | omega) | (rw [if_pos] <;> first | rfl | omega))))); (try simp only [Rg4.nrm]))
        refine Rg4.w4_bar (Rg4.want_none rfl) rfl (fun w' hw' hcl _ K hK => ?_)
        subst hw'
        go_wp2_with fail
        refine (HCH.out _ (st.oldFl (i := 0) get0 H'.out)).mono ?_
        rintro en w ⟨rfl, hx⟩
        replace st := st.ext hx
        clear hx
        (try clear hc); have hc := st.facts; (try simp only [nfl, nft, Nat.reduceAdd] at hc)
        refine hK _ _ ⟨trivial, ?_⟩
        clear hK
        (try simp only [Rg4.nrm])
        iterate 2 (refine Rg4.w4_any (Rg4.want_none rfl) rfl ?_; apply Exists.intro; refine ⟨fun w' => ?_, ?_⟩; (focus (first | (go_simp; done) | (go_simp; first | rfl | (rw [if_neg] <;> first | rfl | omega) | (rw [if_pos] <;> first | rfl | omega)))); (try simp only [Rg4.nrm]))
        (first | (refine Rg4.w4_read (Rg4.wt rfl rfl rfl) rfl rfl ?_; apply Exists.intro; refine ⟨fun w' hw' hcl' => ?_, ?_⟩; focus (subst hw'; (focus (first | (go_simp; done) | (go_simp; first | rfl | (rw [if_neg] <;> first | rfl | omega) | (rw [if_pos] <;> first | rfl | omega))))); (try simp only [Rg4.nrm])) | (refine Rg4.w4_skip (Rg4.uw rfl rfl rfl) ?_; (try simp only [Rg4.nrm])) | (refine Rg4.w4_skip (Rg4.un rfl rfl rfl) ?_; (try simp only [Rg4.nrm])))
        iterate 3 (first | (refine Rg4.w4_any (Rg4.wt rfl rfl rfl) rfl ?_; apply Exists.intro; refine ⟨fun w' => ?_, ?_⟩; (focus (first | (go_simp; done) | (go_simp; first | rfl | (rw [if_neg] <;> first | rfl | omega) | (rw [if_pos] <;> first | rfl | omega)))); (try simp only [Rg4.nrm])) | (refine Rg4.w4_skip (Rg4.uw rfl rfl rfl) ?_; (try simp only [Rg4.nrm])) | (refine Rg4.w4_skip (Rg4.un rfl rfl rfl) ?_; (try simp only [Rg4.nrm])))
        first | refine Rg4.w4_skip (Rg4.uw rfl rfl rfl) ?_ | refine Rg4.w4_skip (Rg4.un rfl rfl rfl) ?_
        (try simp only [Rg4.nrm])
        (first | (refine Rg4.w4_any (Rg4.wt rfl rfl rfl) rfl ?_; apply Exists.intro; refine ⟨fun w' => ?_, ?_⟩; (focus (first | (go_simp; done) | (go_simp; first | rfl | (rw [if_neg] <;> first | rfl | omega) | (rw [if_pos] <;> first | rfl | omega)))); (try simp only [Rg4.nrm])) | (refine Rg4.w4_skip (Rg4.uw rfl rfl rfl) ?_; (try simp only [Rg4.nrm])) | (refine Rg4.w4_skip (Rg4.un rfl rfl rfl) ?_; (try simp only [Rg4.nrm])))
        (refine Rg4.w4_any (Rg4.want_none rfl) rfl ?_; apply Exists.intro; refine ⟨fun w' => ?_, ?_⟩; (focus (first | (go_simp; done) | (go_simp; first | rfl | (rw [if_neg] <;> first | rfl | omega) | (rw [if_pos] <;> first | rfl | omega)))); (try simp only [Rg4.nrm]))
        refine Rg4.w4_nil (fun w' hw' hcl' _ => ?_); subst hw'; clear hcl'
        go_wp2_with fail
        go_ret2
        exact ⟨by rw [HF.out]; rfl, st.ext0⟩
      | true =>
        refine Rg4.wp_region4_eq #[0, 0, 2, 7, 15, 31, 63, 63, 63, 447, 1023, 2047, 4095] [3, 10] [2, 6] (fun _ => True) [0, 1, 2, 3, 4, 5, 6, 7, 8, 9, 10, 11, 12] (by kernel_rfl) (by kernel_rfl) (by kernel_rfl) (by kernel_rfl) (show Rg4.PB _ by repeat (first | with_reducible exact Rg4.pb_body | with_reducible exact Rg4.pb_bodyD rfl | with_reducible refine Rg4.pb_then ?_ | with_reducible refine Rg4.pb_inBlock ?_ | with_reducible refine Rg4.pb_noGoto ?_)) (trivial) ?_
        replace st := st.drew
        change Rg4.wp4 _ _ _ _ _ _ _ _ _ (World.drew _) _ _
        generalize World.drew _ = w at st ⊢
        (try clear hc); have hc := st.facts; (try simp only [nfl, nft, Nat.reduceAdd] at hc)
        iterate 2 (refine Rg4.w4_any (Rg4.want_none rfl) rfl ?_; apply Exists.intro; refine ⟨fun w' => ?_, ?_⟩; (focus (first | (go_simp; done) | (go_simp; first | rfl | (rw [if_neg] <;> first | rfl | omega) | (rw [if_pos] <;> first | rfl | omega)))); (try simp only [Rg4.nrm]))
        (refine Rg4.w4_read (Rg4.want_none rfl) rfl rfl ?_; apply Exists.intro; refine ⟨fun w' hw' hcl' => ?_, ?_⟩; focus (subst hw'; (focus (first | (go_simp; done) | (go_simp; first | rfl | (rw [if_neg] <;> first | rfl | omega) | (rw [if_pos] <;> first | rfl | omega))))); (try simp only [Rg4.nrm]))
        refine Rg4.w4_bar (Rg4.want_none rfl) rfl (fun w' hw' hcl _ K hK => ?_)
        subst hw'
        go_wp2_with fail
        refine (HCH.out _ (st.oldFl (i := 0) get0 H'.out)).mono ?_
        rintro en w ⟨rfl, hx⟩
        replace st := st.ext hx
        clear hx
        (try clear hc); have hc := st.facts; (try simp only [nfl, nft, Nat.reduceAdd] at hc)
        refine hK _ _ ⟨trivial, ?_⟩
        clear hK
        (try simp only [Rg4.nrm])
        iterate 2 (refine Rg4.w4_any (Rg4.want_none rfl) rfl ?_; apply Exists.intro; refine ⟨fun w' => ?_, ?_⟩; (focus (first | (go_simp; done) | (go_simp; first | rfl | (rw [if_neg] <;> first | rfl | omega) | (rw [if_pos] <;> first | rfl | omega)))); (try simp only [Rg4.nrm]))
        (first | (refine Rg4.w4_read (Rg4.wt rfl rfl rfl) rfl rfl ?_; apply Exists.intro; refine ⟨fun w' hw' hcl' => ?_, ?_⟩; focus (subst hw'; (focus (first | (go_simp; done) | (go_simp; first | rfl | (rw [if_neg] <;> first | rfl | omega) | (rw [if_pos] <;> first | rfl | omega))))); (try simp only [Rg4.nrm])) | (refine Rg4.w4_skip (Rg4.uw rfl rfl rfl) ?_; (try simp only [Rg4.nrm])) | (refine Rg4.w4_skip (Rg4.un rfl rfl rfl) ?_; (try simp only [Rg4.nrm])))
        iterate 3 (first | (refine Rg4.w4_any (Rg4.wt rfl rfl rfl) rfl ?_; apply Exists.intro; refine ⟨fun w' => ?_, ?_⟩; (focus (first | (go_simp; done) | (go_simp; first | rfl | (rw [if_neg] <;> first | rfl | omega) | (rw [if_pos] <;> first | rfl | omega)))); (try simp only [Rg4.nrm])) | (refine Rg4.w4_skip (Rg4.uw rfl rfl rfl) ?_; (try simp only [Rg4.nrm])) | (refine Rg4.w4_skip (Rg4.un rfl rfl rfl) ?_; (try simp only [Rg4.nrm])))
        refine Rg4.w4_bar (Rg4.want_of 5 25 false rfl rfl rfl) rfl (fun w' hw' hcl _ K hK => ?_)
        subst hw'
        go_wp2_with fail
        refine (HFO.out _ ((rowFl' (α := FactT) st (i := 2) get2).2.pre j hj)).mono ?_
        rintro en w ⟨rfl, hx⟩
        replace st := st.ext hx
        clear hx
        (try clear hc); have hc := st.facts; (try simp only [nfl, nft, Nat.reduceAdd] at hc)
        refine hK _ _ ⟨trivial, ?_⟩
        clear hK
        (try simp only [Rg4.nrm])
        (first | (refine Rg4.w4_any (Rg4.wt rfl rfl rfl) rfl ?_; apply Exists.intro; refine ⟨fun w' => ?_, ?_⟩; (focus (first | (go_simp; done) | (go_simp; first | rfl | (rw [if_neg] <;> first | rfl | omega) | (rw [if_pos] <;> first | rfl | omega)))); (try simp only [Rg4.nrm])) | (refine Rg4.w4_skip (Rg4.uw rfl rfl rfl) ?_; (try simp only [Rg4.nrm])) | (refine Rg4.w4_skip (Rg4.un rfl rfl rfl) ?_; (try simp only [Rg4.nrm])))
        (refine Rg4.w4_any (Rg4.want_none rfl) rfl ?_; apply Exists.intro; refine ⟨fun w' => ?_, ?_⟩; (focus (first | (go_simp; done) | (go_simp; first | rfl | (rw [if_neg] <;> first | rfl | omega) | (rw [if_pos] <;> first | rfl | omega)))); (try simp only [Rg4.nrm]))
        refine Rg4.w4_nil (fun w' hw' hcl' _ => ?_); subst hw'; clear hcl'
        cases p with
        | true =>
          have HF : Hid (pl = chainFrom (badAt l cs) (j + 1) (n - (j + 1))) := Lib.hid (by rw [HTS.out]; simp)
          go_wp2_with fail
          have st' := st.keep [0, 1, 2] (by decide) (by simp)
          go_roundg (n - (j + 1))
          case measure => omega
          case rel => exact ⟨j + 1, by omega, by omega, by go_num, HF, by simpa [pick] using st'⟩
        | false =>
          have HF : Hid (rv = .tuple #[.int .i64 (j : Int), .int .i64 50]) := Lib.hid (by
            have hp : pl = j := by rw [HTS.out]; simp
            rw [HR.out, hp, if_pos hjl])
          go_wp2_with fail
          go_ret2
          exact ⟨by rw [HF.out]; rfl, st.ext0⟩
    · obtain rfl : j = n := by omega
      have HPN : Hid (pl = j) := Lib.hid (by rw [HT.out, Nat.sub_self]; rfl)
      cases wi with
      | true =>
        have HF : Hid (rv = .tuple #[.int .i64 (j : Int), .int .i64 0]) := Lib.hid (by rw [HR.out, HPN.out, if_neg (by have := HNL.out; omega), if_pos (by have := HWI.out; simpa using this)])
        go_wp2_with fail
        refine (HWA.out _ _ _ (rowFl' (α := FactT) st (i := 2) get2).2).mono ?_
        rintro en w ⟨rfl, hx⟩
        replace st := st.ext hx
        clear hx
        (try clear hc); have hc := st.facts; (try simp only [nfl, nft, Nat.reduceAdd] at hc)
        go_wp2_with fail
        go_ret2
        exact ⟨by rw [HF.out]; rfl, st.ext0⟩
      | false =>
        have HF : Hid (rv = .tuple #[.int .i64 (j : Int), .int .i64 42]) := Lib.hid (by rw [HR.out, HPN.out, if_neg (by have := HNL.out; omega), if_neg (by have := HWI.out; simpa using this)])
        go_wp2_with fail
        refine (HWA.out _ _ _ (rowFl' (α := FactT) st (i := 2) get2).2).mono ?_
        rintro en w ⟨rfl, hx⟩
        replace st := st.ext hx
        clear hx
        (try clear hc); have hc := st.facts; (try simp only [nfl, nft, Nat.reduceAdd] at hc)
        go_wp2_with fail
        go_ret2
        exact ⟨by rw [HF.out]; rfl, st.ext0⟩
end Go.Proofs.Ytekngjkjgmplpaa

namespace Go.Proofs.Ytekngjkjgmplpaa
set_option linter.unusedSimpArgs false
set_option linter.unusedVariables false
open Go Go.RowKit
/-- One behind another. -/
def bdm {α β : Type} (r : Except Int (α × List UInt8)) (f : α → List UInt8 → Except Int β) : Except Int β := match r with | .error e => .error e | .ok p => f p.1 p.2
theorem bdm_er {α β : Type} (e : Int) (f : α → List UInt8 → Except Int β) : bdm (.error e) f = .error e := rfl
theorem bdm_ok {α β : Type} (x : α) (ys : List UInt8) (f : α → List UInt8 → Except Int β) : bdm (.ok (x, ys)) f = f x ys := rfl
def GetPostM {α : Type} (fr al : Nat → Prop) (w : World) (r b : Nat) (res : Except Int (α × List UInt8)) (z : List Value) (okM : α → List Value → List It → Prop) (en : Ending) (w' : World) : Prop :=
  match res with
  | .error e => en = .panicked [{ v := failV r e, recovered := false }] ∧ Own fr al w [rdAnyI r, blkI b z] w'
  | .ok (s, ys) => en = .returned (.tuple #[]) ∧ ∃ cs M, okM s cs M ∧ Own fr al w (rdI r ys :: blkI b cs :: M) w'
/-- What the block holds behind it, and what more lies there. -/
def GotM {α : Type} (res : Except Int (α × List UInt8)) (z : List Value) (okM : α → List Value → List It → Prop) (cs : List Value) (M : List It) : Prop := match res with
  | .error _ => cs = z ∧ M = []
  | .ok (s, _) => okM s cs M
theorem pick_mid (X M : List It) (a : It) : pick (X ++ [a] ++ M) (X.length :: (List.range X.length ++ (List.range M.length).map (X.length + 1 + ·))) = a :: (X ++ M) := by
  unfold pick
  rw [List.map_cons, List.map_append]
  congr 1
  · simp
  · congr 1
    · apply List.ext_getElem
      · simp
      · intro i h1 h2
        simp [List.getElem?_append_left h2, List.getElem?_eq_getElem h2, List.append_assoc]
    · apply List.ext_getElem
      · simp
      · intro i h1 h2
        simp only [List.map_map, List.getElem_map, List.getElem_range, Function.comp]
        rw [List.getElem?_append_right (by simp)]
        simp only [List.length_append, List.length_singleton]
        rw [show X.length + 1 + i - (X.length + 1) = i by omega, List.getElem?_eq_getElem h2, Option.getD_some]
theorem putIt_twoM (L M : List It) (I A B : It) (i : Nat) (hi : i < L.length) : putIt (L ++ [I]) (A :: B :: M) 0 [L.length, i] = L.set i B ++ [A] ++ M := by
  simp only [putIt, List.getElem?_cons_zero, List.getElem?_cons_succ, Option.getD_some, List.drop_succ_cons, List.drop_zero]
  rw [List.set_append_right _ _ (Nat.le_refl _), Nat.sub_self, List.set_cons_zero, List.set_append_left _ _ hi]
theorem readGetM_c {α : Type} {fr al : Nat → Prop} {w0 w : World} {L : List It} (st : Own fr al w0 L w) (i : Nat) {b : Nat} {z : List Value} (hi : L[i]? = some (blkI b z)) {a : Option Addr} {n c : Nat} {xs : List UInt8} (h : By w a n xs) (hc : n ≤ c ∧ c ≤ maxLen) (hn : n ≤ 100000000000) (F : FuncId)
    (hinv : ∀ w r, (callFunc F (#[.pointer (some ⟨r, 0, none⟩)] ++ #[.pointer (some ⟨b, 0, none⟩)])).run Try.prog w = .ok (.enter F (#[.pointer (some ⟨r, 0, none⟩)] ++ #[.pointer (some ⟨b, 0, none⟩)])) w)
    (res : Except Int (α × List UInt8)) (okM : α → List Value → List It → Prop)
    (hclo : ∀ fr al w r, Own fr al w [rdI r xs, blkI b z] w → Calls Try.prog F #[.pointer (some ⟨r, 0, none⟩), .pointer (some ⟨b, 0, none⟩)] w (GetPostM fr al w r b res z okM)) :
    Calls Try.prog 46 #[.slice a n c, .func (.func F) #[] #[.pointer (some ⟨b, 0, none⟩)]] w fun en w' => ∃ r cs M, en = .returned (.int .i64 (gotE res)) ∧ GotM res z okM cs M ∧ Own fr al w0 (rdOverI r :: (L.set i (blkI b cs) ++ M)) w' := by
  have hil := get_lt hi
  have fin : ∀ {fr' al' : Nat → Prop} {w1 w2 : World} {A B I : It} {M : List It}, Own fr' al' w1 (putIt (L ++ [I]) (A :: B :: M) 0 [L.length, i]) w2 → Own fr' al' w1 (A :: (L.set i B ++ M)) w2 := by
    intro fr' al' w1 w2 A B I M st3
    rw [putIt_twoM L M I A B i hil] at st3
    have hk := st3.keep ((L.set i B).length :: (List.range (L.set i B).length ++ (List.range M.length).map ((L.set i B).length + 1 + ·))) (by
      rw [List.nodup_cons, List.nodup_append]
      refine ⟨?_, List.nodup_range, ?_, ?_⟩
      · simp only [List.mem_append, List.mem_range, List.mem_map, not_or, not_exists, not_and]
        exact ⟨by omega, fun q _ => by omega⟩
      · exact List.pairwise_map.2 (List.Pairwise.imp (fun {x y} h e => h (by omega)) List.nodup_range)
      · intro x hx y hy
        simp only [List.mem_range, List.mem_map] at hx hy
        obtain ⟨q, _, rfl⟩ := hy
        omega) (by
      intro q hq
      simp only [List.mem_cons, List.mem_append, List.mem_range, List.mem_map] at hq
      simp only [List.length_append, List.length_singleton]
      rcases hq with e | e | ⟨q', e1, rfl⟩ <;> omega)
    rwa [pick_mid] at hk
  refine (read_c st h hc hn F #[.pointer (some ⟨b, 0, none⟩)] hinv (fun r e M => e = gotE res ∧ ∃ cs M', GotM res z okM cs M' ∧ M = L.set i (blkI b cs) ++ M') fun fr' al' w1 r hr st1 => ?_).mono ?_
  · obtain ⟨fr2, al2, st2, back⟩ := st1.sub [L.length, i] (by simp; omega) (by
      intro q hq; simp at hq ⊢; omega)
    have hp : pick (L ++ [rdI r xs]) [L.length, i] = [rdI r xs, blkI b z] := by
      simp [pick, List.getElem?_append_left hil, hi]
    rw [hp] at st2
    refine (hclo _ _ _ r st2).mono ?_
    intro en w2 hen
    unfold GetPostM at hen
    cases hres : res with
    | error e =>
      rw [hres] at hen
      obtain ⟨rfl, st3⟩ := hen
      exact .inr ⟨e, [], _, rfl, rfl, ⟨rfl, z, [], ⟨rfl, rfl⟩, rfl⟩, fin (back _ _ (by simp) st3)⟩
    | ok p =>
      obtain ⟨s, ys⟩ := p
      rw [hres] at hen
      obtain ⟨rfl, cs, M, hok, st3⟩ := hen
      exact .inl ⟨_, ys, _, rfl, ⟨rfl, cs, M, hok, rfl⟩, fin (back _ _ (by simp) st3)⟩
  · rintro en w' ⟨r, e, M, rfl, ⟨rfl, cs, M', h1, rfl⟩, st'⟩
    exact ⟨r, cs, M', rfl, h1, st'⟩
end Go.Proofs.Ytekngjkjgmplpaa

namespace Go.Proofs.Ytekngjkjgmplpaa
set_option linter.unusedSimpArgs false
set_option linter.unusedVariables false
open Go Go.RowKit
def GetPostN {α : Type} (fr al : Nat → Prop) (w : World) (r b : Nat) (J : It) (res : Except Int (α × List UInt8)) (z : List Value) (okM : α → List Value → List It → Prop) (en : Ending) (w' : World) : Prop :=
  match res with
  | .error e => en = .panicked [{ v := failV r e, recovered := false }] ∧ Own fr al w [rdAnyI r, blkI b z, J] w'
  | .ok (s, ys) => en = .returned (.tuple #[]) ∧ ∃ cs M, okM s cs M ∧ Own fr al w (rdI r ys :: blkI b cs :: J :: M) w'
theorem putIt_threeM (L M : List It) (I A B J : It) (i j : Nat) (hi : i < L.length) (hij : i ≠ j) (hj : L[j]? = some J) : putIt (L ++ [I]) (A :: B :: J :: M) 0 [L.length, i, j] = L.set i B ++ [A] ++ M := by
  have hjl : j < L.length := (List.getElem?_eq_some_iff.1 hj).1
  simp only [putIt, List.getElem?_cons_zero, List.getElem?_cons_succ, Option.getD_some, List.drop_succ_cons, List.drop_zero]
  rw [List.set_append_right _ _ (Nat.le_refl _), Nat.sub_self, List.set_cons_zero, List.set_append_left _ _ hi, List.set_append_left _ _ (by simpa using hjl)]
  congr 2
  apply List.ext_getElem?
  intro q
  by_cases hq : q = j
  · subst hq
    rw [List.getElem?_set_self (by simpa using hjl), List.getElem?_set_ne hij, hj]
  · rw [List.getElem?_set_ne (Ne.symm hq)]
theorem readGetN_c {α : Type} {fr al : Nat → Prop} {w0 w : World} {L : List It} (st : Own fr al w0 L w) (i j : Nat) {b : Nat} {z : List Value} {J : It} (hi : L[i]? = some (blkI b z)) (hj : L[j]? = some J) (hij : i ≠ j) {a : Option Addr} {n c : Nat} {xs : List UInt8} (h : By w a n xs) (hc : n ≤ c ∧ c ≤ maxLen) (hn : n ≤ 100000000000) (F : FuncId) (cap : Array Value)
    (hinv : ∀ w r, (callFunc F (#[.pointer (some ⟨r, 0, none⟩)] ++ cap)).run Try.prog w = .ok (.enter F (#[.pointer (some ⟨r, 0, none⟩)] ++ cap)) w)
    (res : Except Int (α × List UInt8)) (okM : α → List Value → List It → Prop)
    (hclo : ∀ fr al w r, Own fr al w [rdI r xs, blkI b z, J] w → Calls Try.prog F (#[.pointer (some ⟨r, 0, none⟩)] ++ cap) w (GetPostN fr al w r b J res z okM)) :
    Calls Try.prog 46 #[.slice a n c, .func (.func F) #[] cap] w fun en w' => ∃ r cs M, en = .returned (.int .i64 (gotE res)) ∧ GotM res z okM cs M ∧ Own fr al w0 (rdOverI r :: (L.set i (blkI b cs) ++ M)) w' := by
  have hil := get_lt hi
  have hjl := get_lt hj
  have fin : ∀ {fr' al' : Nat → Prop} {w1 w2 : World} {A B I : It} {M : List It}, Own fr' al' w1 (putIt (L ++ [I]) (A :: B :: J :: M) 0 [L.length, i, j]) w2 → Own fr' al' w1 (A :: (L.set i B ++ M)) w2 := by
    intro fr' al' w1 w2 A B I M st3
    rw [putIt_threeM L M I A B J i j hil hij hj] at st3
    have hk := st3.keep ((L.set i B).length :: (List.range (L.set i B).length ++ (List.range M.length).map ((L.set i B).length + 1 + ·))) (by
      rw [List.nodup_cons, List.nodup_append]
      refine ⟨?_, List.nodup_range, ?_, ?_⟩
      · simp only [List.mem_append, List.mem_range, List.mem_map, not_or, not_exists, not_and]
        exact ⟨by omega, fun q _ => by omega⟩
      · exact List.pairwise_map.2 (List.Pairwise.imp (fun {x y} h e => h (by omega)) List.nodup_range)
      · intro x hx y hy
        simp only [List.mem_range, List.mem_map] at hx hy
        obtain ⟨q, _, rfl⟩ := hy
        omega) (by
      intro q hq
      simp only [List.mem_cons, List.mem_append, List.mem_range, List.mem_map] at hq
      simp only [List.length_append, List.length_singleton]
      rcases hq with e | e | ⟨q', e1, rfl⟩ <;> omega)
    rwa [pick_mid] at hk
  refine (read_c st h hc hn F cap hinv (fun r e M => e = gotE res ∧ ∃ cs M', GotM res z okM cs M' ∧ M = L.set i (blkI b cs) ++ M') fun fr' al' w1 r hr st1 => ?_).mono ?_
  · obtain ⟨fr2, al2, st2, back⟩ := st1.sub [L.length, i, j] (by simp; omega) (by
      intro q hq; simp at hq ⊢; omega)
    have hp : pick (L ++ [rdI r xs]) [L.length, i, j] = [rdI r xs, blkI b z, J] := by
      simp [pick, List.getElem?_append_left hil, List.getElem?_append_left hjl, hi, hj]
    rw [hp] at st2
    refine (hclo _ _ _ r st2).mono ?_
    intro en w2 hen
    unfold GetPostN at hen
    cases hres : res with
    | error e =>
      rw [hres] at hen
      obtain ⟨rfl, st3⟩ := hen
      exact .inr ⟨e, [], _, rfl, rfl, ⟨rfl, z, [], ⟨rfl, rfl⟩, rfl⟩, fin (back _ _ (by simp) st3)⟩
    | ok p =>
      obtain ⟨s, ys⟩ := p
      rw [hres] at hen
      obtain ⟨rfl, cs, M, hok, st3⟩ := hen
      exact .inl ⟨_, ys, _, rfl, ⟨rfl, cs, M, hok, rfl⟩, fin (back _ _ (by simp) st3)⟩
  · rintro en w' ⟨r, e, M, rfl, ⟨rfl, cs, M', h1, rfl⟩, st'⟩
    exact ⟨r, cs, M', rfl, h1, st'⟩
end Go.Proofs.Ytekngjkjgmplpaa

namespace Go.Proofs.Ytekngjkjgmplpaa.Rg4
set_option linter.unusedSimpArgs false
set_option linter.unusedVariables false
open Go Go.Proofs.Ytekngjkjgmplpaa.Rg
section
variable (P : Program) (ops : Array Oper) (T : Array Nat) (Rel : World → World → Prop) (ld : Nat → Bool) (Cl : World → Prop) (kd : Nat → Kd) (Q : Exit → Act → World → Prop)
/-- The walk up to a fork. -/
def wp5 (E : World → Facts → Act → Prop) : List (Nat × Oper) → World → Facts → Act → Prop
  | [], w0, F, a => E w0 F a
  | (k, o) :: rest, w0, F, a =>
    if Region.wanted o (yielded ops a.tmps) = true then
      match kd k with
      | .none => ∃ c, (∀ w, (ld k = true → Rel w0 w) → Cl w → stillAt P o a w c) ∧ wp5 E rest w0 F (a.put o.dst c)
      | .some (.some S) => (∀ w, Rel w0 w → Cl w → Pre ops T F k w → relAt P o a w (fun v w' => Rel w w' ∧ Cl w' ∧ S v w')) ∧
          ∀ v, (∃ w, Rel w0 w ∧ Cl w ∧ S v w) → wp5 E rest w0 (upd F k (S v)) (a.put o.dst v)
      | .some .none => ∀ w, Rel w0 w → Cl w → All F w → o.wp P a w (fun a' w' => Cl w' ∧ wp5 E rest w' none a') Q ∨ (o.asks P a w ∧ LetsOut Q)
    else wp5 E rest w0 F (a.put o.dst undef)
/-- Both orders of two barriers. -/
def fork4 (i j : Nat) (oi oj : Oper) (r : List (Nat × Oper)) (w0 : World) (F : Facts) (a : Act) : Prop :=
  wp4 P ops T Rel ld Cl kd Q ((i, oi) :: (j, oj) :: r) w0 F a ∧ wp4 P ops T Rel ld Cl kd Q ((j, oj) :: (i, oi) :: r) w0 F a
end
def lex5 (ops : Array Oper) (C : List Nat) (e : Array Bool → Bool) : List Nat → Array Bool → Bool
  | [], listed => e listed
  | k :: ks, listed => (if C.contains k then decide (Region.ready .any ops listed = [k]) else (Region.ready .any ops listed).contains k && Region.free .any ops listed k) && lex5 ops C e ks (listed.setIfInBounds k true)
def forkE (ops : Array Oper) (C : List Nat) (i j : Nat) (r : List Nat) (listed : Array Bool) : Bool :=
  decide (Region.ready .any ops listed = [i, j]) && (C.contains i && (C.contains j && (lex4 ops C (j :: r) (listed.setIfInBounds i true) && lex4 ops C (i :: r) (listed.setIfInBounds j true))))
section
variable {P : Program} {ops : Array Oper} {T : Array Nat} {Rel : World → World → Prop} {ld : Nat → Bool} {Cl : World → Prop} {kd : Nat → Kd} {Q : Exit → Act → World → Prop}
theorem kd_bar {C : List Nat} (hC : ∀ k, isC kd k = C.contains k) {i : Nat} (hkc : C.contains i = true) : kd i = .some .none := by
  have := hC i
  rw [hkc] at this
  unfold isC at this; revert this; cases kd i with
  | none => intro h; cases h
  | some x => cases x with
    | none => intro _; rfl
    | some S => intro h; cases h
theorem wpAny5_lex (htr : ∀ a b c, Rel a b → Rel b c → Rel a c) (hsp : ∀ k S, kd k = .some (.some S) → ∀ v w w', Rel w w' → S v w → S v w') (hB : befOk ops T = true)
    (hbar : ∀ i j, (isB kd i = true ∨ ld i = true) → isC kd j = true → bef ops T j i = true ∨ bef ops T i j = true) (hQ : ∀ c (a : Act) x v w, Q (.panic c) (a.put x v) w → Q (.panic c) a w)
    (C : List Nat) (hC : ∀ k, isC kd k = C.contains k) (hs : Region.noSelect ops = true) (e : Array Bool → Bool) (E : World → Facts → Act → Prop) (f0 : Nat)
    (hE : ∀ (listed : Array Bool) (w0 : World) (F : Facts) (a : Act), e listed = true → Closed ops T listed → StableF Rel F → E w0 F a → wpAny4 P ops T Rel ld Cl kd Q f0 listed w0 F a) :
    ∀ (l : List (Nat × Oper)) (listed : Array Bool) (w0 : World) (F : Facts) (a : Act), (∀ p ∈ l, ops[p.1]? = .some p.2) →
    lex5 ops C e (l.map (·.1)) listed = true → Closed ops T listed → StableF Rel F → wp5 P ops T Rel ld Cl kd Q E l w0 F a → wpAny4 P ops T Rel ld Cl kd Q (f0 + l.length) listed w0 F a
  | [], listed, w0, F, a, _, hL, hc, hst, h => hE listed w0 F a hL hc hst h
  | (k, o) :: l, listed, w0, F, a, hl, hL, hc, hst, h => by
    show wpAny4 P ops T Rel ld Cl kd Q ((f0 + l.length) + 1) listed w0 F a
    have h0 : ops[k]? = .some o := hl (k, o) (by simp)
    simp only [List.map_cons, lex5, Bool.and_eq_true] at hL
    obtain ⟨hL1, hL'⟩ := hL
    have hl' : ∀ p ∈ l, ops[p.1]? = .some p.2 := fun p hp => hl p (by simp [hp])
    by_cases hkc : C.contains k = true
    · rw [if_pos hkc, decide_eq_true_eq] at hL1
      have hr' : k ∈ Region.ready .any ops listed := by rw [hL1]; simp
      have IH := fun w0 F a hst h => wpAny5_lex htr hsp hB hbar hQ C hC hs e E f0 hE l (listed.setIfInBounds k true) w0 F a hl' hL' (closed_set hB hc hr') hst h
      intro hinh
      refine ⟨fun h => (by rw [hL1] at h; cases h), fun i hi => ?_⟩
      rw [hL1] at hi
      obtain rfl : i = k := by simpa using hi
      have hkk : kd i = .some .none := kd_bar hC hkc
      unfold op4
      unfold wp5 at h
      simp only [h0]
      by_cases hwant : Region.wanted o (yielded ops a.tmps) = true
      · simp only [hwant, if_true, hkk] at h ⊢
        intro w hw hcl hF
        exact (h w hw hcl hF).imp (Oper.wp_mono fun a' w' ⟨h1, h2⟩ => ⟨h1, IH w' none a' (fun _ _ _ _ _ => trivial) h2⟩) id
      · simp only [hwant] at h ⊢
        exact IH _ _ _ hst h
    · rw [if_neg hkc, Bool.and_eq_true] at hL1
      obtain ⟨hr, hf⟩ := hL1
      have hr' : k ∈ Region.ready .any ops listed := by simpa using hr
      have IH := fun w0 F a hst h => wpAny5_lex htr hsp hB hbar hQ C hC hs e E f0 hE l (listed.setIfInBounds k true) w0 F a hl' hL' (closed_set hB hc hr') hst h
      have hkc' : isC kd k = false := by rw [hC]; simpa using hkc
      refine wpAny4_first htr hsp hB hbar hQ h0 hkc' (Region.noSelect_spec hs) (f0 + l.length) listed w0 F a hst hc (Region.free_spec h0 hf) hr' ?_
      unfold op4
      unfold wp5 at h
      simp only [h0]
      by_cases hwant : Region.wanted o (yielded ops a.tmps) = true
      · simp only [hwant, if_true] at h ⊢
        cases hs : kd k with
        | none =>
          simp only [hs] at h ⊢
          obtain ⟨c, h1, h2⟩ := h
          exact ⟨c, h1, IH _ _ _ hst h2⟩
        | some k2 =>
          cases k2 with
          | none => unfold isC at hkc'; rw [hs] at hkc'; cases hkc'
          | some S =>
            simp only [hs] at h ⊢
            obtain ⟨h1, h2⟩ := h
            exact ⟨h1, fun v => wpAny4_of_inh fun ⟨w, hw, hcl, hF⟩ => IH _ _ _ (stable_upd hst (hsp k S hs v)) (h2 v ⟨w, hw, hcl, (hF k).2 rfl⟩)⟩
      · simp only [hwant] at h ⊢
        exact IH _ _ _ hst h
/-- A fork is any order of the two. -/
theorem fork_any (htr : ∀ a b c, Rel a b → Rel b c → Rel a c) (hsp : ∀ k S, kd k = .some (.some S) → ∀ v w w', Rel w w' → S v w → S v w') (hB : befOk ops T = true)
    (hbar : ∀ i j, (isB kd i = true ∨ ld i = true) → isC kd j = true → bef ops T j i = true ∨ bef ops T i j = true) (hQ : ∀ c (a : Act) x v w, Q (.panic c) (a.put x v) w → Q (.panic c) a w)
    (C : List Nat) (hC : ∀ k, isC kd k = C.contains k) (hs : Region.noSelect ops = true) {i j : Nat} {oi oj : Oper} {r : List (Nat × Oper)} (hi : ops[i]? = .some oi) (hj : ops[j]? = .some oj) (hr : ∀ p ∈ r, ops[p.1]? = .some p.2)
    (listed : Array Bool) (w0 : World) (F : Facts) (a : Act) (he : forkE ops C i j (r.map (·.1)) listed = true) (hc : Closed ops T listed) (hst : StableF Rel F) (h : fork4 P ops T Rel ld Cl kd Q i j oi oj r w0 F a) :
    wpAny4 P ops T Rel ld Cl kd Q (r.length + 2) listed w0 F a := by
  unfold forkE at he
  simp only [Bool.and_eq_true, decide_eq_true_eq] at he
  obtain ⟨e1, e2, e3, e4, e5⟩ := he
  obtain ⟨h1, h2⟩ := h
  have ri : i ∈ Region.ready .any ops listed := by rw [e1]; simp
  have rj : j ∈ Region.ready .any ops listed := by rw [e1]; simp
  have side : ∀ {x y : Nat} {ox oy : Oper}, ops[x]? = .some ox → ops[y]? = .some oy → C.contains x = true → x ∈ Region.ready .any ops listed → lex4 ops C (y :: r.map (·.1)) (listed.setIfInBounds x true) = true →
      wp4 P ops T Rel ld Cl kd Q ((x, ox) :: (y, oy) :: r) w0 F a → op4 P ops T Rel ld Cl kd Q x (wpAny4 P ops T Rel ld Cl kd Q (r.length + 1) (listed.setIfInBounds x true)) w0 F a := by
    intro x y ox oy hx hy hxc hxr hlex hw
    have IH := fun w0 F a hst h => wpAny4_lex (Rel := Rel) (ld := ld) (Cl := Cl) (kd := kd) (Q := Q) (P := P) htr hsp hB hbar hQ C hC hs ((y, oy) :: r) (listed.setIfInBounds x true) w0 F a (fun p hp => by
      rcases List.mem_cons.1 hp with q | q
      · subst q; exact hy
      · exact hr p q) hlex (closed_set hB hc hxr) hst h
    have hkk : kd x = .some .none := kd_bar hC hxc
    unfold op4
    unfold wp4 at hw
    simp only [hx]
    by_cases hwant : Region.wanted ox (yielded ops a.tmps) = true
    · simp only [hwant, if_true, hkk] at hw ⊢
      intro w hw1 hcl hF
      exact (hw w hw1 hcl hF).imp (Oper.wp_mono fun a' w' ⟨h1, h2⟩ => ⟨h1, IH w' none a' (fun _ _ _ _ _ => trivial) h2⟩) id
    · simp only [hwant] at hw ⊢
      exact IH _ _ _ hst hw
  intro _
  refine ⟨fun q => (by rw [e1] at q; cases q), fun x hx => ?_⟩
  rw [e1] at hx
  rcases List.mem_cons.1 hx with rfl | hx
  · exact side hi hj e2 ri e4 h1
  · obtain rfl : x = j := by simpa using hx
    exact side hj hi e3 rj e5 h2
section steps
variable {E : World → Facts → Act → Prop} {w0 : World} {o : Oper} {rest : List (Nat × Oper)} {k : Nat} {F : Facts} {a : Act}
theorem w5_end (h : E w0 F a) : wp5 P ops T Rel ld Cl kd Q E [] w0 F a := h
theorem w5_skip (hw : Region.wanted o (yielded ops a.tmps) = false) (h : wp5 P ops T Rel ld Cl kd Q E rest w0 F (a.put o.dst undef)) : wp5 P ops T Rel ld Cl kd Q E ((k, o) :: rest) w0 F a := by
  unfold wp5; rw [if_neg (by rw [hw]; decide)]; exact h
theorem w5_pure (hw : Region.wanted o (yielded ops a.tmps) = true) (hs : kd k = .none) (h : ∃ c, (∀ w, (ld k = true → Rel w0 w) → Cl w → (execOp a.eval o).run P w = .ok (.value c) w) ∧ wp5 P ops T Rel ld Cl kd Q E rest w0 F (a.put o.dst c)) :
    wp5 P ops T Rel ld Cl kd Q E ((k, o) :: rest) w0 F a := by
  unfold wp5; rw [if_pos hw, hs]; exact h
theorem w5_any (hw : Region.wanted o (yielded ops a.tmps) = true) (hs : kd k = .none) (h : ∃ c, (∀ w, (execOp a.eval o).run P w = .ok (.value c) w) ∧ wp5 P ops T Rel ld Cl kd Q E rest w0 F (a.put o.dst c)) :
    wp5 P ops T Rel ld Cl kd Q E ((k, o) :: rest) w0 F a := w5_pure hw hs (let ⟨c, h1, h2⟩ := h; ⟨c, fun w _ _ => h1 w, h2⟩)
theorem w5_cl (hw : Region.wanted o (yielded ops a.tmps) = true) (hs : kd k = .none) (h : ∃ c, (∀ w, Cl w → (execOp a.eval o).run P w = .ok (.value c) w) ∧ wp5 P ops T Rel ld Cl kd Q E rest w0 F (a.put o.dst c)) :
    wp5 P ops T Rel ld Cl kd Q E ((k, o) :: rest) w0 F a := w5_pure hw hs (let ⟨c, h1, h2⟩ := h; ⟨c, fun w _ => h1 w, h2⟩)
end steps
end
/-- A region whose order is drawn, up to two barriers that may come in either order. -/
theorem wp_region5_eq {P : Program} (T : Array Nat) (Cs Ls : List Nat) (Cl : World → Prop) (p : List Nat) (i j : Nat) (r : List Nat) {id : Nat} {Q : Exit → Act → World → Prop} {a : Act} {w : World} {l : List Oper} {oi oj : Oper} (hm : P.follows .mixedOrders = true)
    (hi : l[i]? = some oi) (hj : l[j]? = some oj)
    (hL : (Region.noSelect l.toArray && (lex5 l.toArray Cs (forkE l.toArray Cs i j ((inOrd l r).map (·.1))) ((inOrd l p).map (·.1)) (Array.replicate l.length false) && (inOrd l r).length + 2 + (inOrd l p).length == l.length)) = true) (hB : befOk l.toArray T = true) (hb : barB l.toArray T Ls Cs = true)
    (hQ : ∀ c (a : Act) x v w, Q (.panic c) (a.put x v) w → Q (.panic c) a w) (hcl : Cl { w with drawn := w.drawn + 1 })
    (h : wp5 P l.toArray T (· = ·) (fun k => Ls.contains k) Cl (kdOf (Rel := (· = ·)) [] Cs) Q (fork4 P l.toArray T (· = ·) (fun k => Ls.contains k) Cl (kdOf (Rel := (· = ·)) [] Cs) Q i j oi oj (inOrd l r)) (inOrd l p) { w with drawn := w.drawn + 1 } none a) : (Code.region id l.toArray true).wp P Q a w := by
  rw [Bool.and_eq_true, Bool.and_eq_true] at hL
  have hlen : (inOrd l r).length + 2 + (inOrd l p).length = l.length := by simpa using hL.2.2
  have htr : ∀ a b c : World, a = b → b = c → a = c := fun _ _ _ h k => h.trans k
  have hbar : ∀ i j, (isB (kdOf (Rel := (· = ·)) [] Cs) i = true ∨ Ls.contains i = true) → isC (kdOf (Rel := (· = ·)) [] Cs) j = true → bef l.toArray T j i = true ∨ bef l.toArray T i j = true := fun i j hi hj => by
    rw [kdOf_C] at hj
    have h1 := List.all_eq_true.1 hb j (by simpa using hj)
    have h2 := List.all_eq_true.1 h1 i (by
      rcases hi with hi | hi
      · have := kdOf_B [] Cs i hi; cases this
      · simpa using hi)
    simpa using h2
  refine wp_region_any hm (wpAny_of_4 (T := T) (ld := fun k => Ls.contains k) (fun _ => rfl) htr (kdOf_sp [] Cs) _ _ { w with drawn := w.drawn + 1 } none _ _ (fun _ _ _ _ _ => trivial) rfl hcl (fun _ => trivial) ?_)
  have := wpAny5_lex (P := P) (Q := Q) (ld := fun k => Ls.contains k) (Cl := Cl) htr (kdOf_sp [] Cs) hB hbar hQ Cs (kdOf_C [] Cs) hL.1 (forkE l.toArray Cs i j ((inOrd l r).map (·.1))) (fork4 P l.toArray T (· = ·) (fun k => Ls.contains k) Cl (kdOf (Rel := (· = ·)) [] Cs) Q i j oi oj (inOrd l r)) ((inOrd l r).length + 2)
    (fun listed w0 F a he hc hst h => fork_any htr (kdOf_sp [] Cs) hB hbar hQ Cs (kdOf_C [] Cs) hL.1 (by simpa using hi) (by simpa using hj) inOrd_mem listed w0 F a he hc hst h)
    (inOrd l p) (Array.replicate l.length false) { w with drawn := w.drawn + 1 } none a inOrd_mem hL.2.1 (fun k m hk => by
    exfalso
    by_cases h : k < l.length <;> simp [h] at hk) (fun _ _ _ _ _ => trivial) h
  rw [hlen] at this
  simpa using this
section
open Go.RowKit
variable {fr al : Nat → Prop} {w0 w : World} {L : List It}
variable {P : Program} {ops : Array Oper} {T : Array Nat} {ld : Nat → Bool} {Cl : World → Prop} {kd : Nat → Kd} {Q : Exit → Act → World → Prop}
/-- Two allocations in either order. -/
theorem fork_alloc {i j : Nat} {oi oj : Oper} {di dj : Nat} {r : List (Nat × Oper)} {F : Facts} {a : Act} {cs ds : Array Value} {Ti Tj : TypeId} (hki : kd i = .some .none) (hkj : kd j = .some .none) (hgi : oi.guard = .none) (hgj : oj.guard = .none) (hdi : oi.dst = some di) (hdj : oj.dst = some dj) (hij : di ≠ dj)
    (st : Own fr al w0 L w)
    (hri : ∀ (x : Act) (w : World), (execOp x.eval oi).run P w = .ok (.value (.pointer (some ⟨w.heap.size, 0, none⟩))) (w.alloc (.cells cs Ti)))
    (hrj : ∀ (x : Act) (w : World), (execOp x.eval oj).run P w = .ok (.value (.pointer (some ⟨w.heap.size, 0, none⟩))) (w.alloc (.cells ds Tj)))
    (hcl : ∀ b w', Own fr al w0 (L ++ [blkI b cs.toList]) w' ∨ Own fr al w0 (L ++ [blkI b ds.toList]) w' → Cl w')
    (h : ∀ b b' w', Own fr al w0 (L ++ [blkI b cs.toList, blkI b' ds.toList]) w' → Cl w' ∧ wp4 P ops T (· = ·) ld Cl kd Q r w' none ((a.put (some di) (.pointer (some ⟨b, 0, none⟩))).put (some dj) (.pointer (some ⟨b', 0, none⟩)))) :
    fork4 P ops T (· = ·) ld Cl kd Q i j oi oj r w F a := by
  have hsw : ∀ b b' w', Own fr al w0 (L ++ [blkI b ds.toList, blkI b' cs.toList]) w' → Own fr al w0 (L ++ [blkI b' cs.toList, blkI b ds.toList]) w' := fun b b' w' s => by
    have s2 := s.keep (List.range L.length ++ [L.length + 1, L.length]) (by
      rw [List.nodup_append]
      refine ⟨List.nodup_range, by simp, ?_⟩
      intro x hx y hy
      simp only [List.mem_range, List.mem_cons, List.not_mem_nil, or_false] at hx hy
      omega) (by
      intro q hq
      simp only [List.mem_append, List.mem_range, List.mem_cons, List.not_mem_nil, or_false] at hq
      simp only [List.length_append, List.length_cons, List.length_nil]
      omega)
    have e : pick (L ++ [blkI b ds.toList, blkI b' cs.toList]) (List.range L.length ++ [L.length + 1, L.length]) = L ++ [blkI b' cs.toList, blkI b ds.toList] := by
      unfold pick
      rw [List.map_append]
      congr 1
      · apply List.ext_getElem
        · simp
        · intro i h1 h2
          simp [List.getElem?_append_left h2, List.getElem?_eq_getElem h2]
      · simp
    rwa [e] at s2
  have wi : ∀ x : Act, Region.wanted oi (yielded ops x.tmps) = true := fun x => by simp [Region.wanted, hgi]
  have wj : ∀ x : Act, Region.wanted oj (yielded ops x.tmps) = true := fun x => by simp [Region.wanted, hgj]
  constructor
  · refine w4_bar (wi _) hki (fun w' hw' _ _ K hK => ?_)
    subst hw'
    have s1 := st.alloc cs.toList Ti rfl
    rw [show cs.toList.toArray = cs from rfl] at s1
    refine owp_run (hri a w) (hK _ _ ⟨hcl _ _ (.inl s1), ?_⟩)
    rw [hdi]
    refine w4_bar (wj _) hkj (fun w' hw' _ _ K hK => ?_)
    subst hw'
    have s2 := s1.alloc ds.toList Tj rfl
    rw [show ds.toList.toArray = ds from rfl] at s2
    refine owp_run (hrj _ _) (hK _ _ ?_)
    rw [hdj]
    exact h _ _ _ (by simpa using s2)
  · refine w4_bar (wj _) hkj (fun w' hw' _ _ K hK => ?_)
    subst hw'
    have s1 := st.alloc ds.toList Tj rfl
    rw [show ds.toList.toArray = ds from rfl] at s1
    refine owp_run (hrj a w) (hK _ _ ⟨hcl _ _ (.inr s1), ?_⟩)
    rw [hdj]
    refine w4_bar (wi _) hki (fun w' hw' _ _ K hK => ?_)
    subst hw'
    have s2 := s1.alloc cs.toList Ti rfl
    rw [show cs.toList.toArray = cs from rfl] at s2
    refine owp_run (hri _ _) (hK _ _ ?_)
    rw [hdi]
    rw [List.append_assoc] at s2
    have := h _ _ _ (hsw _ _ _ s2)
    rw [Act.put_comm _ _ _ (fun d hx hy => hij (by cases hx; cases hy; rfl))]
    exact this
theorem fork_alloc' {i j : Nat} {oi oj : Oper} {di dj : Nat} {r : List (Nat × Oper)} {F : Facts} {a : Act} (hki : kd i = .some .none) (hkj : kd j = .some .none) (hgi : oi.guard = .none) (hgj : oj.guard = .none) (hdi : oi.dst = some di) (hdj : oj.dst = some dj) (hij : di ≠ dj)
    (st : Own fr al w0 L w) (h : ∃ (cs : Array Value) (Ti : TypeId) (ds : Array Value) (Tj : TypeId),
      (∀ (x : Act) (w : World), (execOp x.eval oi).run P w = .ok (.value (.pointer (some ⟨w.heap.size, 0, none⟩))) (w.alloc (.cells cs Ti))) ∧
      (∀ (x : Act) (w : World), (execOp x.eval oj).run P w = .ok (.value (.pointer (some ⟨w.heap.size, 0, none⟩))) (w.alloc (.cells ds Tj))) ∧
      (∀ b w', Own fr al w0 (L ++ [blkI b cs.toList]) w' ∨ Own fr al w0 (L ++ [blkI b ds.toList]) w' → Cl w') ∧
      (∀ b b' w', Own fr al w0 (L ++ [blkI b cs.toList, blkI b' ds.toList]) w' → Cl w' ∧ wp4 P ops T (· = ·) ld Cl kd Q r w' none ((a.put (some di) (.pointer (some ⟨b, 0, none⟩))).put (some dj) (.pointer (some ⟨b', 0, none⟩))))) :
    fork4 P ops T (· = ·) ld Cl kd Q i j oi oj r w F a :=
  let ⟨_, _, _, _, h1, h2, h3, h4⟩ := h
  fork_alloc hki hkj hgi hgj hdi hdj hij st h1 h2 h3 h4
end
attribute [irreducible] wp5
end Go.Proofs.Ytekngjkjgmplpaa.Rg4

namespace Go.Proofs.Ytekngjkjgmplpaa
set_option linter.unusedSimpArgs false
set_option linter.unusedVariables false
open Go Go.RowKit
def stepsMM (l : List StepT) (cs : List Value) (M : List It) : Prop := ∃ v, cs = [v] ∧ stepsM l v M
set_option maxRecDepth 100000 in
set_option maxHeartbeats 1000000 in
theorem chkfirstGet_c {fr al : Nat → Prop} {W : World} {r b : Nat} {xs : List UInt8} (st : Own fr al W [rdI r xs, blkI b [.slice none 0 0]] W) (hl : xs.length ≤ 100000) :
    Calls Try.prog 96 #[.pointer (some ⟨r, 0, none⟩), .pointer (some ⟨b, 0, none⟩)] W (GetPostM fr al W r b (rdSteps 9 xs) [.slice none 0 0] stepsMM) := by
  go_enter Try.func96, Try.ntmps96
  go_wp2_with fail
  obtain ⟨fr', al', st', back⟩ := st.sub [0] (by decide) (by simp)
  (try simp only [nsl, Value.cells, unB] at st')
  refine (chkGet_c st' 9 (by omega) hl).mono ?_
  clear st'
  intro en w hen
  unfold RdC at hen
  cases hr : rdSteps 9 xs with
  | error e =>
    rw [hr] at hen
    obtain ⟨rfl, st'⟩ := hen
    replace st := back _ _ (by simp) st'
    clear back st'
    (try simp only [nsl, Value.cells, unB] at st)
    (try clear hc); have hc := st.facts; (try simp only [nfl, nft, Nat.reduceAdd] at hc)
    have HR := Lib.hid hr
    clear hr
    go_wp2_with fail
    refine ⟨rfl, ?_⟩
    unfold GetPostM
    (try rw [HR.out])
    exact ⟨rfl, st⟩
  | ok p =>
    obtain ⟨l, ys⟩ := p
    rw [hr] at hen
    obtain ⟨v, M, rfl, ⟨n, va, vc, hn, rfl, rfl⟩, st'⟩ := hen
    replace st := back _ _ (by simp) st'
    clear back st'
    (try simp only [nsl, Value.cells, unB] at st)
    (try clear hc); have hc := st.facts; (try simp only [nfl, nft, Nat.reduceAdd] at hc)
    have HR := Lib.hid hr
    have HN := Lib.hid hn
    clear hr hn
    (try simp only [nsl, Value.cells, unB] at st)
    (try clear hc); have hc := st.facts; (try simp only [nfl, nft, Nat.reduceAdd] at hc)
    go_wp2_with ((((with_reducible refine wl_store ?_ (fun K hK => ?_)); rfl; refine owp_store rfl st ?_; apply Exists.intro; apply Exists.intro; refine ⟨?_, ?_, ?_⟩; (focus (go_simp; try rfl)); (focus (go_simp; try rfl)); (with_reducible refine ⟨1, _, _, _, _, get1, rfl, rfl, ?_, ?_, ?_, ?_⟩); (kernel_rfl); (simp [Value.cells]); (rfl); (clear st; intro w st))); (try simp only [nsl, Value.cells, unB] at st); (try clear hc); have hc := st.facts; (try simp only [nfl, nft, Nat.reduceAdd] at hc))
    go_end0
    unfold GetPostM
    (try rw [HR.out])
    exact ⟨rfl, _, [rowI 66 12 (.slice va n vc) n (cellsL l)], ⟨_, rfl, n, va, vc, HN.out, rfl, rfl⟩, by simpa using st⟩
set_option maxRecDepth 100000 in
set_option maxHeartbeats 1000000 in
theorem chkgetsGet_c {fr al : Nat → Prop} {W : World} {r b m : Nat} {k : Int} {xs : List UInt8} (st : Own fr al W [rdI r xs, blkI b [.slice none 0 0], blkI m [.int .u8 k]] W) (hl : xs.length ≤ 100000) (hk : 0 ≤ k ∧ k ≤ 255) :
    Calls Try.prog 47 #[.pointer (some ⟨r, 0, none⟩), .pointer (some ⟨m, 0, none⟩), .pointer (some ⟨b, 0, none⟩)] W (GetPostN fr al W r b (blkI m [.int .u8 k]) (rdSteps k xs) [.slice none 0 0] stepsMM) := by
  obtain ⟨kn, rfl⟩ : ∃ q : Nat, k = (q : Int) := ⟨k.toNat, by omega⟩
  have hk2 : kn ≤ 255 := by omega
  clear hk
  (try simp only [nsl, Value.cells, unB] at st)
  (try clear hc); have hc := st.facts; (try simp only [nfl, nft, Nat.reduceAdd] at hc)
  go_enter Try.func47, Try.ntmps47
  go_wp2_with fail
  obtain ⟨fr', al', st', back⟩ := st.sub [0] (by decide) (by simp)
  (try simp only [nsl, Value.cells, unB] at st')
  refine (chkGet_c st' (kn : Int) (by omega) hl).mono ?_
  clear st'
  intro en w hen
  unfold RdC at hen
  cases hr : rdSteps (kn : Int) xs with
  | error e =>
    rw [hr] at hen
    obtain ⟨rfl, st'⟩ := hen
    replace st := back _ _ (by simp) st'
    clear back st'
    (try simp only [nsl, Value.cells, unB] at st)
    (try clear hc); have hc := st.facts; (try simp only [nfl, nft, Nat.reduceAdd] at hc)
    have HR := Lib.hid hr
    clear hr
    go_wp2_with fail
    refine ⟨rfl, ?_⟩
    unfold GetPostN
    (try rw [HR.out])
    exact ⟨rfl, st⟩
  | ok p =>
    obtain ⟨l, ys⟩ := p
    rw [hr] at hen
    obtain ⟨v, M, rfl, ⟨n, va, vc, hn, rfl, rfl⟩, st'⟩ := hen
    replace st := back _ _ (by simp) st'
    clear back st'
    (try simp only [nsl, Value.cells, unB] at st)
    (try clear hc); have hc := st.facts; (try simp only [nfl, nft, Nat.reduceAdd] at hc)
    have HR := Lib.hid hr
    have HN := Lib.hid hn
    clear hr hn
    (try simp only [nsl, Value.cells, unB] at st)
    (try clear hc); have hc := st.facts; (try simp only [nfl, nft, Nat.reduceAdd] at hc)
    go_wp2_with ((((with_reducible refine wl_store ?_ (fun K hK => ?_)); rfl; refine owp_store rfl st ?_; apply Exists.intro; apply Exists.intro; refine ⟨?_, ?_, ?_⟩; (focus (go_simp; try rfl)); (focus (go_simp; try rfl)); (with_reducible refine ⟨1, _, _, _, _, get1, rfl, rfl, ?_, ?_, ?_, ?_⟩); (kernel_rfl); (simp [Value.cells]); (rfl); (clear st; intro w st))); (try simp only [nsl, Value.cells, unB] at st); (try clear hc); have hc := st.facts; (try simp only [nfl, nft, Nat.reduceAdd] at hc))
    go_end0
    unfold GetPostN
    (try rw [HR.out])
    exact ⟨rfl, _, [rowI 66 12 (.slice va n vc) n (cellsL l)], ⟨_, rfl, n, va, vc, HN.out, rfl, rfl⟩, by simpa using st⟩
def cI : CredT := ⟨2, ([97], [114]), [], ([98], [115]), ([], []), []⟩
def dI : CredT := ⟨1, ([98], [115]), [100], ([], []), ([], []), []⟩
def xI : StepT := ⟨dI, ⟨([98], [115]), [100]⟩⟩
def yI : StepT := ⟨cI, ⟨([97], [114]), [100]⟩⟩
theorem ckI1 : checkV [xI, yI] [cI, dI] yI.f = .tuple #[.int .i64 2, .int .i64 0] := by
  unfold checkV
  rw [show placeB [xI, yI] [cI, dI] = 2 from by decide +kernel, if_neg (by decide), if_pos (by decide +kernel)]; rfl
theorem ckI2 : checkV [yI] [cI, dI] yI.f = .tuple #[.int .i64 0, .int .i64 50] := by
  unfold checkV
  rw [show placeB [yI] [cI, dI] = 0 from by decide +kernel, if_pos (by decide)]; rfl
theorem ckI3 : checkV [xI] [cI, dI] yI.f = .tuple #[.int .i64 1, .int .i64 42] := by
  unfold checkV
  rw [show placeB [xI] [cI, dI] = 1 from by decide +kernel, if_neg (by decide), if_neg (by decide +kernel)]; rfl
theorem foI1 : folB [] xI = true := by decide +kernel
theorem foI2 : folB [] yI = false := by decide +kernel
theorem tiI : tightB [xI, yI] = true := by decide +kernel
theorem okI : chainOk [xI, yI] = true := by decide +kernel
theorem rdI2 : rdSteps 9 (chainB [xI, yI]) = .ok ([xI, yI], []) := rdSteps_put okI 9 (by decide) (by decide)
theorem cIL : CLenS cI := by unfold CLenS; decide
theorem dIL : CLenS dI := by unfold CLenS; decide
theorem xyL : ∀ x ∈ [xI, yI], CLenS x.c := fun x hx => by
  simp only [List.mem_cons, List.not_mem_nil, or_false] at hx
  rcases hx with rfl | rfl
  · exact dIL
  · exact cIL
theorem xL : ∀ x ∈ [xI], CLenS x.c := fun x hx => by rw [List.mem_singleton.1 hx]; exact dIL
theorem yL : ∀ x ∈ [yI], CLenS x.c := fun x hx => by rw [List.mem_singleton.1 hx]; exact cIL
set_option maxRecDepth 100000 in
set_option maxHeartbeats 8000000 in
theorem chkFirst_any (W : World) : Calls Try.prog 33 #[] W fun e w' => e = .returned (.bool true) ∧ Ext W w' := by
  have st := Own.startOld W
  have HUL : Hid ((chainB [xI, yI]).length ≤ 1000) := Lib.hid (by decide +kernel)
  have HRU := Lib.hid rdI2
  have hpy := fun (fr al : Nat → Prop) (W : World) (p : Nat) (a : Option Addr) (st : Own fr al W [penI p [], flI a 2 [xI, yI]] W) => chkPut_yes (c := 2) st okI (by simp)
  obtain ⟨u, hu⟩ : ∃ u, chainB [xI, yI] = u := ⟨_, rfl⟩
  rw [hu] at HUL HRU hpy
  have HPY := Lib.hid hpy
  have hul := HUL.out
  clear hu hpy
  (try simp only [nsl, Value.cells, unB] at st)
  (try clear hc); have hc := st.facts; (try simp only [nfl, nft, Nat.reduceAdd] at hc)
  go_enter Try.func33, Try.ntmps33
  go_wp2_with ((first
        | ((with_reducible refine wl_alloc ?_ (fun K hK => ?_)); rfl; refine owp_alloc (o := ⟨some 1, _, _, _, _, _⟩) rfl st ?_; apply Exists.intro; apply Exists.intro; refine ⟨?_, ?_⟩; (focus (first | (go_simp; done) | (go_simp; rfl))); (clear st; intro b1 w hb st; clear hb))
        | ((with_reducible refine wl_alloc ?_ (fun K hK => ?_)); rfl; refine owp_alloc (o := ⟨some 2, _, _, _, _, _⟩) rfl st ?_; apply Exists.intro; apply Exists.intro; refine ⟨?_, ?_⟩; (focus (first | (go_simp; done) | (go_simp; rfl))); (clear st; intro b2 w hb st; clear hb))
        | ((with_reducible refine wl_store ?_ (fun K hK => ?_)); rfl; refine owp_store rfl st ?_; apply Exists.intro; apply Exists.intro; refine ⟨?_, ?_, ?_⟩; (focus (go_simp; try rfl)); (focus (go_simp; try rfl)); (first | (with_reducible refine ⟨1, _, _, _, _, get1, rfl, rfl, ?_, ?_, ?_, ?_⟩) | (with_reducible refine ⟨2, _, _, _, _, get2, rfl, rfl, ?_, ?_, ?_, ?_⟩)); (kernel_rfl); (simp [Value.cells]); (rfl); (clear st; intro w st))); (try simp only [nsl, Value.cells, unB] at st); (try clear hc); have hc := st.facts; (try simp only [nfl, nft, Nat.reduceAdd] at hc))
  refine Rg4.wp_region5_eq #[0, 0, 3, 0, 8, 0, 0, 103, 255] [5, 6, 7, 8] [] (fun W' => Blk W' b1 [.string ⟨#[97]⟩, .string ⟨#[114]⟩] ∧ Blk W' b2 [.string ⟨#[98]⟩, .string ⟨#[115]⟩]) [0, 1, 2, 3, 4] 5 6 [7, 8] (by kernel_rfl) (by rfl) (by rfl) (by kernel_rfl) (by kernel_rfl) (by kernel_rfl) (show Rg4.PB _ by repeat (first | with_reducible exact Rg4.pb_body | with_reducible exact Rg4.pb_bodyD rfl | with_reducible refine Rg4.pb_then ?_ | with_reducible refine Rg4.pb_inBlock ?_ | with_reducible refine Rg4.pb_noGoto ?_)) (⟨st.drew.blk (i := 1) get1, st.drew.blk (i := 2) get2⟩) ?_
  replace st := st.drew
  change Rg4.wp5 _ _ _ _ _ _ _ _ _ _ (World.drew _) _ _
  generalize World.drew _ = w at st ⊢
  (try clear hc); have hc := st.facts; (try simp only [nfl, nft, Nat.reduceAdd] at hc)
  iterate 2 (refine Rg4.w5_cl (Rg4.want_none rfl) rfl ?_; apply Exists.intro; refine ⟨fun w' hcl => ?_, ?_⟩; (focus (have q0 := Blk.cell hcl.1 0; have q1 := Blk.cell hcl.1 1; have q2 := Blk.cell hcl.2 0; have q3 := Blk.cell hcl.2 1; (try simp at q0 q1 q2 q3); (focus (first | (go_simp; done) | (go_simp; first | rfl | (rw [if_neg] <;> first | rfl | omega) | (rw [if_pos] <;> first | rfl | omega)))))); (try simp only [Rg4.nrm]))
  (refine Rg4.w5_any (Rg4.want_none rfl) rfl ?_; apply Exists.intro; refine ⟨fun w' => ?_, ?_⟩; (focus (first | (go_simp; done) | (go_simp; first | rfl | (rw [if_neg] <;> first | rfl | omega) | (rw [if_pos] <;> first | rfl | omega)))); (try simp only [Rg4.nrm]))
  (refine Rg4.w5_cl (Rg4.want_none rfl) rfl ?_; apply Exists.intro; refine ⟨fun w' hcl => ?_, ?_⟩; (focus (have q0 := Blk.cell hcl.1 0; have q1 := Blk.cell hcl.1 1; have q2 := Blk.cell hcl.2 0; have q3 := Blk.cell hcl.2 1; (try simp at q0 q1 q2 q3); (focus (first | (go_simp; done) | (go_simp; first | rfl | (rw [if_neg] <;> first | rfl | omega) | (rw [if_pos] <;> first | rfl | omega)))))); (try simp only [Rg4.nrm]))
  (refine Rg4.w5_any (Rg4.want_none rfl) rfl ?_; apply Exists.intro; refine ⟨fun w' => ?_, ?_⟩; (focus (first | (go_simp; done) | (go_simp; first | rfl | (rw [if_neg] <;> first | rfl | omega) | (rw [if_pos] <;> first | rfl | omega)))); (try simp only [Rg4.nrm]))
  refine Rg4.w5_end ?_
  refine Rg4.fork_alloc' (di := 3) (dj := 4) rfl rfl rfl rfl rfl rfl (by decide) st ?_
  apply Exists.intro; apply Exists.intro; apply Exists.intro; apply Exists.intro
  refine ⟨?_, ?_, ?_, ?_⟩
  · intro _ _; (focus (first | (go_simp; done) | (go_simp; rfl)))
  · intro _ _; (focus (first | (go_simp; done) | (go_simp; rfl)))
  · rintro b w' (st | st) <;> ((try simp only [nsl, Value.cells, unB] at st); exact ⟨st.blk (i := 1) get1, st.blk (i := 2) get2⟩)
  clear st
  intro b3 b4 w st
  (try simp only [nsl, Value.cells, unB] at st)
  refine ⟨⟨st.blk (i := 1) get1, st.blk (i := 2) get2⟩, ?_⟩
  (try clear hc); have hc := st.facts; (try simp only [nfl, nft, Nat.reduceAdd] at hc)
  (try simp only [Rg4.nrm])
  (refine Rg4.w4_bar (Rg4.want_none rfl) rfl (fun w' hw' hcl' _ K hK => ?_); subst hw'; (refine owp_store rfl st ?_; apply Exists.intro; apply Exists.intro; refine ⟨?_, ?_, ?_⟩; (focus (go_simp; try rfl)); (focus (go_simp; try rfl)); (with_reducible refine ⟨3, _, _, _, _, get3, rfl, rfl, ?_, ?_, ?_, ?_⟩); (kernel_rfl); (simp [Value.cells]); (rfl); (clear st; intro w st); (try simp only [nsl, Value.cells, unB] at st); (try clear hc); have hc := st.facts; (try simp only [nfl, nft, Nat.reduceAdd] at hc)); refine hK _ _ ⟨⟨st.blk (i := 1) get1, st.blk (i := 2) get2⟩, ?_⟩; (try simp only [Rg4.nrm]))
  (refine Rg4.w4_bar (Rg4.want_none rfl) rfl (fun w' hw' hcl' _ K hK => ?_); subst hw'; (refine owp_store rfl st ?_; apply Exists.intro; apply Exists.intro; refine ⟨?_, ?_, ?_⟩; (focus (go_simp; try rfl)); (focus (go_simp; try rfl)); (with_reducible refine ⟨4, _, _, _, _, get4, rfl, rfl, ?_, ?_, ?_, ?_⟩); (kernel_rfl); (simp [Value.cells]); (rfl); (clear st; intro w st); (try simp only [nsl, Value.cells, unB] at st); (try clear hc); have hc := st.facts; (try simp only [nfl, nft, Nat.reduceAdd] at hc)); refine hK _ _ ⟨⟨st.blk (i := 1) get1, st.blk (i := 2) get2⟩, ?_⟩; (try simp only [Rg4.nrm]))
  refine Rg4.w4_nil (fun w' hw' hcl' _ => ?_); subst hw'; clear hcl'
  go_wp2_with fail
  refine Rg4.wp_region5_eq #[0, 0, 2, 7, 0, 0, 32, 112, 0, 0, 783, 2047] [8, 9, 10, 11] [] (fun W' => (Blk W' b1 [.string ⟨#[97]⟩, .string ⟨#[114]⟩] ∧ Blk W' b2 [.string ⟨#[98]⟩, .string ⟨#[115]⟩]) ∧ Blk W' b3 (cC cI) ∧ Blk W' b4 (cC dI)) [0, 1, 2, 3, 4, 5, 6, 7] 8 9 [10, 11] (by kernel_rfl) (by rfl) (by rfl) (by kernel_rfl) (by kernel_rfl) (by kernel_rfl) (show Rg4.PB _ by repeat (first | with_reducible exact Rg4.pb_body | with_reducible exact Rg4.pb_bodyD rfl | with_reducible refine Rg4.pb_then ?_ | with_reducible refine Rg4.pb_inBlock ?_ | with_reducible refine Rg4.pb_noGoto ?_)) (⟨⟨st.drew.blk (i := 1) get1, st.drew.blk (i := 2) get2⟩, st.drew.blk (i := 3) get3, st.drew.blk (i := 4) get4⟩) ?_
  replace st := st.drew
  change Rg4.wp5 _ _ _ _ _ _ _ _ _ _ (World.drew _) _ _
  generalize World.drew _ = w at st ⊢
  (try clear hc); have hc := st.facts; (try simp only [nfl, nft, Nat.reduceAdd] at hc)
  iterate 2 (refine Rg4.w5_cl (Rg4.want_none rfl) rfl ?_; apply Exists.intro; refine ⟨fun w' hcl => ?_, ?_⟩; (focus (have q0 := Blk.cell hcl.1.1 0; have q1 := Blk.cell hcl.1.1 1; have q2 := Blk.cell hcl.1.2 0; have q3 := Blk.cell hcl.1.2 1; have p0 := Blk.cell hcl.2.1 0; have p1 := Blk.cell hcl.2.1 1; have p2 := Blk.cell hcl.2.1 2; have p3 := Blk.cell hcl.2.1 3; have p4 := Blk.cell hcl.2.1 4; have p5 := Blk.cell hcl.2.1 5; have p6 := Blk.cell hcl.2.1 6; have p7 := Blk.cell hcl.2.1 7; have p8 := Blk.cell hcl.2.1 8; have s0 := Blk.cell hcl.2.2 0; have s1 := Blk.cell hcl.2.2 1; have s2 := Blk.cell hcl.2.2 2; have s3 := Blk.cell hcl.2.2 3; have s4 := Blk.cell hcl.2.2 4; have s5 := Blk.cell hcl.2.2 5; have s6 := Blk.cell hcl.2.2 6; have s7 := Blk.cell hcl.2.2 7; have s8 := Blk.cell hcl.2.2 8; (try simp [cC, cI, dI, S] at q0 q1 q2 q3 p0 p1 p2 p3 p4 p5 p6 p7 p8 s0 s1 s2 s3 s4 s5 s6 s7 s8); (focus (first | (go_simp; done) | (go_simp; first | rfl | (rw [if_neg] <;> first | rfl | omega) | (rw [if_pos] <;> first | rfl | omega)))))); (try simp only [Rg4.nrm]))
  iterate 2 (refine Rg4.w5_any (Rg4.want_none rfl) rfl ?_; apply Exists.intro; refine ⟨fun w' => ?_, ?_⟩; (focus (first | (go_simp; done) | (go_simp; first | rfl | (rw [if_neg] <;> first | rfl | omega) | (rw [if_pos] <;> first | rfl | omega)))); (try simp only [Rg4.nrm]))
  iterate 2 (refine Rg4.w5_cl (Rg4.want_none rfl) rfl ?_; apply Exists.intro; refine ⟨fun w' hcl => ?_, ?_⟩; (focus (have q0 := Blk.cell hcl.1.1 0; have q1 := Blk.cell hcl.1.1 1; have q2 := Blk.cell hcl.1.2 0; have q3 := Blk.cell hcl.1.2 1; have p0 := Blk.cell hcl.2.1 0; have p1 := Blk.cell hcl.2.1 1; have p2 := Blk.cell hcl.2.1 2; have p3 := Blk.cell hcl.2.1 3; have p4 := Blk.cell hcl.2.1 4; have p5 := Blk.cell hcl.2.1 5; have p6 := Blk.cell hcl.2.1 6; have p7 := Blk.cell hcl.2.1 7; have p8 := Blk.cell hcl.2.1 8; have s0 := Blk.cell hcl.2.2 0; have s1 := Blk.cell hcl.2.2 1; have s2 := Blk.cell hcl.2.2 2; have s3 := Blk.cell hcl.2.2 3; have s4 := Blk.cell hcl.2.2 4; have s5 := Blk.cell hcl.2.2 5; have s6 := Blk.cell hcl.2.2 6; have s7 := Blk.cell hcl.2.2 7; have s8 := Blk.cell hcl.2.2 8; (try simp [cC, cI, dI, S] at q0 q1 q2 q3 p0 p1 p2 p3 p4 p5 p6 p7 p8 s0 s1 s2 s3 s4 s5 s6 s7 s8); (focus (first | (go_simp; done) | (go_simp; first | rfl | (rw [if_neg] <;> first | rfl | omega) | (rw [if_pos] <;> first | rfl | omega)))))); (try simp only [Rg4.nrm]))
  iterate 2 (refine Rg4.w5_any (Rg4.want_none rfl) rfl ?_; apply Exists.intro; refine ⟨fun w' => ?_, ?_⟩; (focus (first | (go_simp; done) | (go_simp; first | rfl | (rw [if_neg] <;> first | rfl | omega) | (rw [if_pos] <;> first | rfl | omega)))); (try simp only [Rg4.nrm]))
  refine Rg4.w5_end ?_
  refine Rg4.fork_alloc' (di := 5) (dj := 6) rfl rfl rfl rfl rfl rfl (by decide) st ?_
  apply Exists.intro; apply Exists.intro; apply Exists.intro; apply Exists.intro
  refine ⟨?_, ?_, ?_, ?_⟩
  · intro _ _; (focus (first | (go_simp; done) | (go_simp; rfl)))
  · intro _ _; (focus (first | (go_simp; done) | (go_simp; rfl)))
  · rintro b w' (st | st) <;> ((try simp only [nsl, Value.cells, unB] at st); exact ⟨⟨st.blk (i := 1) get1, st.blk (i := 2) get2⟩, st.blk (i := 3) get3, st.blk (i := 4) get4⟩)
  clear st
  intro b5 b6 w st
  (try simp only [nsl, Value.cells, unB] at st)
  refine ⟨⟨⟨st.blk (i := 1) get1, st.blk (i := 2) get2⟩, st.blk (i := 3) get3, st.blk (i := 4) get4⟩, ?_⟩
  (try clear hc); have hc := st.facts; (try simp only [nfl, nft, Nat.reduceAdd] at hc)
  (try simp only [Rg4.nrm])
  (refine Rg4.w4_bar (Rg4.want_none rfl) rfl (fun w' hw' hcl' _ K hK => ?_); subst hw'; (refine owp_store rfl st ?_; apply Exists.intro; apply Exists.intro; refine ⟨?_, ?_, ?_⟩; (focus (go_simp; try rfl)); (focus (go_simp; try rfl)); (with_reducible refine ⟨5, _, _, _, _, get5, rfl, rfl, ?_, ?_, ?_, ?_⟩); (kernel_rfl); (simp [Value.cells]); (rfl); (clear st; intro w st); (try simp only [nsl, Value.cells, unB] at st); (try clear hc); have hc := st.facts; (try simp only [nfl, nft, Nat.reduceAdd] at hc)); refine hK _ _ ⟨⟨⟨st.blk (i := 1) get1, st.blk (i := 2) get2⟩, st.blk (i := 3) get3, st.blk (i := 4) get4⟩, ?_⟩; (try simp only [Rg4.nrm]))
  (refine Rg4.w4_bar (Rg4.want_none rfl) rfl (fun w' hw' hcl' _ K hK => ?_); subst hw'; (refine owp_store rfl st ?_; apply Exists.intro; apply Exists.intro; refine ⟨?_, ?_, ?_⟩; (focus (go_simp; try rfl)); (focus (go_simp; try rfl)); (with_reducible refine ⟨6, _, _, _, _, get6, rfl, rfl, ?_, ?_, ?_, ?_⟩); (kernel_rfl); (simp [Value.cells]); (rfl); (clear st; intro w st); (try simp only [nsl, Value.cells, unB] at st); (try clear hc); have hc := st.facts; (try simp only [nfl, nft, Nat.reduceAdd] at hc)); refine hK _ _ ⟨⟨⟨st.blk (i := 1) get1, st.blk (i := 2) get2⟩, st.blk (i := 3) get3, st.blk (i := 4) get4⟩, ?_⟩; (try simp only [Rg4.nrm]))
  refine Rg4.w4_nil (fun w' hw' hcl' _ => ?_); subst hw'; clear hcl'
  go_wp2_with ((first
        | ((with_reducible refine wl_buildSlice ?_ (fun K hK => ?_)); rfl; refine owp_buildSlice (o := ⟨some 35, _, _, _, _, _⟩) rfl st ?_; apply Exists.intro; apply Exists.intro; apply Exists.intro; apply Exists.intro; refine ⟨?_, ?_⟩; (focus (go_simp; (first | done | exact ⟨⟨rfl, rfl⟩, rfl⟩ | rfl))); (clear st; intro b35 w hb st; clear hb))
        | ((with_reducible refine wl_buildSlice ?_ (fun K hK => ?_)); rfl; refine owp_buildSlice (o := ⟨some 38, _, _, _, _, _⟩) rfl st ?_; apply Exists.intro; apply Exists.intro; apply Exists.intro; apply Exists.intro; refine ⟨?_, ?_⟩; (focus (go_simp; (first | done | exact ⟨⟨rfl, rfl⟩, rfl⟩ | rfl))); (clear st; intro b38 w hb st; clear hb))); (try simp only [nsl, Value.cells, unB] at st); (try clear hc); have hc := st.facts; (try simp only [nfl, nft, Nat.reduceAdd] at hc))
  have hF := fl_lit (st.blk (i := 7) get7) ([xI, yI] : List StepT) rfl
  have hG := fl_lit (st.blk (i := 8) get8) ([cI, dI] : List CredT) rfl
  refine (chkCheck_any _ 2 2 [xI, yI] _ 2 2 [cI, dI] yI.f _ hF (by decide) xyL hG (by decide)).mono ?_
  rintro en w ⟨rfl, hx⟩
  replace st := st.ext hx
  clear hx hF hG
  rw [ckI1]
  have st2 := st.keep [0, 1, 2, 3, 4, 5, 6] (by decide) (by simp)
  clear st
  have st := st2
  clear st2
  simp only [pick, List.map_cons, List.map_nil, List.getElem?_cons_zero, List.getElem?_cons_succ, Option.getD_some] at st
  (try simp only [nsl, Value.cells, unB] at st)
  (try clear hc); have hc := st.facts; (try simp only [nfl, nft, Nat.reduceAdd] at hc)
  go_wp2_with ((first
        | ((with_reducible refine wl_buildSlice ?_ (fun K hK => ?_)); rfl; refine owp_buildSlice (o := ⟨some 46, _, _, _, _, _⟩) rfl st ?_; apply Exists.intro; apply Exists.intro; apply Exists.intro; apply Exists.intro; refine ⟨?_, ?_⟩; (focus (go_simp; (first | done | exact ⟨⟨rfl, rfl⟩, rfl⟩ | rfl))); (clear st; intro b46 w hb st; clear hb))
        | ((with_reducible refine wl_buildSlice ?_ (fun K hK => ?_)); rfl; refine owp_buildSlice (o := ⟨some 49, _, _, _, _, _⟩) rfl st ?_; apply Exists.intro; apply Exists.intro; apply Exists.intro; apply Exists.intro; refine ⟨?_, ?_⟩; (focus (go_simp; (first | done | exact ⟨⟨rfl, rfl⟩, rfl⟩ | rfl))); (clear st; intro b49 w hb st; clear hb))); (try simp only [nsl, Value.cells, unB] at st); (try clear hc); have hc := st.facts; (try simp only [nfl, nft, Nat.reduceAdd] at hc))
  have hF := fl_lit (st.blk (i := 7) get7) ([yI] : List StepT) rfl
  have hG := fl_lit (st.blk (i := 8) get8) ([cI, dI] : List CredT) rfl
  refine (chkCheck_any _ 1 1 [yI] _ 2 2 [cI, dI] yI.f _ hF (by decide) yL hG (by decide)).mono ?_
  rintro en w ⟨rfl, hx⟩
  replace st := st.ext hx
  clear hx hF hG
  rw [ckI2]
  have st2 := st.keep [0, 1, 2, 3, 4, 5, 6] (by decide) (by simp)
  clear st
  have st := st2
  clear st2
  simp only [pick, List.map_cons, List.map_nil, List.getElem?_cons_zero, List.getElem?_cons_succ, Option.getD_some] at st
  (try simp only [nsl, Value.cells, unB] at st)
  (try clear hc); have hc := st.facts; (try simp only [nfl, nft, Nat.reduceAdd] at hc)
  go_wp2_with ((first
        | ((with_reducible refine wl_buildSlice ?_ (fun K hK => ?_)); rfl; refine owp_buildSlice (o := ⟨some 57, _, _, _, _, _⟩) rfl st ?_; apply Exists.intro; apply Exists.intro; apply Exists.intro; apply Exists.intro; refine ⟨?_, ?_⟩; (focus (go_simp; (first | done | exact ⟨⟨rfl, rfl⟩, rfl⟩ | rfl))); (clear st; intro b57 w hb st; clear hb))
        | ((with_reducible refine wl_buildSlice ?_ (fun K hK => ?_)); rfl; refine owp_buildSlice (o := ⟨some 60, _, _, _, _, _⟩) rfl st ?_; apply Exists.intro; apply Exists.intro; apply Exists.intro; apply Exists.intro; refine ⟨?_, ?_⟩; (focus (go_simp; (first | done | exact ⟨⟨rfl, rfl⟩, rfl⟩ | rfl))); (clear st; intro b60 w hb st; clear hb))); (try simp only [nsl, Value.cells, unB] at st); (try clear hc); have hc := st.facts; (try simp only [nfl, nft, Nat.reduceAdd] at hc))
  have hF := fl_lit (st.blk (i := 7) get7) ([xI] : List StepT) rfl
  have hG := fl_lit (st.blk (i := 8) get8) ([cI, dI] : List CredT) rfl
  refine (chkCheck_any _ 1 1 [xI] _ 2 2 [cI, dI] yI.f _ hF (by decide) xL hG (by decide)).mono ?_
  rintro en w ⟨rfl, hx⟩
  replace st := st.ext hx
  clear hx hF hG
  rw [ckI3]
  have st2 := st.keep [0, 1, 2, 3, 4, 5, 6] (by decide) (by simp)
  clear st
  have st := st2
  clear st2
  simp only [pick, List.map_cons, List.map_nil, List.getElem?_cons_zero, List.getElem?_cons_succ, Option.getD_some] at st
  (try simp only [nsl, Value.cells, unB] at st)
  (try clear hc); have hc := st.facts; (try simp only [nfl, nft, Nat.reduceAdd] at hc)
  go_wp2_with ((first
        | ((with_reducible refine wl_box ?_ (fun K hK => ?_)); rfl; refine owp_box (o := ⟨some 67, _, _, _, _, _⟩) rfl st ?_; apply Exists.intro; refine ⟨?_, ?_⟩; (focus (go_simp; try rfl)); (clear st; intro b67 w hb st; clear hb))
        | ((with_reducible refine wl_buildSlice ?_ (fun K hK => ?_)); rfl; refine owp_buildSlice (o := ⟨some 71, _, _, _, _, _⟩) rfl st ?_; apply Exists.intro; apply Exists.intro; apply Exists.intro; apply Exists.intro; refine ⟨?_, ?_⟩; (focus (go_simp; (first | done | exact ⟨⟨rfl, rfl⟩, rfl⟩ | rfl))); (clear st; intro b71 w hb st; clear hb))); (try simp only [nsl, Value.cells, unB] at st); (try clear hc); have hc := st.facts; (try simp only [nfl, nft, Nat.reduceAdd] at hc))
  replace st := st.newPen (i := 7) get7
  (try simp only [nsl, Value.cells, unB] at st)
  (try clear hc); have hc := st.facts; (try simp only [nfl, nft, Nat.reduceAdd] at hc)
  replace st := st.blkToFl ([xI, yI] : List StepT) (i := 8) (n := 2) get8 rfl rfl
  (try simp only [nsl, Value.cells, unB] at st)
  (try clear hc); have hc := st.facts; (try simp only [nfl, nft, Nat.reduceAdd] at hc)
  obtain ⟨fr', al', st', back⟩ := st.sub [7, 8] (by decide) (by simp)
  (try simp only [nsl, Value.cells, unB] at st')
  refine (HPY.out _ _ _ _ _ st').mono ?_
  clear st'
  rintro en w ⟨rfl, st'⟩
  replace st := back _ _ (by simp) st'
  clear back st'
  (try simp only [nsl, Value.cells, unB] at st)
  (try clear hc); have hc := st.facts; (try simp only [nfl, nft, Nat.reduceAdd] at hc)
  (try simp only [List.nil_append] at st)
  go_wp2_with ((((with_reducible refine wl_alloc ?_ (fun K hK => ?_)); rfl; refine owp_alloc (o := ⟨some 15, _, _, _, _, _⟩) rfl st ?_; apply Exists.intro; apply Exists.intro; refine ⟨?_, ?_⟩; (focus (first | (go_simp; done) | (go_simp; rfl))); (clear st; intro b15 w hb st; clear hb))); (try simp only [nsl, Value.cells, unB] at st); (try clear hc); have hc := st.facts; (try simp only [nfl, nft, Nat.reduceAdd] at hc))
  obtain ⟨fr', al', st', back⟩ := st.sub [7] (by decide) (by simp)
  (try simp only [nsl, Value.cells, unB] at st')
  refine (penBytes_c st' (by omega)).mono ?_
  clear st'
  rintro en w ⟨pa, pc, rfl, hpc, st'⟩
  replace st := back _ _ (by simp) st'
  clear back st'
  (try simp only [nsl, Value.cells, unB] at st)
  (try clear hc); have hc := st.facts; (try simp only [nfl, nft, Nat.reduceAdd] at hc)
  go_wp2_with fail
  refine (readGetM_c (i := 9) (b := b15) st get9 (st.by (i := 10) get10) hpc (by omega) 96 (fun _ _ => by kernel_rfl) (rdSteps 9 u) stepsMM (fun fr al w r st => chkfirstGet_c st (by omega))).mono ?_
  rintro en w ⟨r1, cs, M, rfl, hg, st'⟩
  rw [HRU.out] at hg ⊢
  unfold GotM stepsMM stepsM at hg
  obtain ⟨v, rfl, n, va, vc, hn, rfl, rfl⟩ := hg
  obtain rfl : n = 2 := hn
  clear st
  simp only [gotE, if_true, List.set, List.cons_append, List.nil_append] at st' ⊢
  have st := st'.keep [1, 2, 3, 4, 5, 6, 7, 10, 12] (by decide) (by simp)
  clear st'
  simp only [pick, List.map_cons, List.map_nil, List.getElem?_cons_zero, List.getElem?_cons_succ, Option.getD_some] at st
  obtain ⟨g, cap, hv, hcap, _⟩ := st.rowAt (i := 8) get8 (by omega)
  injection hv with hv1 hv2 hv3
  subst hv1 hv3
  clear hv2
  (try simp only [nsl, Value.cells, unB] at st)
  (try clear hc); have hc := st.facts; (try simp only [nfl, nft, Nat.reduceAdd] at hc)
  go_wp2_with fail
  refine Rg4.wp_region4_eq #[0, 1, 3, 7, 15, 31, 63, 127, 255, 511, 1023, 2047, 4095, 8191, 16383, 32767, 65535, 131071, 262143, 524287, 1048575, 2097151, 4194303, 8388607, 16777215, 33554431, 67108863, 134217727, 268435455, 268435455, 1073741823, 2147483647, 4294967295, 8589934591, 17179869183, 34359738367, 68719476735, 137438953471, 274877906943, 549755813887, 1099511627775, 2199023255551, 4398046511103, 8796093022207, 17592186044415, 35184372088831, 70368744177663, 140737488355327, 281474976710655, 70368744177663, 1125899906842623, 2251799813685247, 4503599627370495] [20, 24, 30, 31] [19, 23, 28, 29, 41, 46, 48, 49] (fun _ => True) [0, 1, 2, 3, 4, 5, 6, 7, 8, 9, 10, 11, 12, 13, 14, 15, 16, 17, 18, 19, 20, 21, 22, 23, 24, 25, 26, 27, 28, 29, 30, 31, 32, 33, 34, 35, 36, 37, 38, 39, 40, 41, 42, 43, 44, 45, 46, 47, 48, 49, 50, 51, 52] (by kernel_rfl) (by kernel_rfl) (by kernel_rfl) (by kernel_rfl) (show Rg4.PB _ by repeat (first | with_reducible exact Rg4.pb_body | with_reducible exact Rg4.pb_bodyD rfl | with_reducible refine Rg4.pb_then ?_ | with_reducible refine Rg4.pb_inBlock ?_ | with_reducible refine Rg4.pb_noGoto ?_)) (trivial) ?_
  replace st := st.drew
  change Rg4.wp4 _ _ _ _ _ _ _ _ _ (World.drew _) _ _
  generalize World.drew _ = w at st ⊢
  (try clear hc); have hc := st.facts; (try simp only [nfl, nft, Nat.reduceAdd] at hc)
  iterate 3 (refine Rg4.w4_any (Rg4.want_none rfl) rfl ?_; apply Exists.intro; refine ⟨fun w' => ?_, ?_⟩; (focus (first | (go_simp; done) | (go_simp; first | rfl | (rw [if_neg] <;> first | rfl | omega) | (rw [if_pos] <;> first | rfl | omega)))); (try simp only [Rg4.nrm]))
  iterate 2 (first | (refine Rg4.w4_any (Rg4.wt rfl rfl rfl) rfl ?_; apply Exists.intro; refine ⟨fun w' => ?_, ?_⟩; (focus (first | (go_simp; done) | (go_simp; first | rfl | (rw [if_neg] <;> first | rfl | omega) | (rw [if_pos] <;> first | rfl | omega)))); (try simp only [Rg4.nrm])) | (refine Rg4.w4_skip (Rg4.uw rfl rfl rfl) ?_; (try simp only [Rg4.nrm])) | (refine Rg4.w4_skip (Rg4.un rfl rfl rfl) ?_; (try simp only [Rg4.nrm])))
  iterate 2 (refine Rg4.w4_any (Rg4.want_none rfl) rfl ?_; apply Exists.intro; refine ⟨fun w' => ?_, ?_⟩; (focus (first | (go_simp; done) | (go_simp; first | rfl | (rw [if_neg] <;> first | rfl | omega) | (rw [if_pos] <;> first | rfl | omega)))); (try simp only [Rg4.nrm]))
  iterate 2 (first | (refine Rg4.w4_any (Rg4.wt rfl rfl rfl) rfl ?_; apply Exists.intro; refine ⟨fun w' => ?_, ?_⟩; (focus (first | (go_simp; done) | (go_simp; first | rfl | (rw [if_neg] <;> first | rfl | omega) | (rw [if_pos] <;> first | rfl | omega)))); (try simp only [Rg4.nrm])) | (refine Rg4.w4_skip (Rg4.uw rfl rfl rfl) ?_; (try simp only [Rg4.nrm])) | (refine Rg4.w4_skip (Rg4.un rfl rfl rfl) ?_; (try simp only [Rg4.nrm])))
  iterate 2 (refine Rg4.w4_any (Rg4.want_none rfl) rfl ?_; apply Exists.intro; refine ⟨fun w' => ?_, ?_⟩; (focus (first | (go_simp; done) | (go_simp; first | rfl | (rw [if_neg] <;> first | rfl | omega) | (rw [if_pos] <;> first | rfl | omega)))); (try simp only [Rg4.nrm]))
  iterate 2 (first | (refine Rg4.w4_any (Rg4.wt rfl rfl rfl) rfl ?_; apply Exists.intro; refine ⟨fun w' => ?_, ?_⟩; (focus (first | (go_simp; done) | (go_simp; first | rfl | (rw [if_neg] <;> first | rfl | omega) | (rw [if_pos] <;> first | rfl | omega)))); (try simp only [Rg4.nrm])) | (refine Rg4.w4_skip (Rg4.uw rfl rfl rfl) ?_; (try simp only [Rg4.nrm])) | (refine Rg4.w4_skip (Rg4.un rfl rfl rfl) ?_; (try simp only [Rg4.nrm])))
  iterate 2 (refine Rg4.w4_any (Rg4.want_none rfl) rfl ?_; apply Exists.intro; refine ⟨fun w' => ?_, ?_⟩; (focus (first | (go_simp; done) | (go_simp; first | rfl | (rw [if_neg] <;> first | rfl | omega) | (rw [if_pos] <;> first | rfl | omega)))); (try simp only [Rg4.nrm]))
  iterate 2 (first | (refine Rg4.w4_any (Rg4.wt rfl rfl rfl) rfl ?_; apply Exists.intro; refine ⟨fun w' => ?_, ?_⟩; (focus (first | (go_simp; done) | (go_simp; first | rfl | (rw [if_neg] <;> first | rfl | omega) | (rw [if_pos] <;> first | rfl | omega)))); (try simp only [Rg4.nrm])) | (refine Rg4.w4_skip (Rg4.uw rfl rfl rfl) ?_; (try simp only [Rg4.nrm])) | (refine Rg4.w4_skip (Rg4.un rfl rfl rfl) ?_; (try simp only [Rg4.nrm])))
  iterate 2 (refine Rg4.w4_any (Rg4.want_none rfl) rfl ?_; apply Exists.intro; refine ⟨fun w' => ?_, ?_⟩; (focus (first | (go_simp; done) | (go_simp; first | rfl | (rw [if_neg] <;> first | rfl | omega) | (rw [if_pos] <;> first | rfl | omega)))); (try simp only [Rg4.nrm]))
  (first | (refine Rg4.w4_read (Rg4.wt rfl rfl rfl) rfl rfl ?_; apply Exists.intro; refine ⟨fun w' hw' hcl' => ?_, ?_⟩; focus (subst hw'; have r0 := st.rowC (i := 8) get8 12 (.int .i64 2) rfl; have r1 := st.rowC (i := 8) get8 13 (S [97]) rfl; have r2 := st.rowC (i := 8) get8 14 (S [114]) rfl; have r3 := st.rowC (i := 8) get8 15 (S []) rfl; have r4 := st.rowC (i := 8) get8 16 (S [98]) rfl; have r5 := st.rowC (i := 8) get8 17 (S [115]) rfl; have r6 := st.rowC (i := 8) get8 18 (S []) rfl; have r7 := st.rowC (i := 8) get8 19 (S []) rfl; have r8 := st.rowC (i := 8) get8 20 (S []) rfl; have r9 := st.rowC (i := 8) get8 21 (S [97]) rfl; have r10 := st.rowC (i := 8) get8 22 (S [114]) rfl; have r11 := st.rowC (i := 8) get8 23 (S [100]) rfl; unfold S at r1 r2 r3 r4 r5 r6 r7 r8 r9 r10 r11; (focus (first | (go_simp; done) | (go_simp; first | rfl | (rw [if_neg] <;> first | rfl | omega) | (rw [if_pos] <;> first | rfl | omega))))); (try simp only [Rg4.nrm])) | (refine Rg4.w4_skip (Rg4.uw rfl rfl rfl) ?_; (try simp only [Rg4.nrm])) | (refine Rg4.w4_skip (Rg4.un rfl rfl rfl) ?_; (try simp only [Rg4.nrm])))
  refine Rg4.w4_bar (Rg4.want_of 18 95 true rfl rfl rfl) rfl (fun w' hw' hcl _ K hK => ?_)
  subst hw'
  go_wp2_with fail
  refine (chkFollows_any xI none 0 0 [] _ (Fl.nil _ _) (by decide) dIL).mono ?_
  rintro en w ⟨rfl, hx⟩
  replace st := st.ext hx
  clear hx
  rw [foI1]
  (try simp only [nsl, Value.cells, unB] at st)
  (try clear hc); have hc := st.facts; (try simp only [nfl, nft, Nat.reduceAdd] at hc)
  refine hK _ _ ⟨trivial, ?_⟩
  clear hK
  (try simp only [Rg4.nrm])
  iterate 2 (refine Rg4.w4_any (Rg4.want_none rfl) rfl ?_; apply Exists.intro; refine ⟨fun w' => ?_, ?_⟩; (focus (first | (go_simp; done) | (go_simp; first | rfl | (rw [if_neg] <;> first | rfl | omega) | (rw [if_pos] <;> first | rfl | omega)))); (try simp only [Rg4.nrm]))
  (first | (refine Rg4.w4_read (Rg4.wt rfl rfl rfl) rfl rfl ?_; apply Exists.intro; refine ⟨fun w' hw' hcl' => ?_, ?_⟩; focus (subst hw'; have r0 := st.rowC (i := 8) get8 12 (.int .i64 2) rfl; have r1 := st.rowC (i := 8) get8 13 (S [97]) rfl; have r2 := st.rowC (i := 8) get8 14 (S [114]) rfl; have r3 := st.rowC (i := 8) get8 15 (S []) rfl; have r4 := st.rowC (i := 8) get8 16 (S [98]) rfl; have r5 := st.rowC (i := 8) get8 17 (S [115]) rfl; have r6 := st.rowC (i := 8) get8 18 (S []) rfl; have r7 := st.rowC (i := 8) get8 19 (S []) rfl; have r8 := st.rowC (i := 8) get8 20 (S []) rfl; have r9 := st.rowC (i := 8) get8 21 (S [97]) rfl; have r10 := st.rowC (i := 8) get8 22 (S [114]) rfl; have r11 := st.rowC (i := 8) get8 23 (S [100]) rfl; unfold S at r1 r2 r3 r4 r5 r6 r7 r8 r9 r10 r11; (focus (first | (go_simp; done) | (go_simp; first | rfl | (rw [if_neg] <;> first | rfl | omega) | (rw [if_pos] <;> first | rfl | omega))))); (try simp only [Rg4.nrm])) | (refine Rg4.w4_skip (Rg4.uw rfl rfl rfl) ?_; (try simp only [Rg4.nrm])) | (refine Rg4.w4_skip (Rg4.un rfl rfl rfl) ?_; (try simp only [Rg4.nrm])))
  refine Rg4.w4_bar (Rg4.want_of 22 99 true rfl rfl rfl) rfl (fun w' hw' hcl _ K hK => ?_)
  subst hw'
  go_wp2_with fail
  refine (chkFollows_any yI none 0 0 [] _ (Fl.nil _ _) (by decide) cIL).mono ?_
  rintro en w ⟨rfl, hx⟩
  replace st := st.ext hx
  clear hx
  rw [foI2]
  (try simp only [nsl, Value.cells, unB] at st)
  (try clear hc); have hc := st.facts; (try simp only [nfl, nft, Nat.reduceAdd] at hc)
  refine hK _ _ ⟨trivial, ?_⟩
  clear hK
  (try simp only [Rg4.nrm])
  (first | (refine Rg4.w4_any (Rg4.wt rfl rfl rfl) rfl ?_; apply Exists.intro; refine ⟨fun w' => ?_, ?_⟩; (focus (first | (go_simp; done) | (go_simp; first | rfl | (rw [if_neg] <;> first | rfl | omega) | (rw [if_pos] <;> first | rfl | omega)))); (try simp only [Rg4.nrm])) | (refine Rg4.w4_skip (Rg4.uw rfl rfl rfl) ?_; (try simp only [Rg4.nrm])) | (refine Rg4.w4_skip (Rg4.un rfl rfl rfl) ?_; (try simp only [Rg4.nrm])))
  iterate 2 (refine Rg4.w4_any (Rg4.want_none rfl) rfl ?_; apply Exists.intro; refine ⟨fun w' => ?_, ?_⟩; (focus (first | (go_simp; done) | (go_simp; first | rfl | (rw [if_neg] <;> first | rfl | omega) | (rw [if_pos] <;> first | rfl | omega)))); (try simp only [Rg4.nrm]))
  iterate 2 (first | (refine Rg4.w4_read (Rg4.wt rfl rfl rfl) rfl rfl ?_; apply Exists.intro; refine ⟨fun w' hw' hcl' => ?_, ?_⟩; focus (subst hw'; have r0 := st.rowC (i := 8) get8 12 (.int .i64 2) rfl; have r1 := st.rowC (i := 8) get8 13 (S [97]) rfl; have r2 := st.rowC (i := 8) get8 14 (S [114]) rfl; have r3 := st.rowC (i := 8) get8 15 (S []) rfl; have r4 := st.rowC (i := 8) get8 16 (S [98]) rfl; have r5 := st.rowC (i := 8) get8 17 (S [115]) rfl; have r6 := st.rowC (i := 8) get8 18 (S []) rfl; have r7 := st.rowC (i := 8) get8 19 (S []) rfl; have r8 := st.rowC (i := 8) get8 20 (S []) rfl; have r9 := st.rowC (i := 8) get8 21 (S [97]) rfl; have r10 := st.rowC (i := 8) get8 22 (S [114]) rfl; have r11 := st.rowC (i := 8) get8 23 (S [100]) rfl; unfold S at r1 r2 r3 r4 r5 r6 r7 r8 r9 r10 r11; (focus (first | (go_simp; done) | (go_simp; first | rfl | (rw [if_neg] <;> first | rfl | omega) | (rw [if_pos] <;> first | rfl | omega))))); (try simp only [Rg4.nrm])) | (refine Rg4.w4_skip (Rg4.uw rfl rfl rfl) ?_; (try simp only [Rg4.nrm])) | (refine Rg4.w4_skip (Rg4.un rfl rfl rfl) ?_; (try simp only [Rg4.nrm])))
  (first | (refine Rg4.w4_bar (Rg4.wt rfl rfl rfl) rfl (fun w' hw' hcl' _ K hK => ?_); subst hw'; (refine owp_buildSlice (o := ⟨some 107, _, _, _, _, _⟩) rfl st ?_; apply Exists.intro; apply Exists.intro; apply Exists.intro; apply Exists.intro; refine ⟨?_, ?_⟩; (focus (go_simp; (first | done | exact ⟨⟨rfl, rfl⟩, rfl⟩ | rfl))); (clear st; intro b107 w hb st; clear hb); (try simp only [nsl, Value.cells, unB] at st); (try clear hc); have hc := st.facts; (try simp only [nfl, nft, Nat.reduceAdd] at hc)); refine hK _ _ ⟨trivial, ?_⟩; (try simp only [Rg4.nrm])) | (refine Rg4.w4_skip (Rg4.uw rfl rfl rfl) ?_; (try simp only [Rg4.nrm])) | (refine Rg4.w4_skip (Rg4.un rfl rfl rfl) ?_; (try simp only [Rg4.nrm])))
  refine Rg4.w4_bar (Rg4.want_of 27 104 true rfl rfl rfl) rfl (fun w' hw' hcl _ K hK => ?_)
  subst hw'
  go_wp2_with fail
  have hF := fl_lit (st.blk (i := 9) get9) ([xI, yI] : List StepT) rfl
  refine (chkTight_any _ 2 2 [xI, yI] _ hF (by decide) xyL).mono ?_
  rintro en w ⟨rfl, hx⟩
  replace st := st.ext hx
  clear hx hF
  rw [tiI]
  (try simp only [nsl, Value.cells, unB] at st)
  (try clear hc); have hc := st.facts; (try simp only [nfl, nft, Nat.reduceAdd] at hc)
  refine hK _ _ ⟨trivial, ?_⟩
  clear hK
  (try simp only [Rg4.nrm])
  iterate 2 (refine Rg4.w4_any (Rg4.want_none rfl) rfl ?_; apply Exists.intro; refine ⟨fun w' => ?_, ?_⟩; (focus (first | (go_simp; done) | (go_simp; first | rfl | (rw [if_neg] <;> first | rfl | omega) | (rw [if_pos] <;> first | rfl | omega)))); (try simp only [Rg4.nrm]))
  (first | (refine Rg4.w4_any (Rg4.wt rfl rfl rfl) rfl ?_; apply Exists.intro; refine ⟨fun w' => ?_, ?_⟩; (focus (first | (go_simp; done) | (go_simp; first | rfl | (rw [if_neg] <;> first | rfl | omega) | (rw [if_pos] <;> first | rfl | omega)))); (try simp only [Rg4.nrm])) | (refine Rg4.w4_skip (Rg4.uw rfl rfl rfl) ?_; (try simp only [Rg4.nrm])) | (refine Rg4.w4_skip (Rg4.un rfl rfl rfl) ?_; (try simp only [Rg4.nrm])))
  iterate 2 (refine Rg4.w4_any (Rg4.want_none rfl) rfl ?_; apply Exists.intro; refine ⟨fun w' => ?_, ?_⟩; (focus (first | (go_simp; done) | (go_simp; first | rfl | (rw [if_neg] <;> first | rfl | omega) | (rw [if_pos] <;> first | rfl | omega)))); (try simp only [Rg4.nrm]))
  iterate 2 (first | (refine Rg4.w4_any (Rg4.wt rfl rfl rfl) rfl ?_; apply Exists.intro; refine ⟨fun w' => ?_, ?_⟩; (focus (first | (go_simp; done) | (go_simp; first | rfl | (rw [if_neg] <;> first | rfl | omega) | (rw [if_pos] <;> first | rfl | omega)))); (try simp only [Rg4.nrm])) | (refine Rg4.w4_skip (Rg4.uw rfl rfl rfl) ?_; (try simp only [Rg4.nrm])) | (refine Rg4.w4_skip (Rg4.un rfl rfl rfl) ?_; (try simp only [Rg4.nrm])))
  iterate 2 (refine Rg4.w4_any (Rg4.want_none rfl) rfl ?_; apply Exists.intro; refine ⟨fun w' => ?_, ?_⟩; (focus (first | (go_simp; done) | (go_simp; first | rfl | (rw [if_neg] <;> first | rfl | omega) | (rw [if_pos] <;> first | rfl | omega)))); (try simp only [Rg4.nrm]))
  (first | (refine Rg4.w4_read (Rg4.wt rfl rfl rfl) rfl rfl ?_; apply Exists.intro; refine ⟨fun w' hw' hcl' => ?_, ?_⟩; focus (subst hw'; have r0 := st.rowC (i := 8) get8 12 (.int .i64 2) rfl; have r1 := st.rowC (i := 8) get8 13 (S [97]) rfl; have r2 := st.rowC (i := 8) get8 14 (S [114]) rfl; have r3 := st.rowC (i := 8) get8 15 (S []) rfl; have r4 := st.rowC (i := 8) get8 16 (S [98]) rfl; have r5 := st.rowC (i := 8) get8 17 (S [115]) rfl; have r6 := st.rowC (i := 8) get8 18 (S []) rfl; have r7 := st.rowC (i := 8) get8 19 (S []) rfl; have r8 := st.rowC (i := 8) get8 20 (S []) rfl; have r9 := st.rowC (i := 8) get8 21 (S [97]) rfl; have r10 := st.rowC (i := 8) get8 22 (S [114]) rfl; have r11 := st.rowC (i := 8) get8 23 (S [100]) rfl; unfold S at r1 r2 r3 r4 r5 r6 r7 r8 r9 r10 r11; (focus (first | (go_simp; done) | (go_simp; first | rfl | (rw [if_neg] <;> first | rfl | omega) | (rw [if_pos] <;> first | rfl | omega))))); (try simp only [Rg4.nrm])) | (refine Rg4.w4_skip (Rg4.uw rfl rfl rfl) ?_; (try simp only [Rg4.nrm])) | (refine Rg4.w4_skip (Rg4.un rfl rfl rfl) ?_; (try simp only [Rg4.nrm])))
  iterate 2 (first | (refine Rg4.w4_any (Rg4.wt rfl rfl rfl) rfl ?_; apply Exists.intro; refine ⟨fun w' => ?_, ?_⟩; (focus (first | (go_simp; done) | (go_simp; first | rfl | (rw [if_neg] <;> first | rfl | omega) | (rw [if_pos] <;> first | rfl | omega)))); (try simp only [Rg4.nrm])) | (refine Rg4.w4_skip (Rg4.uw rfl rfl rfl) ?_; (try simp only [Rg4.nrm])) | (refine Rg4.w4_skip (Rg4.un rfl rfl rfl) ?_; (try simp only [Rg4.nrm])))
  iterate 2 (refine Rg4.w4_any (Rg4.want_none rfl) rfl ?_; apply Exists.intro; refine ⟨fun w' => ?_, ?_⟩; (focus (first | (go_simp; done) | (go_simp; first | rfl | (rw [if_neg] <;> first | rfl | omega) | (rw [if_pos] <;> first | rfl | omega)))); (try simp only [Rg4.nrm]))
  (first | (refine Rg4.w4_read (Rg4.wt rfl rfl rfl) rfl rfl ?_; apply Exists.intro; refine ⟨fun w' hw' hcl' => ?_, ?_⟩; focus (subst hw'; have r0 := st.rowC (i := 8) get8 12 (.int .i64 2) rfl; have r1 := st.rowC (i := 8) get8 13 (S [97]) rfl; have r2 := st.rowC (i := 8) get8 14 (S [114]) rfl; have r3 := st.rowC (i := 8) get8 15 (S []) rfl; have r4 := st.rowC (i := 8) get8 16 (S [98]) rfl; have r5 := st.rowC (i := 8) get8 17 (S [115]) rfl; have r6 := st.rowC (i := 8) get8 18 (S []) rfl; have r7 := st.rowC (i := 8) get8 19 (S []) rfl; have r8 := st.rowC (i := 8) get8 20 (S []) rfl; have r9 := st.rowC (i := 8) get8 21 (S [97]) rfl; have r10 := st.rowC (i := 8) get8 22 (S [114]) rfl; have r11 := st.rowC (i := 8) get8 23 (S [100]) rfl; unfold S at r1 r2 r3 r4 r5 r6 r7 r8 r9 r10 r11; (focus (first | (go_simp; done) | (go_simp; first | rfl | (rw [if_neg] <;> first | rfl | omega) | (rw [if_pos] <;> first | rfl | omega))))); (try simp only [Rg4.nrm])) | (refine Rg4.w4_skip (Rg4.uw rfl rfl rfl) ?_; (try simp only [Rg4.nrm])) | (refine Rg4.w4_skip (Rg4.un rfl rfl rfl) ?_; (try simp only [Rg4.nrm])))
  (first | (refine Rg4.w4_any (Rg4.wt rfl rfl rfl) rfl ?_; apply Exists.intro; refine ⟨fun w' => ?_, ?_⟩; (focus (first | (go_simp; done) | (go_simp; first | rfl | (rw [if_neg] <;> first | rfl | omega) | (rw [if_pos] <;> first | rfl | omega)))); (try simp only [Rg4.nrm])) | (refine Rg4.w4_skip (Rg4.uw rfl rfl rfl) ?_; (try simp only [Rg4.nrm])) | (refine Rg4.w4_skip (Rg4.un rfl rfl rfl) ?_; (try simp only [Rg4.nrm])))
  iterate 2 (first | (refine Rg4.w4_read (Rg4.wt rfl rfl rfl) rfl rfl ?_; apply Exists.intro; refine ⟨fun w' hw' hcl' => ?_, ?_⟩; focus (subst hw'; have r0 := st.rowC (i := 8) get8 12 (.int .i64 2) rfl; have r1 := st.rowC (i := 8) get8 13 (S [97]) rfl; have r2 := st.rowC (i := 8) get8 14 (S [114]) rfl; have r3 := st.rowC (i := 8) get8 15 (S []) rfl; have r4 := st.rowC (i := 8) get8 16 (S [98]) rfl; have r5 := st.rowC (i := 8) get8 17 (S [115]) rfl; have r6 := st.rowC (i := 8) get8 18 (S []) rfl; have r7 := st.rowC (i := 8) get8 19 (S []) rfl; have r8 := st.rowC (i := 8) get8 20 (S []) rfl; have r9 := st.rowC (i := 8) get8 21 (S [97]) rfl; have r10 := st.rowC (i := 8) get8 22 (S [114]) rfl; have r11 := st.rowC (i := 8) get8 23 (S [100]) rfl; unfold S at r1 r2 r3 r4 r5 r6 r7 r8 r9 r10 r11; (focus (first | (go_simp; done) | (go_simp; first | rfl | (rw [if_neg] <;> first | rfl | omega) | (rw [if_pos] <;> first | rfl | omega))))); (try simp only [Rg4.nrm])) | (refine Rg4.w4_skip (Rg4.uw rfl rfl rfl) ?_; (try simp only [Rg4.nrm])) | (refine Rg4.w4_skip (Rg4.un rfl rfl rfl) ?_; (try simp only [Rg4.nrm])))
  (first | (refine Rg4.w4_any (Rg4.wt rfl rfl rfl) rfl ?_; apply Exists.intro; refine ⟨fun w' => ?_, ?_⟩; (focus (first | (go_simp; done) | (go_simp; first | rfl | (rw [if_neg] <;> first | rfl | omega) | (rw [if_pos] <;> first | rfl | omega)))); (try simp only [Rg4.nrm])) | (refine Rg4.w4_skip (Rg4.uw rfl rfl rfl) ?_; (try simp only [Rg4.nrm])) | (refine Rg4.w4_skip (Rg4.un rfl rfl rfl) ?_; (try simp only [Rg4.nrm])))
  iterate 2 (refine Rg4.w4_any (Rg4.want_none rfl) rfl ?_; apply Exists.intro; refine ⟨fun w' => ?_, ?_⟩; (focus (first | (go_simp; done) | (go_simp; first | rfl | (rw [if_neg] <;> first | rfl | omega) | (rw [if_pos] <;> first | rfl | omega)))); (try simp only [Rg4.nrm]))
  refine Rg4.w4_nil (fun w' hw' hcl' _ => ?_); subst hw'; clear hcl'
  go_wp2_with fail
  go_ret
  exact ⟨rfl, st.ext0⟩
end Go.Proofs.Ytekngjkjgmplpaa

namespace Go.Proofs.Ytekngjkjgmplpaa
set_option linter.unusedSimpArgs false
set_option linter.unusedVariables false
open Go Go.RowKit
set_option maxRecDepth 100000 in
set_option maxHeartbeats 8000000 in
theorem refCheck_any (a : Option Addr) (n c : Nat) (l : List StepT) (a' : Option Addr) (n' c' : Nat) (cs : List CredT) (want : FactT) (W : World) (h : Fl W a n l) (hnc : n ≤ c) (hn : n ≤ 1000000) (hl : ∀ x ∈ l, CLenS x.c) (h' : Fl W a' n' cs) (hn' : n' ≤ 2000000) :
    Calls Try.prog 40 #[.slice a n c, .slice a' n' c', fV want] W fun e w' => e = .returned (checkV l cs want) ∧ Ext W w' := by
  have H := Lib.hid h
  have H' := Lib.hid h'
  have HNL := Lib.hid h.1
  have HL := Lib.hid hl
  have HWA := Lib.hid (fun fa fc W h => refIn_any fa n fc (l.map StepT.f) want.r want.w W h (by omega))
  have HFW := Lib.hid (fun W h => refFacts_any a n c l W h hn)
  have HR : Hid (checkV l cs want = .tuple #[.int .i64 (placeB l cs : Nat), .int .i64 (if placeB l cs < l.length then 50 else if want ∈ l.map StepT.f then 0 else 42)]) := Lib.hid rfl
  obtain ⟨rv, hr⟩ : ∃ r, checkV l cs want = r := ⟨_, rfl⟩
  rw [hr] at HR ⊢
  obtain ⟨pl, hpl⟩ : ∃ p, placeB l cs = p := ⟨_, rfl⟩
  rw [hpl] at HR
  have HPL : Hid (pl = chainFrom (badAt l cs) 0 n) := Lib.hid (by rw [← hpl, h.1]; rfl)
  obtain ⟨wi, hwi⟩ : ∃ p, decide (want ∈ l.map StepT.f) = p := ⟨_, rfl⟩
  have ew : (⟨want.r, want.w⟩ : FactT) = want := rfl
  simp only [ew] at HWA
  rw [hwi] at HWA
  have HWI := Lib.hid hwi
  clear h hl h' hr hpl hwi
  obtain ⟨⟨qo, qd⟩, qw⟩ := want
  have st := Own.startOld W
  unfold rV at HWA
  unfold fV
  simp only at HWA
  unfold S at *
  (try simp only [nsl, Value.cells, unB] at st)
  (try clear hc); have hc := st.facts; (try simp only [nfl, nft, Nat.reduceAdd] at hc)
  go_enter Try.func40, Try.ntmps40
  go_wp2_with ((((with_reducible refine wl_box ?_ (fun K hK => ?_)); rfl; refine owp_box (o := ⟨some 5, _, _, _, _, _⟩) rfl st ?_; apply Exists.intro; refine ⟨?_, ?_⟩; (focus (go_simp; try rfl)); (clear st; intro b5 w hb st; clear hb))); (try simp only [nsl, Value.cells, unB] at st); (try clear hc); have hc := st.facts; (try simp only [nfl, nft, Nat.reduceAdd] at hc))
  go_loopg [12] n (fun kk i wr => ∃ (j : Nat), j ≤ n ∧ kk = n - j ∧ i = .int .i64 (j : Int) ∧ Hid (pl = chainFrom (badAt l cs) j (n - j)) ∧ Own (fun _ => False) (fun _ => True) W [oldI W, blkI b5 [.string ⟨qo.toArray⟩, .string ⟨qd.toArray⟩, .string ⟨qw.toArray⟩]] wr)
  case atStart => exact ⟨0, by omega, by omega, rfl, Lib.hid (by rw [HPL.out]; rfl), st⟩
  case round =>
    obtain ⟨j, hj, rfl, rfl, HT, st'⟩ := hrel
    clear st hc
    have st := st'
    clear st'
    (try simp only [nsl, Value.cells, unB] at st)
    (try clear hc); have hc := st.facts; (try simp only [nfl, nft, Nat.reduceAdd] at hc)
    by_cases hjn : j < n
    · obtain ⟨b, off, ha, hcell⟩ := H.out.step (by omega)
      have hjl : j < l.length := by have := HNL.out; omega
      obtain ⟨r0, r1, r2, r3, r4, r5, r6, r7, r8, r9, r10, r11⟩ := hcell j l[j] (List.getElem?_eq_getElem hjl)
      replace r0 := st.oldCell (i := 0) get0 r0
      replace r1 := st.oldCell (i := 0) get0 r1
      replace r2 := st.oldCell (i := 0) get0 r2
      replace r3 := st.oldCell (i := 0) get0 r3
      replace r4 := st.oldCell (i := 0) get0 r4
      replace r5 := st.oldCell (i := 0) get0 r5
      replace r6 := st.oldCell (i := 0) get0 r6
      replace r7 := st.oldCell (i := 0) get0 r7
      replace r8 := st.oldCell (i := 0) get0 r8
      replace r9 := st.oldCell (i := 0) get0 r9
      replace r10 := st.oldCell (i := 0) get0 r10
      replace r11 := st.oldCell (i := 0) get0 r11
      have HFA : Hid (folAt l j = folB ((l.map StepT.f).take j) l[j]) := Lib.hid (by unfold folAt; rw [List.getElem?_eq_getElem hjl, List.map_take])
      have HBA : Hid (badAt l cs j = !(decide (l[j].c ∈ cs) && folAt l j)) := Lib.hid (by unfold badAt; rw [List.getElem?_eq_getElem hjl])
      have HCL := Lib.hid (HL.out _ (List.getElem_mem hjl))
      clear hcell
      generalize l[j] = x at *
      subst ha
      have HFO := Lib.hid (fun fa fc W h => refFollows_any x fa j fc ((l.map StepT.f).take j) W h (by omega) HCL.out)
      have HFC := Lib.hid (fun W h => refFacts_any (some ⟨b, off, none⟩) j c (l.take j) W h (by omega))
      simp only [List.map_take] at HFC
      have hjc : j ≤ c := by omega
      have HCH := Lib.hid (fun W h => refCredHas_any a' n' c' cs x.c W h hn')
      rw [← HFA.out] at HFO
      obtain ⟨p, hp⟩ : ∃ p, folAt l j = p := ⟨_, rfl⟩
      obtain ⟨p0, hp0⟩ : ∃ p, decide (x.c ∈ cs) = p := ⟨_, rfl⟩
      rw [hp] at HFO HBA
      rw [hp0] at HCH HBA
      have HTS : Hid (pl = if badAt l cs j then j else chainFrom (badAt l cs) (j + 1) (n - (j + 1))) := Lib.hid (by rw [HT.out, chainFrom_step _ _ _ hjn])
      rw [HBA.out] at HTS
      unfold stV at HFO
      unfold cV at HCH
      unfold S at r1 r2 r3 r4 r5 r6 r7 r8 r9 r10 r11 HFO HCH
      clear hp hp0 HFA HBA
      go_wp2_with ((first
            | ((with_reducible refine wl_alloc ?_ (fun K hK => ?_)); rfl; refine owp_alloc (o := ⟨some 9, _, _, _, _, _⟩) rfl st ?_; apply Exists.intro; apply Exists.intro; refine ⟨?_, ?_⟩; (focus (first | (go_simp; done) | (go_simp; rfl))); (clear st; intro b9 w hb st; clear hb))
            | ((with_reducible refine wl_store ?_ (fun K hK => ?_)); rfl; refine owp_store rfl st ?_; apply Exists.intro; apply Exists.intro; refine ⟨?_, ?_, ?_⟩; (focus (go_simp; try rfl)); (focus (go_simp; try rfl)); (with_reducible refine ⟨2, _, _, _, _, get2, rfl, rfl, ?_, ?_, ?_, ?_⟩); (kernel_rfl); (simp [Value.cells]); (rfl); (clear st; intro w st))); (try simp only [nsl, Value.cells, unB] at st); (try clear hc); have hc := st.facts; (try simp only [nfl, nft, Nat.reduceAdd] at hc))
      clear r0 r1 r2 r3 r4 r5 r6 r7 r8 r9 r10 r11
      cases p0 with
      | false =>
        have HF : Hid (rv = .tuple #[.int .i64 (j : Int), .int .i64 50]) := Lib.hid (by
          have hp : pl = j := by rw [HTS.out]; simp
          rw [HR.out, hp, if_pos hjl])
        refine Rg4.wp_region4 (Rel := Ext) #[0, 0, 2, 7, 15, 31, 63, 63, 63, 447, 959, 2047, 4095, 8191]
          [(10, ⟨fun v w => ∃ fa fc, v = .slice fa j fc ∧ Fl w fa j ((l.map StepT.f).take j) , fun _ _ _ hx ⟨fa, fc, h1, h2⟩ => ⟨fa, fc, h1, Arr.ext h2 hx⟩⟩)] [3, 11] [2, 6] (fun _ => True) [0, 1, 2, 3, 4, 5, 6, 7, 8, 9, 10, 11, 12, 13] (by kernel_rfl) (by kernel_rfl) (by kernel_rfl) (by kernel_rfl) Ext.refl (fun _ _ _ => Ext.trans) (show Rg4.PB _ by repeat (first | with_reducible exact Rg4.pb_body | with_reducible exact Rg4.pb_bodyD rfl | with_reducible refine Rg4.pb_then ?_ | with_reducible refine Rg4.pb_inBlock ?_ | with_reducible refine Rg4.pb_noGoto ?_)) (trivial) ?_
        replace st := st.drew
        change Rg4.wp4 _ _ _ _ _ _ _ _ _ (World.drew _) _ _
        generalize World.drew _ = w at st ⊢
        (try clear hc); have hc := st.facts; (try simp only [nfl, nft, Nat.reduceAdd] at hc)
        iterate 2 (refine Rg4.w4_any (Rg4.want_none rfl) rfl ?_; apply Exists.intro; refine ⟨fun w' => ?_, ?_⟩; (focus (first | (go_simp; done) | (go_simp; first | rfl | (rw [if_neg] <;> first | rfl | omega) | (rw [if_pos] <;> first | rfl | omega)))); (try simp only [Rg4.nrm]))
        (refine Rg4.w4_read (Rg4.want_none rfl) rfl rfl ?_; apply Exists.intro; refine ⟨fun w' hw' hcl' => ?_, ?_⟩; focus (have st' := st.ext hw'; have hc' := st'.facts; (try simp only [nfl, nft, Nat.reduceAdd] at hc'); (focus (first | (go_simp; done) | (go_simp; first | rfl | (rw [if_neg] <;> first | rfl | omega) | (rw [if_pos] <;> first | rfl | omega))))); (try simp only [Rg4.nrm]))
        refine Rg4.w4_bar (Rg4.want_none rfl) rfl (fun w' hw' hcl _ K hK => ?_)
        replace st := st.ext hw'
        clear hw'
        (try clear hc); have hc := st.facts; (try simp only [nfl, nft, Nat.reduceAdd] at hc)
        go_wp2_with fail
        refine (HCH.out _ (st.oldFl (i := 0) get0 H'.out)).mono ?_
        rintro en w ⟨rfl, hx⟩
        replace st := st.ext hx
        clear hx
        (try clear hc); have hc := st.facts; (try simp only [nfl, nft, Nat.reduceAdd] at hc)
        refine hK _ _ ⟨trivial, ?_⟩
        clear hK
        (try simp only [Rg4.nrm])
        iterate 2 (refine Rg4.w4_any (Rg4.want_none rfl) rfl ?_; apply Exists.intro; refine ⟨fun w' => ?_, ?_⟩; (focus (first | (go_simp; done) | (go_simp; first | rfl | (rw [if_neg] <;> first | rfl | omega) | (rw [if_pos] <;> first | rfl | omega)))); (try simp only [Rg4.nrm]))
        (first | (refine Rg4.w4_read (Rg4.wt rfl rfl rfl) rfl rfl ?_; apply Exists.intro; refine ⟨fun w' hw' hcl' => ?_, ?_⟩; focus (have st' := st.ext hw'; have hc' := st'.facts; (try simp only [nfl, nft, Nat.reduceAdd] at hc'); (focus (first | (go_simp; done) | (go_simp; first | rfl | (rw [if_neg] <;> first | rfl | omega) | (rw [if_pos] <;> first | rfl | omega))))); (try simp only [Rg4.nrm])) | (refine Rg4.w4_skip (Rg4.uw rfl rfl rfl) ?_; (try simp only [Rg4.nrm])) | (refine Rg4.w4_skip (Rg4.un rfl rfl rfl) ?_; (try simp only [Rg4.nrm])))
        iterate 3 (first | (refine Rg4.w4_any (Rg4.wt rfl rfl rfl) rfl ?_; apply Exists.intro; refine ⟨fun w' => ?_, ?_⟩; (focus (first | (go_simp; done) | (go_simp; first | rfl | (rw [if_neg] <;> first | rfl | omega) | (rw [if_pos] <;> first | rfl | omega)))); (try simp only [Rg4.nrm])) | (refine Rg4.w4_skip (Rg4.uw rfl rfl rfl) ?_; (try simp only [Rg4.nrm])) | (refine Rg4.w4_skip (Rg4.un rfl rfl rfl) ?_; (try simp only [Rg4.nrm])))
        first | refine Rg4.w4_skip (Rg4.uw rfl rfl rfl) ?_ | refine Rg4.w4_skip (Rg4.un rfl rfl rfl) ?_
        (try simp only [Rg4.nrm])

        first | refine Rg4.w4_skip (Rg4.uw rfl rfl rfl) ?_ | refine Rg4.w4_skip (Rg4.un rfl rfl rfl) ?_
        (try simp only [Rg4.nrm])
        (first | (refine Rg4.w4_any (Rg4.wt rfl rfl rfl) rfl ?_; apply Exists.intro; refine ⟨fun w' => ?_, ?_⟩; (focus (first | (go_simp; done) | (go_simp; first | rfl | (rw [if_neg] <;> first | rfl | omega) | (rw [if_pos] <;> first | rfl | omega)))); (try simp only [Rg4.nrm])) | (refine Rg4.w4_skip (Rg4.uw rfl rfl rfl) ?_; (try simp only [Rg4.nrm])) | (refine Rg4.w4_skip (Rg4.un rfl rfl rfl) ?_; (try simp only [Rg4.nrm])))
        (refine Rg4.w4_any (Rg4.want_none rfl) rfl ?_; apply Exists.intro; refine ⟨fun w' => ?_, ?_⟩; (focus (first | (go_simp; done) | (go_simp; first | rfl | (rw [if_neg] <;> first | rfl | omega) | (rw [if_pos] <;> first | rfl | omega)))); (try simp only [Rg4.nrm]))
        refine Rg4.w4_nil (fun w' hw' hcl' _ => ?_); replace st := st.ext hw'; clear hw' hcl'; (try clear hc); have hc := st.facts; (try simp only [nfl, nft, Nat.reduceAdd] at hc)
        go_wp2_with fail
        go_ret2
        exact ⟨by rw [HF.out]; rfl, st.ext0⟩
      | true =>
        refine Rg4.wp_region4 (Rel := Ext) #[0, 0, 2, 7, 15, 31, 63, 63, 63, 447, 959, 2047, 4095, 8191]
          [(10, ⟨fun v w => ∃ fa fc, v = .slice fa j fc ∧ Fl w fa j ((l.map StepT.f).take j) , fun _ _ _ hx ⟨fa, fc, h1, h2⟩ => ⟨fa, fc, h1, Arr.ext h2 hx⟩⟩)] [3, 11] [2, 6] (fun _ => True) [0, 1, 2, 3, 4, 5, 6, 7, 8, 9, 10, 11, 12, 13] (by kernel_rfl) (by kernel_rfl) (by kernel_rfl) (by kernel_rfl) Ext.refl (fun _ _ _ => Ext.trans) (show Rg4.PB _ by repeat (first | with_reducible exact Rg4.pb_body | with_reducible exact Rg4.pb_bodyD rfl | with_reducible refine Rg4.pb_then ?_ | with_reducible refine Rg4.pb_inBlock ?_ | with_reducible refine Rg4.pb_noGoto ?_)) (trivial) ?_
        replace st := st.drew
        change Rg4.wp4 _ _ _ _ _ _ _ _ _ (World.drew _) _ _
        generalize World.drew _ = w at st ⊢
        (try clear hc); have hc := st.facts; (try simp only [nfl, nft, Nat.reduceAdd] at hc)
        iterate 2 (refine Rg4.w4_any (Rg4.want_none rfl) rfl ?_; apply Exists.intro; refine ⟨fun w' => ?_, ?_⟩; (focus (first | (go_simp; done) | (go_simp; first | rfl | (rw [if_neg] <;> first | rfl | omega) | (rw [if_pos] <;> first | rfl | omega)))); (try simp only [Rg4.nrm]))
        (refine Rg4.w4_read (Rg4.want_none rfl) rfl rfl ?_; apply Exists.intro; refine ⟨fun w' hw' hcl' => ?_, ?_⟩; focus (have st' := st.ext hw'; have hc' := st'.facts; (try simp only [nfl, nft, Nat.reduceAdd] at hc'); (focus (first | (go_simp; done) | (go_simp; first | rfl | (rw [if_neg] <;> first | rfl | omega) | (rw [if_pos] <;> first | rfl | omega))))); (try simp only [Rg4.nrm]))
        refine Rg4.w4_bar (Rg4.want_none rfl) rfl (fun w' hw' hcl _ K hK => ?_)
        replace st := st.ext hw'
        clear hw'
        (try clear hc); have hc := st.facts; (try simp only [nfl, nft, Nat.reduceAdd] at hc)
        go_wp2_with fail
        refine (HCH.out _ (st.oldFl (i := 0) get0 H'.out)).mono ?_
        rintro en w ⟨rfl, hx⟩
        replace st := st.ext hx
        clear hx
        (try clear hc); have hc := st.facts; (try simp only [nfl, nft, Nat.reduceAdd] at hc)
        refine hK _ _ ⟨trivial, ?_⟩
        clear hK
        (try simp only [Rg4.nrm])
        iterate 2 (refine Rg4.w4_any (Rg4.want_none rfl) rfl ?_; apply Exists.intro; refine ⟨fun w' => ?_, ?_⟩; (focus (first | (go_simp; done) | (go_simp; first | rfl | (rw [if_neg] <;> first | rfl | omega) | (rw [if_pos] <;> first | rfl | omega)))); (try simp only [Rg4.nrm]))
        (first | (refine Rg4.w4_read (Rg4.wt rfl rfl rfl) rfl rfl ?_; apply Exists.intro; refine ⟨fun w' hw' hcl' => ?_, ?_⟩; focus (have st' := st.ext hw'; have hc' := st'.facts; (try simp only [nfl, nft, Nat.reduceAdd] at hc'); (focus (first | (go_simp; done) | (go_simp; first | rfl | (rw [if_neg] <;> first | rfl | omega) | (rw [if_pos] <;> first | rfl | omega))))); (try simp only [Rg4.nrm])) | (refine Rg4.w4_skip (Rg4.uw rfl rfl rfl) ?_; (try simp only [Rg4.nrm])) | (refine Rg4.w4_skip (Rg4.un rfl rfl rfl) ?_; (try simp only [Rg4.nrm])))
        iterate 3 (first | (refine Rg4.w4_any (Rg4.wt rfl rfl rfl) rfl ?_; apply Exists.intro; refine ⟨fun w' => ?_, ?_⟩; (focus (first | (go_simp; done) | (go_simp; first | rfl | (rw [if_neg] <;> first | rfl | omega) | (rw [if_pos] <;> first | rfl | omega)))); (try simp only [Rg4.nrm])) | (refine Rg4.w4_skip (Rg4.uw rfl rfl rfl) ?_; (try simp only [Rg4.nrm])) | (refine Rg4.w4_skip (Rg4.un rfl rfl rfl) ?_; (try simp only [Rg4.nrm])))
        refine Rg4.w4_some (Rg4.want_of 5 22 false rfl rfl rfl) rfl (fun w' hw' hcl' _ => ?_) ?_
        · refine Rg.relAt_call (by go_simp; exact ⟨rfl, rfl⟩) ?_
          have st' := st.ext hw'
          refine (HFC.out _ ((st'.oldFl (i := 0) get0 H.out).pre j hj)).mono ?_
          rintro en w'' ⟨fa, fc, rfl, hfr⟩
          exact ⟨_, rfl, hfr.ext, trivial, fa, fc, rfl, (FreshI.fl (α := FactT) (E := 62) hfr).2⟩
        rintro v ⟨_, _, _, fa9, fc9, rfl, _⟩
        (try simp only [Rg4.nrm])

        refine Rg4.w4_bar (Rg4.want_of 5 22 false rfl rfl rfl) rfl (fun w' hw' hcl hF K hK => ?_)
        obtain ⟨fa, fc, hv, hfl⟩ := (hF 10).2 rfl
        cases hv
        replace st := st.ext hw'
        clear hF hcl hw'
        (try simp only [nsl, Value.cells, unB] at st)
        (try clear hc); have hc := st.facts; (try simp only [nfl, nft, Nat.reduceAdd] at hc)
        go_wp2_with fail
        refine (HFO.out _ _ _ hfl).mono ?_
        rintro en w ⟨rfl, hx⟩
        replace st := st.ext hx
        clear hx
        (try clear hc); have hc := st.facts; (try simp only [nfl, nft, Nat.reduceAdd] at hc)
        clear hfl
        refine hK _ _ ⟨trivial, ?_⟩
        clear hK
        (try simp only [Rg4.nrm])
        (first | (refine Rg4.w4_any (Rg4.wt rfl rfl rfl) rfl ?_; apply Exists.intro; refine ⟨fun w' => ?_, ?_⟩; (focus (first | (go_simp; done) | (go_simp; first | rfl | (rw [if_neg] <;> first | rfl | omega) | (rw [if_pos] <;> first | rfl | omega)))); (try simp only [Rg4.nrm])) | (refine Rg4.w4_skip (Rg4.uw rfl rfl rfl) ?_; (try simp only [Rg4.nrm])) | (refine Rg4.w4_skip (Rg4.un rfl rfl rfl) ?_; (try simp only [Rg4.nrm])))
        (refine Rg4.w4_any (Rg4.want_none rfl) rfl ?_; apply Exists.intro; refine ⟨fun w' => ?_, ?_⟩; (focus (first | (go_simp; done) | (go_simp; first | rfl | (rw [if_neg] <;> first | rfl | omega) | (rw [if_pos] <;> first | rfl | omega)))); (try simp only [Rg4.nrm]))
        refine Rg4.w4_nil (fun w' hw' hcl' _ => ?_); replace st := st.ext hw'; clear hw' hcl'; (try clear hc); have hc := st.facts; (try simp only [nfl, nft, Nat.reduceAdd] at hc)
        cases p with
        | true =>
          have HF : Hid (pl = chainFrom (badAt l cs) (j + 1) (n - (j + 1))) := Lib.hid (by rw [HTS.out]; simp)
          go_wp2_with fail
          have st' := st.keep [0, 1] (by decide) (by simp)
          go_roundg (n - (j + 1))
          case measure => omega
          case rel => exact ⟨j + 1, by omega, by omega, by go_num, HF, by simpa [pick] using st'⟩
        | false =>
          have HF : Hid (rv = .tuple #[.int .i64 (j : Int), .int .i64 50]) := Lib.hid (by
            have hp : pl = j := by rw [HTS.out]; simp
            rw [HR.out, hp, if_pos hjl])
          go_wp2_with fail
          go_ret2
          exact ⟨by rw [HF.out]; rfl, st.ext0⟩
    · obtain rfl : j = n := by omega
      have HPN : Hid (pl = j) := Lib.hid (by rw [HT.out, Nat.sub_self]; rfl)
      cases wi with
      | true =>
        have HF : Hid (rv = .tuple #[.int .i64 (j : Int), .int .i64 0]) := Lib.hid (by rw [HR.out, HPN.out, if_neg (by have := HNL.out; omega), if_pos (by have := HWI.out; simpa using this)])
        go_wp2_with fail
        refine Rg4.wp_region4 (Rel := Ext) #[0, 1, 0, 4, 0, 16, 63, 127]
          [(1, ⟨fun v w => ∃ fa fc, v = .slice fa j fc ∧ Fl w fa j (l.map StepT.f) , fun _ _ _ hx ⟨fa, fc, h1, h2⟩ => ⟨fa, fc, h1, Arr.ext h2 hx⟩⟩)] [6] [3, 5] (fun _ => True) [0, 1, 2, 3, 4, 5, 6, 7] (by kernel_rfl) (by kernel_rfl) (by kernel_rfl) (by kernel_rfl) Ext.refl (fun _ _ _ => Ext.trans) (show Rg4.PB _ by repeat (first | with_reducible exact Rg4.pb_body | with_reducible exact Rg4.pb_bodyD rfl | with_reducible refine Rg4.pb_then ?_ | with_reducible refine Rg4.pb_inBlock ?_ | with_reducible refine Rg4.pb_noGoto ?_)) (trivial) ?_
        replace st := st.drew
        change Rg4.wp4 _ _ _ _ _ _ _ _ _ (World.drew _) _ _
        generalize World.drew _ = w at st ⊢
        (try clear hc); have hc := st.facts; (try simp only [nfl, nft, Nat.reduceAdd] at hc)
        (refine Rg4.w4_any (Rg4.want_none rfl) rfl ?_; apply Exists.intro; refine ⟨fun w' => ?_, ?_⟩; (focus (first | (go_simp; done) | (go_simp; first | rfl | (rw [if_neg] <;> first | rfl | omega) | (rw [if_pos] <;> first | rfl | omega)))); (try simp only [Rg4.nrm]))
        refine Rg4.w4_some (Rg4.want_none rfl) rfl (fun w' hw' hcl' _ => ?_) ?_
        · refine Rg.relAt_call (by go_simp; exact ⟨rfl, rfl⟩) ?_
          have st' := st.ext hw'
          refine (HFW.out _ (st'.oldFl (i := 0) get0 H.out)).mono ?_
          rintro en w'' ⟨fa, fc, rfl, hfr⟩
          exact ⟨_, rfl, hfr.ext, trivial, fa, fc, rfl, (FreshI.fl (α := FactT) (E := 62) hfr).2⟩
        rintro v ⟨_, _, _, fa9, fc9, rfl, _⟩
        (try simp only [Rg4.nrm])
        (refine Rg4.w4_any (Rg4.want_none rfl) rfl ?_; apply Exists.intro; refine ⟨fun w' => ?_, ?_⟩; (focus (first | (go_simp; done) | (go_simp; first | rfl | (rw [if_neg] <;> first | rfl | omega) | (rw [if_pos] <;> first | rfl | omega)))); (try simp only [Rg4.nrm]))
        (refine Rg4.w4_read (Rg4.want_none rfl) rfl rfl ?_; apply Exists.intro; refine ⟨fun w' hw' hcl' => ?_, ?_⟩; focus (have st' := st.ext hw'; have hc' := st'.facts; (try simp only [nfl, nft, Nat.reduceAdd] at hc'); (focus (first | (go_simp; done) | (go_simp; first | rfl | (rw [if_neg] <;> first | rfl | omega) | (rw [if_pos] <;> first | rfl | omega))))); (try simp only [Rg4.nrm]))
        (refine Rg4.w4_any (Rg4.want_none rfl) rfl ?_; apply Exists.intro; refine ⟨fun w' => ?_, ?_⟩; (focus (first | (go_simp; done) | (go_simp; first | rfl | (rw [if_neg] <;> first | rfl | omega) | (rw [if_pos] <;> first | rfl | omega)))); (try simp only [Rg4.nrm]))
        (refine Rg4.w4_read (Rg4.want_none rfl) rfl rfl ?_; apply Exists.intro; refine ⟨fun w' hw' hcl' => ?_, ?_⟩; focus (have st' := st.ext hw'; have hc' := st'.facts; (try simp only [nfl, nft, Nat.reduceAdd] at hc'); (focus (first | (go_simp; done) | (go_simp; first | rfl | (rw [if_neg] <;> first | rfl | omega) | (rw [if_pos] <;> first | rfl | omega))))); (try simp only [Rg4.nrm]))
        refine Rg4.w4_bar (Rg4.want_none rfl) rfl (fun w' hw' hcl hF K hK => ?_)
        obtain ⟨fa, fc, hv, hfl⟩ := (hF 1).2 rfl
        cases hv
        replace st := st.ext hw'
        clear hF hcl hw'
        (try simp only [nsl, Value.cells, unB] at st)
        (try clear hc); have hc := st.facts; (try simp only [nfl, nft, Nat.reduceAdd] at hc)
        go_wp2_with fail
        refine (HWA.out _ _ _ hfl).mono ?_
        rintro en w ⟨rfl, hx⟩
        replace st := st.ext hx
        clear hx
        (try clear hc); have hc := st.facts; (try simp only [nfl, nft, Nat.reduceAdd] at hc)
        clear hfl
        refine hK _ _ ⟨trivial, ?_⟩
        clear hK
        (try simp only [Rg4.nrm])
        (refine Rg4.w4_any (Rg4.want_none rfl) rfl ?_; apply Exists.intro; refine ⟨fun w' => ?_, ?_⟩; (focus (first | (go_simp; done) | (go_simp; first | rfl | (rw [if_neg] <;> first | rfl | omega) | (rw [if_pos] <;> first | rfl | omega)))); (try simp only [Rg4.nrm]))
        refine Rg4.w4_nil (fun w' hw' hcl' _ => ?_); replace st := st.ext hw'; clear hw' hcl'; (try clear hc); have hc := st.facts; (try simp only [nfl, nft, Nat.reduceAdd] at hc)
        go_wp2_with fail
        go_ret2
        exact ⟨by rw [HF.out]; rfl, st.ext0⟩
      | false =>
        have HF : Hid (rv = .tuple #[.int .i64 (j : Int), .int .i64 42]) := Lib.hid (by rw [HR.out, HPN.out, if_neg (by have := HNL.out; omega), if_neg (by have := HWI.out; simpa using this)])
        go_wp2_with fail
        refine Rg4.wp_region4 (Rel := Ext) #[0, 1, 0, 4, 0, 16, 63, 127]
          [(1, ⟨fun v w => ∃ fa fc, v = .slice fa j fc ∧ Fl w fa j (l.map StepT.f) , fun _ _ _ hx ⟨fa, fc, h1, h2⟩ => ⟨fa, fc, h1, Arr.ext h2 hx⟩⟩)] [6] [3, 5] (fun _ => True) [0, 1, 2, 3, 4, 5, 6, 7] (by kernel_rfl) (by kernel_rfl) (by kernel_rfl) (by kernel_rfl) Ext.refl (fun _ _ _ => Ext.trans) (show Rg4.PB _ by repeat (first | with_reducible exact Rg4.pb_body | with_reducible exact Rg4.pb_bodyD rfl | with_reducible refine Rg4.pb_then ?_ | with_reducible refine Rg4.pb_inBlock ?_ | with_reducible refine Rg4.pb_noGoto ?_)) (trivial) ?_
        replace st := st.drew
        change Rg4.wp4 _ _ _ _ _ _ _ _ _ (World.drew _) _ _
        generalize World.drew _ = w at st ⊢
        (try clear hc); have hc := st.facts; (try simp only [nfl, nft, Nat.reduceAdd] at hc)
        (refine Rg4.w4_any (Rg4.want_none rfl) rfl ?_; apply Exists.intro; refine ⟨fun w' => ?_, ?_⟩; (focus (first | (go_simp; done) | (go_simp; first | rfl | (rw [if_neg] <;> first | rfl | omega) | (rw [if_pos] <;> first | rfl | omega)))); (try simp only [Rg4.nrm]))
        refine Rg4.w4_some (Rg4.want_none rfl) rfl (fun w' hw' hcl' _ => ?_) ?_
        · refine Rg.relAt_call (by go_simp; exact ⟨rfl, rfl⟩) ?_
          have st' := st.ext hw'
          refine (HFW.out _ (st'.oldFl (i := 0) get0 H.out)).mono ?_
          rintro en w'' ⟨fa, fc, rfl, hfr⟩
          exact ⟨_, rfl, hfr.ext, trivial, fa, fc, rfl, (FreshI.fl (α := FactT) (E := 62) hfr).2⟩
        rintro v ⟨_, _, _, fa9, fc9, rfl, _⟩
        (try simp only [Rg4.nrm])
        (refine Rg4.w4_any (Rg4.want_none rfl) rfl ?_; apply Exists.intro; refine ⟨fun w' => ?_, ?_⟩; (focus (first | (go_simp; done) | (go_simp; first | rfl | (rw [if_neg] <;> first | rfl | omega) | (rw [if_pos] <;> first | rfl | omega)))); (try simp only [Rg4.nrm]))
        (refine Rg4.w4_read (Rg4.want_none rfl) rfl rfl ?_; apply Exists.intro; refine ⟨fun w' hw' hcl' => ?_, ?_⟩; focus (have st' := st.ext hw'; have hc' := st'.facts; (try simp only [nfl, nft, Nat.reduceAdd] at hc'); (focus (first | (go_simp; done) | (go_simp; first | rfl | (rw [if_neg] <;> first | rfl | omega) | (rw [if_pos] <;> first | rfl | omega))))); (try simp only [Rg4.nrm]))
        (refine Rg4.w4_any (Rg4.want_none rfl) rfl ?_; apply Exists.intro; refine ⟨fun w' => ?_, ?_⟩; (focus (first | (go_simp; done) | (go_simp; first | rfl | (rw [if_neg] <;> first | rfl | omega) | (rw [if_pos] <;> first | rfl | omega)))); (try simp only [Rg4.nrm]))
        (refine Rg4.w4_read (Rg4.want_none rfl) rfl rfl ?_; apply Exists.intro; refine ⟨fun w' hw' hcl' => ?_, ?_⟩; focus (have st' := st.ext hw'; have hc' := st'.facts; (try simp only [nfl, nft, Nat.reduceAdd] at hc'); (focus (first | (go_simp; done) | (go_simp; first | rfl | (rw [if_neg] <;> first | rfl | omega) | (rw [if_pos] <;> first | rfl | omega))))); (try simp only [Rg4.nrm]))
        refine Rg4.w4_bar (Rg4.want_none rfl) rfl (fun w' hw' hcl hF K hK => ?_)
        obtain ⟨fa, fc, hv, hfl⟩ := (hF 1).2 rfl
        cases hv
        replace st := st.ext hw'
        clear hF hcl hw'
        (try simp only [nsl, Value.cells, unB] at st)
        (try clear hc); have hc := st.facts; (try simp only [nfl, nft, Nat.reduceAdd] at hc)
        go_wp2_with fail
        refine (HWA.out _ _ _ hfl).mono ?_
        rintro en w ⟨rfl, hx⟩
        replace st := st.ext hx
        clear hx
        (try clear hc); have hc := st.facts; (try simp only [nfl, nft, Nat.reduceAdd] at hc)
        clear hfl
        refine hK _ _ ⟨trivial, ?_⟩
        clear hK
        (try simp only [Rg4.nrm])
        (refine Rg4.w4_any (Rg4.want_none rfl) rfl ?_; apply Exists.intro; refine ⟨fun w' => ?_, ?_⟩; (focus (first | (go_simp; done) | (go_simp; first | rfl | (rw [if_neg] <;> first | rfl | omega) | (rw [if_pos] <;> first | rfl | omega)))); (try simp only [Rg4.nrm]))
        refine Rg4.w4_nil (fun w' hw' hcl' _ => ?_); replace st := st.ext hw'; clear hw' hcl'; (try clear hc); have hc := st.facts; (try simp only [nfl, nft, Nat.reduceAdd] at hc)
        go_wp2_with fail
        go_ret2
        exact ⟨by rw [HF.out]; rfl, st.ext0⟩
end Go.Proofs.Ytekngjkjgmplpaa

namespace Go.Proofs.Ytekngjkjgmplpaa
set_option linter.unusedSimpArgs false
set_option linter.unusedVariables false
open Go Go.RowKit
theorem wtS_L {x : StepT} (h : wtS x ≤ 100000) : StL x := by
  unfold wtS wtC at h
  unfold StL CLenS
  omega
theorem weightS_L {l : List StepT} (h : weightS l ≤ 100000) : ∀ x ∈ l, StL x := fun x hx => wtS_L (Nat.le_trans (weightS_mem l x hx) h)
set_option maxRecDepth 100000 in
set_option maxHeartbeats 4000000 in
theorem checkTight_all (a : Option Addr) (n c : Nat) (l : List StepT) (W : World) (h : Fl W a n l) (hc : n ≤ c ∧ c ≤ maxLen) (hw : weightS l ≤ 21000000) :
    Calls Try.prog 5 #[.slice a n c] W fun e w' => e = .returned (.bool true) ∧ Ext W w' := by
  have hnl : weightS l ≤ 100000 → n ≤ 1000000 := fun q => by have := weightS_len l; have := h.1; omega
  have HNB := Lib.hid hnl
  have H := Lib.hid h
  have HC := Lib.hid hc
  have HG := Lib.hid (fun W' h => stepGreat_any a n c l W' h (by omega))
  have HT := Lib.hid (fun W' h q => chkTight_any a n c l W' h (hnl q) (fun x hx => (weightS_L q x hx).1))
  have HR := Lib.hid (fun W' h q => refTight_any a n c l W' h hc.1 (hnl q) (fun x hx => (weightS_L q x hx).1))
  obtain ⟨q, hq⟩ : ∃ q, weightS l = q := ⟨_, rfl⟩
  rw [hq] at HG HT HR hw HNB
  obtain ⟨t, ht⟩ : ∃ t, tightB l = t := ⟨_, rfl⟩
  rw [ht] at HT HR
  have htt : (t == t) = true := by simp
  clear h hc hq ht hnl
  have st := Own.startOld W
  (try simp only [nsl, Value.cells, unB] at st)
  (try clear hc); have hc := st.facts; (try simp only [nfl, nft, Nat.reduceAdd] at hc)
  go_enter Try.func5, Try.ntmps5
  go_wp2_with fail
  refine (chkFirst_any _).mono ?_
  rintro en w ⟨rfl, hx⟩
  replace st := st.ext hx
  clear hx
  (try clear hc); have hc := st.facts; (try simp only [nfl, nft, Nat.reduceAdd] at hc)
  go_wp2_with fail
  refine (HG.out _ (st.oldFl (i := 0) get0 H.out)).mono ?_
  rintro en w ⟨rfl, hx⟩
  replace st := st.ext hx
  clear hx
  (try clear hc); have hc := st.facts; (try simp only [nfl, nft, Nat.reduceAdd] at hc)
  by_cases h1 : 1500 < q
  · skip
    go_wp2_with fail
    go_ret
    exact ⟨rfl, st.ext0⟩
  have hq2 : q ≤ 100000 := by omega
  have hnl := HNB.out hq2
  go_wp2_with fail
  refine (HT.out _ (st.oldFl (i := 0) get0 H.out) hq2).mono ?_
  rintro en w ⟨rfl, hx⟩
  replace st := st.ext hx
  clear hx
  (try clear hc); have hc := st.facts; (try simp only [nfl, nft, Nat.reduceAdd] at hc)
  go_wp2_with fail
  refine (HR.out _ (st.oldFl (i := 0) get0 H.out) hq2).mono ?_
  rintro en w ⟨rfl, hx⟩
  replace st := st.ext hx
  clear hx
  (try clear hc); have hc := st.facts; (try simp only [nfl, nft, Nat.reduceAdd] at hc)
  go_wp2_with fail
  go_ret
  exact ⟨rfl, st.ext0⟩
set_option maxRecDepth 100000 in
set_option maxHeartbeats 8000000 in
theorem checkTells_all (a : Option Addr) (n c : Nat) (l : List StepT) (a' : Option Addr) (n' c' : Nat) (cs : List CredT) (want : FactT) (W : World) (h : Fl W a n l) (hc : n ≤ c ∧ c ≤ maxLen) (h' : Fl W a' n' cs) (hw : weightS l ≤ 21000000 ∧ weightC cs ≤ 21000000) :
    Calls Try.prog 4 #[.slice a n c, .slice a' n' c', fV want] W fun e w' => e = .returned (.bool true) ∧ Ext W w' := by
  have hnl : weightS l ≤ 100000 → n ≤ 1000000 := fun q => by have := weightS_len l; have := h.1; omega
  have HNB := Lib.hid hnl
  have hnl' : n' ≤ 2000000 := by have := weightC_len cs; have := h'.1; omega
  have H := Lib.hid h
  have H' := Lib.hid h'
  have HNL := Lib.hid h.1
  have hcn := hc.1
  have hcm := hc.2
  have HG := Lib.hid (fun W' h => stepGreat_any a n c l W' h (by omega))
  have HG' := Lib.hid (fun W' h => credGreat_any a' n' c' cs W' h (by omega))
  have HCK := Lib.hid (fun W' h h' q => chkCheck_any a n c l a' n' c' cs want W' h (hnl q) (fun x hx => (weightS_L q x hx).1) h' (by omega))
  have HRK := Lib.hid (fun W' h h' q => refCheck_any a n c l a' n' c' cs want W' h hc.1 (hnl q) (fun x hx => (weightS_L q x hx).1) h' (by omega))
  obtain ⟨pv, ev, hpe⟩ : ∃ p e : Int, checkV l cs want = .tuple #[.int .i64 p, .int .i64 e] := ⟨_, _, rfl⟩
  rw [hpe] at HCK HRK
  have HL : Hid (weightS l ≤ 100000 → ∀ x ∈ l, StL x) := Lib.hid weightS_L
  obtain ⟨q, hq⟩ : ∃ q, weightS l = q := ⟨_, rfl⟩
  rw [hq] at HG HCK HRK HL hw HNB
  obtain ⟨q', hq'⟩ : ∃ q, weightC cs = q := ⟨_, rfl⟩
  rw [hq'] at HG' hw
  obtain ⟨hw1, hw2⟩ := hw
  have hpp : (pv == pv) = true := by simp
  have hee : (ev == ev) = true := by simp
  clear h hc hq hq' h' hpe hnl
  obtain ⟨⟨qo, qd⟩, qw⟩ := want
  have st := Own.startOld W
  unfold fV S at *
  (try simp only [nsl, Value.cells, unB] at st)
  (try clear hc); have hc := st.facts; (try simp only [nfl, nft, Nat.reduceAdd] at hc)
  go_enter Try.func4, Try.ntmps4
  go_wp2_with ((((with_reducible refine wl_box ?_ (fun K hK => ?_)); rfl; refine owp_box (o := ⟨some 5, _, _, _, _, _⟩) rfl st ?_; apply Exists.intro; refine ⟨?_, ?_⟩; (focus (go_simp; try rfl)); (clear st; intro b5 w hb st; clear hb))); (try simp only [nsl, Value.cells, unB] at st); (try clear hc); have hc := st.facts; (try simp only [nfl, nft, Nat.reduceAdd] at hc))
  refine (chkFirst_any _).mono ?_
  rintro en w ⟨rfl, hx⟩
  replace st := st.ext hx
  clear hx
  (try clear hc); have hc := st.facts; (try simp only [nfl, nft, Nat.reduceAdd] at hc)
  go_wp2_with fail
  refine (HG.out _ (st.oldFl (i := 0) get0 H.out)).mono ?_
  rintro en w ⟨rfl, hx⟩
  replace st := st.ext hx
  clear hx
  (try clear hc); have hc := st.facts; (try simp only [nfl, nft, Nat.reduceAdd] at hc)
  go_wp2_with fail
  refine (HG'.out _ (st.oldFl (i := 0) get0 H'.out)).mono ?_
  rintro en w ⟨rfl, hx⟩
  replace st := st.ext hx
  clear hx
  (try clear hc); have hc := st.facts; (try simp only [nfl, nft, Nat.reduceAdd] at hc)
  by_cases h1 : 2500 < q + q'
  · skip
    go_wp2_with fail
    go_ret
    exact ⟨rfl, st.ext0⟩
  have hq2 : q ≤ 100000 := by omega
  have hnl := HNB.out hq2
  go_wp2_with fail
  go_loopg [24] n (fun kk i wr => ∃ (j : Nat), j ≤ n ∧ kk = n - j ∧ i = .int .i64 (j : Int) ∧ Own (fun _ => False) (fun _ => True) W [oldI W, blkI b5 [.string ⟨qo.toArray⟩, .string ⟨qd.toArray⟩, .string ⟨qw.toArray⟩]] wr)
  case atStart => exact ⟨0, by omega, by omega, rfl, st⟩
  case round =>
    obtain ⟨j, hj, rfl, rfl, st'⟩ := hrel
    clear st hc
    have st := st'
    clear st'
    (try simp only [nsl, Value.cells, unB] at st)
    (try clear hc); have hc := st.facts; (try simp only [nfl, nft, Nat.reduceAdd] at hc)
    by_cases hjn : j < n
    · obtain ⟨b, off, ha, hcell⟩ := H.out.step (by omega)
      have hjl : j < l.length := by have := HNL.out; omega
      obtain ⟨r0, r1, r2, r3, r4, r5, r6, r7, r8, r9, r10, r11⟩ := hcell j l[j] (List.getElem?_eq_getElem hjl)
      replace r0 := st.oldCell (i := 0) get0 r0
      replace r1 := st.oldCell (i := 0) get0 r1
      replace r2 := st.oldCell (i := 0) get0 r2
      replace r3 := st.oldCell (i := 0) get0 r3
      replace r4 := st.oldCell (i := 0) get0 r4
      replace r5 := st.oldCell (i := 0) get0 r5
      replace r6 := st.oldCell (i := 0) get0 r6
      replace r7 := st.oldCell (i := 0) get0 r7
      replace r8 := st.oldCell (i := 0) get0 r8
      replace r9 := st.oldCell (i := 0) get0 r9
      replace r10 := st.oldCell (i := 0) get0 r10
      replace r11 := st.oldCell (i := 0) get0 r11
      have HCL := Lib.hid ((HL.out hq2) _ (List.getElem_mem hjl)).1
      clear hcell
      generalize l[j] = x at *
      subst ha
      have HF1 := Lib.hid (fun fa fc W h => chkFollows_any x fa j fc ((l.take j).map StepT.f) W h (by omega) HCL.out)
      have HF2 := Lib.hid (fun fa fc W h => refFollows_any x fa j fc ((l.take j).map StepT.f) W h (by omega) HCL.out)
      have HFC := Lib.hid (fun W h => refFacts_any (some ⟨b, off, none⟩) j c (l.take j) W h (by omega))
      have hjc : j ≤ c := by omega
      obtain ⟨p, hp⟩ : ∃ p, folB ((l.take j).map StepT.f) x = p := ⟨_, rfl⟩
      rw [hp] at HF1 HF2
      have hpb : (p != p) = false := by simp
      obtain ⟨⟨ck, ⟨ho, hd⟩, cw, ⟨bo, bd⟩, ⟨co, cd⟩, we⟩, ⟨⟨ro, rd⟩, fw⟩⟩ := x
      simp only at r0 r1 r2 r3 r4 r5 r6 r7 r8 r9 r10 r11
      unfold stV at HF1 HF2
      unfold S at r1 r2 r3 r4 r5 r6 r7 r8 r9 r10 r11 HF1 HF2
      clear hp hjl HCL
      go_wp2_with ((first
            | ((with_reducible refine wl_alloc ?_ (fun K hK => ?_)); rfl; refine owp_alloc (o := ⟨some 8, _, _, _, _, _⟩) rfl st ?_; apply Exists.intro; apply Exists.intro; refine ⟨?_, ?_⟩; (focus (first | (go_simp; done) | (go_simp; rfl))); (clear st; intro b8 w hb st; clear hb))
            | ((with_reducible refine wl_store ?_ (fun K hK => ?_)); rfl; refine owp_store rfl st ?_; apply Exists.intro; apply Exists.intro; refine ⟨?_, ?_, ?_⟩; (focus (go_simp; try rfl)); (focus (go_simp; try rfl)); (with_reducible refine ⟨2, _, _, _, _, get2, rfl, rfl, ?_, ?_, ?_, ?_⟩); (kernel_rfl); (simp [Value.cells]); (rfl); (clear st; intro w st))); (try simp only [nsl, Value.cells, unB] at st); (try clear hc); have hc := st.facts; (try simp only [nfl, nft, Nat.reduceAdd] at hc))
      clear r0 r1 r2 r3 r4 r5 r6 r7 r8 r9 r10 r11
      refine (HFC.out _ ((st.oldFl (i := 0) get0 H.out).pre j hj)).mono ?_
      rintro en w ⟨fa, fc, rfl, hfr⟩
      replace st := st.fresh hfr
      clear hfr
      (try simp only [nsl, Value.cells, unB] at st)
      (try clear hc); have hc := st.facts; (try simp only [nfl, nft, Nat.reduceAdd] at hc)
      go_wp2_with fail
      refine Rg4.wp_region4 (Rel := Ext) #[0, 0, 3, 0, 0, 31, 63]
        [(2, .val (.bool p)), (5, .val (.bool p))] [] [0, 3] (fun _ => True) [0, 1, 2, 3, 4, 5, 6] (by kernel_rfl) (by kernel_rfl) (by kernel_rfl) (by kernel_rfl) Ext.refl (fun _ _ _ => Ext.trans) (show Rg4.PB _ by repeat (first | with_reducible exact Rg4.pb_body | with_reducible exact Rg4.pb_bodyD rfl | with_reducible refine Rg4.pb_then ?_ | with_reducible refine Rg4.pb_inBlock ?_ | with_reducible refine Rg4.pb_noGoto ?_)) (trivial) ?_
      replace st := st.drew
      change Rg4.wp4 _ _ _ _ _ _ _ _ _ (World.drew _) _ _
      generalize World.drew _ = w at st ⊢
      (try clear hc); have hc := st.facts; (try simp only [nfl, nft, Nat.reduceAdd] at hc)
      (refine Rg4.w4_read (Rg4.want_none rfl) rfl rfl ?_; apply Exists.intro; refine ⟨fun w' hw' hcl' => ?_, ?_⟩; focus (have st' := st.ext hw'; have hc' := st'.facts; (try simp only [nfl, nft, Nat.reduceAdd] at hc'); (focus (first | (go_simp; done) | (go_simp; first | rfl | (rw [if_neg] <;> first | rfl | omega) | (rw [if_pos] <;> first | rfl | omega))))); (try simp only [Rg4.nrm]))
      (refine Rg4.w4_any (Rg4.want_none rfl) rfl ?_; apply Exists.intro; refine ⟨fun w' => ?_, ?_⟩; (focus (first | (go_simp; done) | (go_simp; first | rfl | (rw [if_neg] <;> first | rfl | omega) | (rw [if_pos] <;> first | rfl | omega)))); (try simp only [Rg4.nrm]))
      refine Rg4.w4_some (Rg4.want_none rfl) rfl (fun w' hw' hcl' _ => ?_) ?_
      · refine Rg.relAt_call (by go_simp; exact ⟨rfl, rfl⟩) ?_
        have st' := st.ext hw'
        refine (HF1.out _ _ _ (rowFl' (α := FactT) st' (i := 3) get3).2).mono ?_
        rintro en w'' ⟨rfl, hx⟩
        exact ⟨_, rfl, hx, trivial, rfl⟩
      rintro v ⟨_, _, _, rfl⟩
      (try simp only [Rg4.nrm])
      (refine Rg4.w4_read (Rg4.want_none rfl) rfl rfl ?_; apply Exists.intro; refine ⟨fun w' hw' hcl' => ?_, ?_⟩; focus (have st' := st.ext hw'; have hc' := st'.facts; (try simp only [nfl, nft, Nat.reduceAdd] at hc'); (focus (first | (go_simp; done) | (go_simp; first | rfl | (rw [if_neg] <;> first | rfl | omega) | (rw [if_pos] <;> first | rfl | omega))))); (try simp only [Rg4.nrm]))
      (refine Rg4.w4_any (Rg4.want_none rfl) rfl ?_; apply Exists.intro; refine ⟨fun w' => ?_, ?_⟩; (focus (first | (go_simp; done) | (go_simp; first | rfl | (rw [if_neg] <;> first | rfl | omega) | (rw [if_pos] <;> first | rfl | omega)))); (try simp only [Rg4.nrm]))
      refine Rg4.w4_some (Rg4.want_none rfl) rfl (fun w' hw' hcl' _ => ?_) ?_
      · refine Rg.relAt_call (by go_simp; exact ⟨rfl, rfl⟩) ?_
        have st' := st.ext hw'
        refine (HF2.out _ _ _ (rowFl' (α := FactT) st' (i := 3) get3).2).mono ?_
        rintro en w'' ⟨rfl, hx⟩
        exact ⟨_, rfl, hx, trivial, rfl⟩
      rintro v ⟨_, _, _, rfl⟩
      (try simp only [Rg4.nrm])
      (refine Rg4.w4_any (Rg4.want_none rfl) rfl ?_; apply Exists.intro; refine ⟨fun w' => ?_, ?_⟩; (focus (first | (go_simp; done) | (go_simp; first | rfl | (rw [if_neg] <;> first | rfl | omega) | (rw [if_pos] <;> first | rfl | omega)))); (try simp only [Rg4.nrm]))
      refine Rg4.w4_nil (fun w' hw' hcl' _ => ?_); replace st := st.ext hw'; clear hw' hcl'; (try clear hc); have hc := st.facts; (try simp only [nfl, nft, Nat.reduceAdd] at hc)
      go_wp2_with fail
      have st' := st.keep [0, 1] (by decide) (by simp)
      go_roundg (n - (j + 1))
      case measure => omega
      case rel => exact ⟨j + 1, by omega, by omega, by go_num, by simpa [pick] using st'⟩
    · obtain rfl : j = n := by omega
      go_wp2_with fail
      refine (HCK.out _ (st.oldFl (i := 0) get0 H.out) (st.oldFl (i := 0) get0 H'.out) hq2).mono ?_
      rintro en w ⟨rfl, hx⟩
      replace st := st.ext hx
      clear hx
      (try clear hc); have hc := st.facts; (try simp only [nfl, nft, Nat.reduceAdd] at hc)
      go_wp2_with fail
      refine (HRK.out _ (st.oldFl (i := 0) get0 H.out) (st.oldFl (i := 0) get0 H'.out) hq2).mono ?_
      rintro en w ⟨rfl, hx⟩
      replace st := st.ext hx
      clear hx
      (try clear hc); have hc := st.facts; (try simp only [nfl, nft, Nat.reduceAdd] at hc)
      go_wp2_with fail
      go_ret
      exact ⟨rfl, st.ext0⟩
end Go.Proofs.Ytekngjkjgmplpaa

namespace Go.Proofs.Ytekngjkjgmplpaa
set_option linter.unusedSimpArgs false
set_option linter.unusedVariables false
open Go Go.RowKit
set_option maxRecDepth 100000 in
set_option maxHeartbeats 4000000 in
theorem refCredGet_c {fr al : Nat → Prop} {w : World} {t : Nat} {xs : List UInt8} (st : Own fr al w [refI t (.ok xs)] w) (hl : xs.length ≤ 1000000) :
    Calls Try.prog 127 #[.pointer (some ⟨t, 0, none⟩)] w (RefC fr al w t (rdCred xs) (cV zC) cV) := by
  have hz : cV zC = .agg #[.int .i64 0, .string ⟨#[]⟩, .string ⟨#[]⟩, .string ⟨#[]⟩, .string ⟨#[]⟩, .string ⟨#[]⟩, .string ⟨#[]⟩, .string ⟨#[]⟩, .string ⟨#[]⟩] := rfl
  have HZ := Lib.hid hz
  clear hz
  go_enter Try.func127, Try.ntmps127
  go_wp2_with ((((with_reducible refine wl_alloc ?_ (fun K hK => ?_)); rfl; refine owp_alloc (o := ⟨some 2, _, _, _, _, _⟩) rfl st ?_; apply Exists.intro; apply Exists.intro; refine ⟨?_, ?_⟩; (focus (first | (go_simp; done) | (go_simp; rfl))); (clear st; intro b2 w hb st; clear hb))); (try simp only [nsl, Value.cells, unB] at st); (try clear hc); have hc := st.facts; (try simp only [nfl, nft, Nat.reduceAdd] at hc))
  obtain ⟨fr', al', st', back⟩ := st.sub [0] (by decide) (by simp)
  (try simp only [nsl, Value.cells, unB] at st')
  refine (refNumber_m st' 9223372036854775807).mono ?_
  clear st'
  intro en w hen
  unfold RefC at hen
  rw [show bnd (Except.ok xs) (rdNumber 9223372036854775807) = rdNumber 9223372036854775807 xs from rfl] at hen
  cases hr : rdNumber 9223372036854775807 xs with
  | error e =>
    rw [hr] at hen
    obtain ⟨rfl, st'⟩ := hen
    replace st := back _ _ (by simp) st'
    clear back st'
    (try simp only [nsl, Value.cells, unB] at st)
    (try clear hc); have hc := st.facts; (try simp only [nfl, nft, Nat.reduceAdd] at hc)
    have H1 : Hid (rdCred xs = .error e) := Lib.hid (by simp [rdCred,  hr, bd])
    clear hr
    obtain ⟨zq, he, st1⟩ := st.refErr (i := 0) get0
    clear st
    have st := st1
    clear st1
    have hne : ((e : Int) != 0) = true := bne_iff_ne.2 he
    have hne2 : ((e : Int) == 0) = false := beq_eq_false_iff_ne.2 he
    (try simp only [nsl, Value.cells, unB] at st)
    (try clear hc); have hc := st.facts; (try simp only [nfl, nft, Nat.reduceAdd] at hc)
    (try unfold S)
    go_wp2_with ((first
          | ((with_reducible refine wl_alloc ?_ (fun K hK => ?_)); rfl; refine owp_alloc (o := ⟨some 3, _, _, _, _, _⟩) rfl st ?_; apply Exists.intro; apply Exists.intro; refine ⟨?_, ?_⟩; (focus (first | (go_simp; done) | (go_simp; rfl))); (clear st; intro b3 w hb st; clear hb))
          | ((with_reducible refine wl_store ?_ (fun K hK => ?_)); rfl; refine owp_store rfl st ?_; apply Exists.intro; apply Exists.intro; refine ⟨?_, ?_, ?_⟩; (focus (go_simp; try rfl)); (focus (go_simp; try rfl)); (with_reducible refine ⟨2, _, _, _, _, get2, rfl, rfl, ?_, ?_, ?_, ?_⟩); (kernel_rfl); (simp [Value.cells]); (rfl); (clear st; intro w st))); (try simp only [nsl, Value.cells, unB] at st); (try clear hc); have hc := st.facts; (try simp only [nfl, nft, Nat.reduceAdd] at hc))
    replace st := st.refMkE (i := 0) (t := t) (xs := zq) (er := e) rfl he
    (try simp only [nsl, Value.cells, unB] at st)
    (try clear hc); have hc := st.facts; (try simp only [nfl, nft, Nat.reduceAdd] at hc)
    obtain ⟨fr', al', st', back⟩ := st.sub [0] (by decide) (by simp)
    (try simp only [nsl, Value.cells, unB] at st')
    refine (refGetRole_m st' (fun xs hx => by cases hx)).mono ?_
    clear st'
    intro en w hen
    unfold RefC bnd at hen
    obtain ⟨rfl, st'⟩ := hen
    replace st := back _ _ (by simp) st'
    clear back st'
    (try simp only [nsl, Value.cells, unB] at st)
    (try clear hc); have hc := st.facts; (try simp only [nfl, nft, Nat.reduceAdd] at hc)
    (try unfold rV)
    (try unfold S)
    obtain ⟨zq, he, st1⟩ := st.refErr (i := 0) get0
    clear st
    have st := st1
    clear st1
    have hne : ((e : Int) != 0) = true := bne_iff_ne.2 he
    have hne2 : ((e : Int) == 0) = false := beq_eq_false_iff_ne.2 he
    (try simp only [nsl, Value.cells, unB] at st)
    (try clear hc); have hc := st.facts; (try simp only [nfl, nft, Nat.reduceAdd] at hc)
    (try unfold S)
    go_wp2_with ((((with_reducible refine wl_store ?_ (fun K hK => ?_)); rfl; refine owp_store rfl st ?_; apply Exists.intro; apply Exists.intro; refine ⟨?_, ?_, ?_⟩; (focus (go_simp; try rfl)); (focus (go_simp; try rfl)); (first | (with_reducible refine ⟨1, _, _, _, _, get1, rfl, rfl, ?_, ?_, ?_, ?_⟩) | (with_reducible refine ⟨2, _, _, _, _, get2, rfl, rfl, ?_, ?_, ?_, ?_⟩)); (kernel_rfl); (simp [Value.cells]); (rfl); (clear st; intro w st))); (try simp only [nsl, Value.cells, unB] at st); (try clear hc); have hc := st.facts; (try simp only [nfl, nft, Nat.reduceAdd] at hc))
    (try simp only [Exit.inBlock, Exit.then])
    refine bodyPost_cell rfl rfl (st.blk (i := 1) get1) Try.underlying32 rfl (by kernel_rfl) rfl ?_
    unfold RefC
    rw [H1.out]
    have st2 := (st.refMkE (i := 0) (t := t) (xs := zq) (er := e) rfl he).keep [0] (by decide) (by simp)
    exact ⟨rfl, by simpa [pick] using st2⟩
  | ok p =>
    obtain ⟨n, ys⟩ := p
    rw [hr] at hen
    obtain ⟨rfl, st'⟩ := hen
    replace st := back _ _ (by simp) st'
    clear back st'
    (try simp only [nsl, Value.cells, unB] at st)
    (try clear hc); have hc := st.facts; (try simp only [nfl, nft, Nat.reduceAdd] at hc)
    (try dsimp only)
    have hl0 := rdNumber_le hr
    have HR0 := Lib.hid hr
    clear hr
    match n, HR0 with
    | 0, HR0 =>
      have H1 : Hid (rdCred xs = .error 11) := Lib.hid (by simp [rdCred, HR0.out, bd])
      replace st := st.refOk (i := 0) get0
      (try unfold S at st)
      (try unfold S)
      (try simp only [nsl, Value.cells, unB] at st)
      (try clear hc); have hc := st.facts; (try simp only [nfl, nft, Nat.reduceAdd] at hc)
      go_wp2_with ((first
            | ((with_reducible refine wl_alloc ?_ (fun K hK => ?_)); rfl; refine owp_alloc (o := ⟨some 3, _, _, _, _, _⟩) rfl st ?_; apply Exists.intro; apply Exists.intro; refine ⟨?_, ?_⟩; (focus (first | (go_simp; done) | (go_simp; rfl))); (clear st; intro b3 w hb st; clear hb))
            | ((with_reducible refine wl_store ?_ (fun K hK => ?_)); rfl; refine owp_store rfl st ?_; apply Exists.intro; apply Exists.intro; refine ⟨?_, ?_, ?_⟩; (focus (go_simp; try rfl)); (focus (go_simp; try rfl)); (first | (with_reducible refine ⟨0, _, _, _, _, get0, rfl, rfl, ?_, ?_, ?_, ?_⟩) | (with_reducible refine ⟨2, _, _, _, _, get2, rfl, rfl, ?_, ?_, ?_, ?_⟩)); (kernel_rfl); (simp [Value.cells]); (rfl); (clear st; intro w st))); (try simp only [nsl, Value.cells, unB] at st); (try clear hc); have hc := st.facts; (try simp only [nfl, nft, Nat.reduceAdd] at hc))
      replace st := st.refMkE (i := 0) (t := t) (xs := ys) (er := 11) rfl (by decide)
      (try simp only [nsl, Value.cells, unB] at st)
      (try clear hc); have hc := st.facts; (try simp only [nfl, nft, Nat.reduceAdd] at hc)
      obtain ⟨fr', al', st', back⟩ := st.sub [0] (by decide) (by simp)
      (try simp only [nsl, Value.cells, unB] at st')
      refine (refGetRole_m st' (fun xs hx => by cases hx)).mono ?_
      clear st'
      intro en w hen
      unfold RefC bnd at hen
      obtain ⟨rfl, st'⟩ := hen
      replace st := back _ _ (by simp) st'
      clear back st'
      (try simp only [nsl, Value.cells, unB] at st)
      (try clear hc); have hc := st.facts; (try simp only [nfl, nft, Nat.reduceAdd] at hc)
      (try unfold rV)
      (try unfold S)
      obtain ⟨zq, he, st1⟩ := st.refErr (i := 0) get0
      clear st
      have st := st1
      clear st1
      have hne : ((11 : Int) != 0) = true := bne_iff_ne.2 he
      have hne2 : ((11 : Int) == 0) = false := beq_eq_false_iff_ne.2 he
      (try simp only [nsl, Value.cells, unB] at st)
      (try clear hc); have hc := st.facts; (try simp only [nfl, nft, Nat.reduceAdd] at hc)
      (try unfold S)
      go_wp2_with ((((with_reducible refine wl_store ?_ (fun K hK => ?_)); rfl; refine owp_store rfl st ?_; apply Exists.intro; apply Exists.intro; refine ⟨?_, ?_, ?_⟩; (focus (go_simp; try rfl)); (focus (go_simp; try rfl)); (first | (with_reducible refine ⟨1, _, _, _, _, get1, rfl, rfl, ?_, ?_, ?_, ?_⟩) | (with_reducible refine ⟨2, _, _, _, _, get2, rfl, rfl, ?_, ?_, ?_, ?_⟩)); (kernel_rfl); (simp [Value.cells]); (rfl); (clear st; intro w st))); (try simp only [nsl, Value.cells, unB] at st); (try clear hc); have hc := st.facts; (try simp only [nfl, nft, Nat.reduceAdd] at hc))
      (try simp only [Exit.inBlock, Exit.then])
      refine bodyPost_cell rfl rfl (st.blk (i := 1) get1) Try.underlying32 rfl (by kernel_rfl) rfl ?_
      unfold RefC
      rw [H1.out]
      have st2 := (st.refMkE (i := 0) (t := t) (xs := zq) (er := 11) rfl he).keep [0] (by decide) (by simp)
      exact ⟨rfl, by simpa [pick] using st2⟩
    | 1, HR0 =>
      replace st := st.refOk (i := 0) get0
      (try unfold S at st)
      (try unfold S)
      (try simp only [nsl, Value.cells, unB] at st)
      (try clear hc); have hc := st.facts; (try simp only [nfl, nft, Nat.reduceAdd] at hc)
      go_wp2_with ((first
            | ((with_reducible refine wl_alloc ?_ (fun K hK => ?_)); rfl; refine owp_alloc (o := ⟨some 3, _, _, _, _, _⟩) rfl st ?_; apply Exists.intro; apply Exists.intro; refine ⟨?_, ?_⟩; (focus (first | (go_simp; done) | (go_simp; rfl))); (clear st; intro b3 w hb st; clear hb))
            | ((with_reducible refine wl_store ?_ (fun K hK => ?_)); rfl; refine owp_store rfl st ?_; apply Exists.intro; apply Exists.intro; refine ⟨?_, ?_, ?_⟩; (focus (go_simp; try rfl)); (focus (go_simp; try rfl)); (with_reducible refine ⟨2, _, _, _, _, get2, rfl, rfl, ?_, ?_, ?_, ?_⟩); (kernel_rfl); (simp [Value.cells]); (rfl); (clear st; intro w st))); (try simp only [nsl, Value.cells, unB] at st); (try clear hc); have hc := st.facts; (try simp only [nfl, nft, Nat.reduceAdd] at hc))
      replace st := st.refMk (i := 0) (t := t) (xs := ys) rfl
      (try simp only [nsl, Value.cells, unB] at st)
      (try clear hc); have hc := st.facts; (try simp only [nfl, nft, Nat.reduceAdd] at hc)
      obtain ⟨fr', al', st', back⟩ := st.sub [0] (by decide) (by simp)
      (try simp only [nsl, Value.cells, unB] at st')
      refine (refGetRole_m st' (fun xs hx => by cases hx; omega)).mono ?_
      clear st'
      intro en w hen
      unfold RefC at hen
      rw [show bnd (Except.ok ys) rdRole = rdRole ys from rfl] at hen
      cases hr : rdRole ys with
      | error e =>
        rw [hr] at hen
        obtain ⟨rfl, st'⟩ := hen
        replace st := back _ _ (by simp) st'
        clear back st'
        (try simp only [nsl, Value.cells, unB] at st)
        (try clear hc); have hc := st.facts; (try simp only [nfl, nft, Nat.reduceAdd] at hc)
        have H1 : Hid (rdCred xs = .error e) := Lib.hid (by simp [rdCred, HR0.out, hr, bd])
        clear hr
        (try unfold rV)
        (try unfold S)
        go_wp2_with ((((with_reducible refine wl_store ?_ (fun K hK => ?_)); rfl; refine owp_store rfl st ?_; apply Exists.intro; apply Exists.intro; refine ⟨?_, ?_, ?_⟩; (focus (go_simp; try rfl)); (focus (go_simp; try rfl)); (with_reducible refine ⟨2, _, _, _, _, get2, rfl, rfl, ?_, ?_, ?_, ?_⟩); (kernel_rfl); (simp [Value.cells]); (rfl); (clear st; intro w st))); (try simp only [nsl, Value.cells, unB] at st); (try clear hc); have hc := st.facts; (try simp only [nfl, nft, Nat.reduceAdd] at hc))
        obtain ⟨fr', al', st', back⟩ := st.sub [0] (by decide) (by simp)
        (try simp only [nsl, Value.cells, unB] at st')
        refine (refGetName_m st' (fun xs hx => by cases hx)).mono ?_
        clear st'
        intro en w hen
        unfold RefC bnd at hen
        obtain ⟨rfl, st'⟩ := hen
        replace st := back _ _ (by simp) st'
        clear back st'
        (try simp only [nsl, Value.cells, unB] at st)
        (try clear hc); have hc := st.facts; (try simp only [nfl, nft, Nat.reduceAdd] at hc)
        (try unfold S)
        obtain ⟨zq, he, st1⟩ := st.refErr (i := 0) get0
        clear st
        have st := st1
        clear st1
        have hne : ((e : Int) != 0) = true := bne_iff_ne.2 he
        have hne2 : ((e : Int) == 0) = false := beq_eq_false_iff_ne.2 he
        (try simp only [nsl, Value.cells, unB] at st)
        (try clear hc); have hc := st.facts; (try simp only [nfl, nft, Nat.reduceAdd] at hc)
        (try unfold S)
        go_wp2_with ((((with_reducible refine wl_store ?_ (fun K hK => ?_)); rfl; refine owp_store rfl st ?_; apply Exists.intro; apply Exists.intro; refine ⟨?_, ?_, ?_⟩; (focus (go_simp; try rfl)); (focus (go_simp; try rfl)); (first | (with_reducible refine ⟨1, _, _, _, _, get1, rfl, rfl, ?_, ?_, ?_, ?_⟩) | (with_reducible refine ⟨2, _, _, _, _, get2, rfl, rfl, ?_, ?_, ?_, ?_⟩)); (kernel_rfl); (simp [Value.cells]); (rfl); (clear st; intro w st))); (try simp only [nsl, Value.cells, unB] at st); (try clear hc); have hc := st.facts; (try simp only [nfl, nft, Nat.reduceAdd] at hc))
        (try simp only [Exit.inBlock, Exit.then])
        refine bodyPost_cell rfl rfl (st.blk (i := 1) get1) Try.underlying32 rfl (by kernel_rfl) rfl ?_
        unfold RefC
        rw [H1.out]
        have st2 := (st.refMkE (i := 0) (t := t) (xs := zq) (er := e) rfl he).keep [0] (by decide) (by simp)
        exact ⟨rfl, by simpa [pick] using st2⟩
      | ok p =>
        obtain ⟨⟨ho, hd⟩, zs⟩ := p
        rw [hr] at hen
        obtain ⟨rfl, st'⟩ := hen
        replace st := back _ _ (by simp) st'
        clear back st'
        (try simp only [nsl, Value.cells, unB] at st)
        (try clear hc); have hc := st.facts; (try simp only [nfl, nft, Nat.reduceAdd] at hc)
        (try dsimp only)
        have hl1 := rdRole_le hr
        have hlb1 := roleR_len hl1.2
        have HR1 := Lib.hid hr
        clear hr
        simp only at hlb1
        (try unfold rV)
        (try unfold S)
        go_wp2_with ((((with_reducible refine wl_store ?_ (fun K hK => ?_)); rfl; refine owp_store rfl st ?_; apply Exists.intro; apply Exists.intro; refine ⟨?_, ?_, ?_⟩; (focus (go_simp; try rfl)); (focus (go_simp; try rfl)); (with_reducible refine ⟨2, _, _, _, _, get2, rfl, rfl, ?_, ?_, ?_, ?_⟩); (kernel_rfl); (simp [Value.cells]); (rfl); (clear st; intro w st))); (try simp only [nsl, Value.cells, unB] at st); (try clear hc); have hc := st.facts; (try simp only [nfl, nft, Nat.reduceAdd] at hc))
        obtain ⟨fr', al', st', back⟩ := st.sub [0] (by decide) (by simp)
        (try simp only [nsl, Value.cells, unB] at st')
        refine (refGetName_m st' (fun xs hx => by cases hx; omega)).mono ?_
        clear st'
        intro en w hen
        unfold RefC at hen
        rw [show bnd (Except.ok zs) rdName = rdName zs from rfl] at hen
        cases hr : rdName zs with
        | error e =>
          rw [hr] at hen
          obtain ⟨rfl, st'⟩ := hen
          replace st := back _ _ (by simp) st'
          clear back st'
          (try simp only [nsl, Value.cells, unB] at st)
          (try clear hc); have hc := st.facts; (try simp only [nfl, nft, Nat.reduceAdd] at hc)
          have H1 : Hid (rdCred xs = .error e) := Lib.hid (by simp [rdCred, HR0.out, HR1.out, hr, bd])
          clear hr
          (try unfold S)
          obtain ⟨zq, he, st1⟩ := st.refErr (i := 0) get0
          clear st
          have st := st1
          clear st1
          have hne : ((e : Int) != 0) = true := bne_iff_ne.2 he
          have hne2 : ((e : Int) == 0) = false := beq_eq_false_iff_ne.2 he
          (try simp only [nsl, Value.cells, unB] at st)
          (try clear hc); have hc := st.facts; (try simp only [nfl, nft, Nat.reduceAdd] at hc)
          (try unfold S)
          go_wp2_with ((((with_reducible refine wl_store ?_ (fun K hK => ?_)); rfl; refine owp_store rfl st ?_; apply Exists.intro; apply Exists.intro; refine ⟨?_, ?_, ?_⟩; (focus (go_simp; try rfl)); (focus (go_simp; try rfl)); (first | (with_reducible refine ⟨1, _, _, _, _, get1, rfl, rfl, ?_, ?_, ?_, ?_⟩) | (with_reducible refine ⟨2, _, _, _, _, get2, rfl, rfl, ?_, ?_, ?_, ?_⟩)); (kernel_rfl); (simp [Value.cells]); (rfl); (clear st; intro w st))); (try simp only [nsl, Value.cells, unB] at st); (try clear hc); have hc := st.facts; (try simp only [nfl, nft, Nat.reduceAdd] at hc))
          (try simp only [Exit.inBlock, Exit.then])
          refine bodyPost_cell rfl rfl (st.blk (i := 1) get1) Try.underlying32 rfl (by kernel_rfl) rfl ?_
          unfold RefC
          rw [H1.out]
          have st2 := (st.refMkE (i := 0) (t := t) (xs := zq) (er := e) rfl he).keep [0] (by decide) (by simp)
          exact ⟨rfl, by simpa [pick] using st2⟩
        | ok p =>
          obtain ⟨nw, us⟩ := p
          rw [hr] at hen
          obtain ⟨rfl, st'⟩ := hen
          replace st := back _ _ (by simp) st'
          clear back st'
          (try simp only [nsl, Value.cells, unB] at st)
          (try clear hc); have hc := st.facts; (try simp only [nfl, nft, Nat.reduceAdd] at hc)
          (try dsimp only)
          have hl2 := rdName_le hr
          have hlb2 := (nameR_len hl2.2).2
          have HR2 := Lib.hid hr
          clear hr
          (try unfold S)
          have HQ := Lib.hid (fun W => refCredRight_any ⟨1, (ho, hd), nw, ([], []), ([], []), []⟩ W (by simp only; (try simp only [List.length_nil]); omega))
          unfold cV S at HQ
          simp only [nR] at HQ
          replace st := st.refOk (i := 0) get0
          (try unfold S at st)
          (try unfold S)
          (try simp only [nsl, Value.cells, unB] at st)
          (try clear hc); have hc := st.facts; (try simp only [nfl, nft, Nat.reduceAdd] at hc)
          go_wp2_with ((((with_reducible refine wl_store ?_ (fun K hK => ?_)); rfl; refine owp_store rfl st ?_; apply Exists.intro; apply Exists.intro; refine ⟨?_, ?_, ?_⟩; (focus (go_simp; try rfl)); (focus (go_simp; try rfl)); (with_reducible refine ⟨2, _, _, _, _, get2, rfl, rfl, ?_, ?_, ?_, ?_⟩); (kernel_rfl); (simp [Value.cells]); (rfl); (clear st; intro w st))); (try simp only [nsl, Value.cells, unB] at st); (try clear hc); have hc := st.facts; (try simp only [nfl, nft, Nat.reduceAdd] at hc))
          refine (HQ.out _).mono ?_
          rintro en w ⟨rfl, hx⟩
          replace st := st.ext hx
          clear hx
          (try clear hc); have hc := st.facts; (try simp only [nfl, nft, Nat.reduceAdd] at hc)
          cases hcr : credR ⟨1, (ho, hd), nw, ([], []), ([], []), []⟩ with
          | true =>
            have H1 : Hid (rdCred xs = .ok (⟨1, (ho, hd), nw, ([], []), ([], []), []⟩, us)) := Lib.hid (by simp [rdCred, HR0.out, HR1.out, HR2.out, bd, okCr, nR, hcr])
            clear hcr HQ
            go_wp2_with ((((with_reducible refine wl_store ?_ (fun K hK => ?_)); rfl; refine owp_store rfl st ?_; apply Exists.intro; apply Exists.intro; refine ⟨?_, ?_, ?_⟩; (focus (go_simp; try rfl)); (focus (go_simp; try rfl)); (with_reducible refine ⟨1, _, _, _, _, get1, rfl, rfl, ?_, ?_, ?_, ?_⟩); (kernel_rfl); (simp [Value.cells]); (rfl); (clear st; intro w st))); (try simp only [nsl, Value.cells, unB] at st); (try clear hc); have hc := st.facts; (try simp only [nfl, nft, Nat.reduceAdd] at hc))
            (try simp only [Exit.inBlock, Exit.then])
            refine bodyPost_cell rfl rfl (st.blk (i := 1) get1) Try.underlying32 rfl (by kernel_rfl) rfl ?_
            unfold RefC
            rw [H1.out]
            have st2 := (st.refMk (i := 0) (t := t) (xs := us) rfl).keep [0] (by decide) (by simp)
            exact ⟨rfl, by simpa [pick] using st2⟩
          | false =>
            have H1 : Hid (rdCred xs = .error 11) := Lib.hid (by simp [rdCred, HR0.out, HR1.out, HR2.out, bd, okCr, nR, hcr])
            clear hcr HQ
            go_wp2_with ((((with_reducible refine wl_store ?_ (fun K hK => ?_)); rfl; refine owp_store rfl st ?_; apply Exists.intro; apply Exists.intro; refine ⟨?_, ?_, ?_⟩; (focus (go_simp; try rfl)); (focus (go_simp; try rfl)); (first | (with_reducible refine ⟨0, _, _, _, _, get0, rfl, rfl, ?_, ?_, ?_, ?_⟩) | (with_reducible refine ⟨1, _, _, _, _, get1, rfl, rfl, ?_, ?_, ?_, ?_⟩)); (kernel_rfl); (simp [Value.cells]); (rfl); (clear st; intro w st))); (try simp only [nsl, Value.cells, unB] at st); (try clear hc); have hc := st.facts; (try simp only [nfl, nft, Nat.reduceAdd] at hc))
            (try simp only [Exit.inBlock, Exit.then])
            refine bodyPost_cell rfl rfl (st.blk (i := 1) get1) Try.underlying32 rfl (by kernel_rfl) rfl ?_
            unfold RefC
            rw [H1.out]
            have st2 := (st.refMkE (i := 0) (t := t) (xs := us) (er := 11) rfl (by decide)).keep [0] (by decide) (by simp)
            exact ⟨rfl, by simpa [pick] using st2⟩
    | 2, HR0 =>
      replace st := st.refOk (i := 0) get0
      (try unfold S at st)
      (try unfold S)
      (try simp only [nsl, Value.cells, unB] at st)
      (try clear hc); have hc := st.facts; (try simp only [nfl, nft, Nat.reduceAdd] at hc)
      go_wp2_with ((first
            | ((with_reducible refine wl_alloc ?_ (fun K hK => ?_)); rfl; refine owp_alloc (o := ⟨some 3, _, _, _, _, _⟩) rfl st ?_; apply Exists.intro; apply Exists.intro; refine ⟨?_, ?_⟩; (focus (first | (go_simp; done) | (go_simp; rfl))); (clear st; intro b3 w hb st; clear hb))
            | ((with_reducible refine wl_store ?_ (fun K hK => ?_)); rfl; refine owp_store rfl st ?_; apply Exists.intro; apply Exists.intro; refine ⟨?_, ?_, ?_⟩; (focus (go_simp; try rfl)); (focus (go_simp; try rfl)); (with_reducible refine ⟨2, _, _, _, _, get2, rfl, rfl, ?_, ?_, ?_, ?_⟩); (kernel_rfl); (simp [Value.cells]); (rfl); (clear st; intro w st))); (try simp only [nsl, Value.cells, unB] at st); (try clear hc); have hc := st.facts; (try simp only [nfl, nft, Nat.reduceAdd] at hc))
      replace st := st.refMk (i := 0) (t := t) (xs := ys) rfl
      (try simp only [nsl, Value.cells, unB] at st)
      (try clear hc); have hc := st.facts; (try simp only [nfl, nft, Nat.reduceAdd] at hc)
      obtain ⟨fr', al', st', back⟩ := st.sub [0] (by decide) (by simp)
      (try simp only [nsl, Value.cells, unB] at st')
      refine (refGetRole_m st' (fun xs hx => by cases hx; omega)).mono ?_
      clear st'
      intro en w hen
      unfold RefC at hen
      rw [show bnd (Except.ok ys) rdRole = rdRole ys from rfl] at hen
      cases hr : rdRole ys with
      | error e =>
        rw [hr] at hen
        obtain ⟨rfl, st'⟩ := hen
        replace st := back _ _ (by simp) st'
        clear back st'
        (try simp only [nsl, Value.cells, unB] at st)
        (try clear hc); have hc := st.facts; (try simp only [nfl, nft, Nat.reduceAdd] at hc)
        have H1 : Hid (rdCred xs = .error e) := Lib.hid (by simp [rdCred, HR0.out, hr, bd])
        clear hr
        (try unfold rV)
        (try unfold S)
        go_wp2_with ((((with_reducible refine wl_store ?_ (fun K hK => ?_)); rfl; refine owp_store rfl st ?_; apply Exists.intro; apply Exists.intro; refine ⟨?_, ?_, ?_⟩; (focus (go_simp; try rfl)); (focus (go_simp; try rfl)); (with_reducible refine ⟨2, _, _, _, _, get2, rfl, rfl, ?_, ?_, ?_, ?_⟩); (kernel_rfl); (simp [Value.cells]); (rfl); (clear st; intro w st))); (try simp only [nsl, Value.cells, unB] at st); (try clear hc); have hc := st.facts; (try simp only [nfl, nft, Nat.reduceAdd] at hc))
        obtain ⟨fr', al', st', back⟩ := st.sub [0] (by decide) (by simp)
        (try simp only [nsl, Value.cells, unB] at st')
        refine (refGetRole_m st' (fun xs hx => by cases hx)).mono ?_
        clear st'
        intro en w hen
        unfold RefC bnd at hen
        obtain ⟨rfl, st'⟩ := hen
        replace st := back _ _ (by simp) st'
        clear back st'
        (try simp only [nsl, Value.cells, unB] at st)
        (try clear hc); have hc := st.facts; (try simp only [nfl, nft, Nat.reduceAdd] at hc)
        (try unfold rV)
        (try unfold S)
        obtain ⟨zq, he, st1⟩ := st.refErr (i := 0) get0
        clear st
        have st := st1
        clear st1
        have hne : ((e : Int) != 0) = true := bne_iff_ne.2 he
        have hne2 : ((e : Int) == 0) = false := beq_eq_false_iff_ne.2 he
        (try simp only [nsl, Value.cells, unB] at st)
        (try clear hc); have hc := st.facts; (try simp only [nfl, nft, Nat.reduceAdd] at hc)
        (try unfold S)
        go_wp2_with ((((with_reducible refine wl_store ?_ (fun K hK => ?_)); rfl; refine owp_store rfl st ?_; apply Exists.intro; apply Exists.intro; refine ⟨?_, ?_, ?_⟩; (focus (go_simp; try rfl)); (focus (go_simp; try rfl)); (first | (with_reducible refine ⟨1, _, _, _, _, get1, rfl, rfl, ?_, ?_, ?_, ?_⟩) | (with_reducible refine ⟨2, _, _, _, _, get2, rfl, rfl, ?_, ?_, ?_, ?_⟩)); (kernel_rfl); (simp [Value.cells]); (rfl); (clear st; intro w st))); (try simp only [nsl, Value.cells, unB] at st); (try clear hc); have hc := st.facts; (try simp only [nfl, nft, Nat.reduceAdd] at hc))
        (try simp only [Exit.inBlock, Exit.then])
        refine bodyPost_cell rfl rfl (st.blk (i := 1) get1) Try.underlying32 rfl (by kernel_rfl) rfl ?_
        unfold RefC
        rw [H1.out]
        have st2 := (st.refMkE (i := 0) (t := t) (xs := zq) (er := e) rfl he).keep [0] (by decide) (by simp)
        exact ⟨rfl, by simpa [pick] using st2⟩
      | ok p =>
        obtain ⟨⟨ho, hd⟩, zs⟩ := p
        rw [hr] at hen
        obtain ⟨rfl, st'⟩ := hen
        replace st := back _ _ (by simp) st'
        clear back st'
        (try simp only [nsl, Value.cells, unB] at st)
        (try clear hc); have hc := st.facts; (try simp only [nfl, nft, Nat.reduceAdd] at hc)
        (try dsimp only)
        have hl1 := rdRole_le hr
        have hlb1 := roleR_len hl1.2
        have HR1 := Lib.hid hr
        clear hr
        simp only at hlb1
        (try unfold rV)
        (try unfold S)
        go_wp2_with ((((with_reducible refine wl_store ?_ (fun K hK => ?_)); rfl; refine owp_store rfl st ?_; apply Exists.intro; apply Exists.intro; refine ⟨?_, ?_, ?_⟩; (focus (go_simp; try rfl)); (focus (go_simp; try rfl)); (with_reducible refine ⟨2, _, _, _, _, get2, rfl, rfl, ?_, ?_, ?_, ?_⟩); (kernel_rfl); (simp [Value.cells]); (rfl); (clear st; intro w st))); (try simp only [nsl, Value.cells, unB] at st); (try clear hc); have hc := st.facts; (try simp only [nfl, nft, Nat.reduceAdd] at hc))
        obtain ⟨fr', al', st', back⟩ := st.sub [0] (by decide) (by simp)
        (try simp only [nsl, Value.cells, unB] at st')
        refine (refGetRole_m st' (fun xs hx => by cases hx; omega)).mono ?_
        clear st'
        intro en w hen
        unfold RefC at hen
        rw [show bnd (Except.ok zs) rdRole = rdRole zs from rfl] at hen
        cases hr : rdRole zs with
        | error e =>
          rw [hr] at hen
          obtain ⟨rfl, st'⟩ := hen
          replace st := back _ _ (by simp) st'
          clear back st'
          (try simp only [nsl, Value.cells, unB] at st)
          (try clear hc); have hc := st.facts; (try simp only [nfl, nft, Nat.reduceAdd] at hc)
          have H1 : Hid (rdCred xs = .error e) := Lib.hid (by simp [rdCred, HR0.out, HR1.out, hr, bd])
          clear hr
          (try unfold rV)
          (try unfold S)
          obtain ⟨zq, he, st1⟩ := st.refErr (i := 0) get0
          clear st
          have st := st1
          clear st1
          have hne : ((e : Int) != 0) = true := bne_iff_ne.2 he
          have hne2 : ((e : Int) == 0) = false := beq_eq_false_iff_ne.2 he
          (try simp only [nsl, Value.cells, unB] at st)
          (try clear hc); have hc := st.facts; (try simp only [nfl, nft, Nat.reduceAdd] at hc)
          (try unfold S)
          go_wp2_with ((((with_reducible refine wl_store ?_ (fun K hK => ?_)); rfl; refine owp_store rfl st ?_; apply Exists.intro; apply Exists.intro; refine ⟨?_, ?_, ?_⟩; (focus (go_simp; try rfl)); (focus (go_simp; try rfl)); (first | (with_reducible refine ⟨1, _, _, _, _, get1, rfl, rfl, ?_, ?_, ?_, ?_⟩) | (with_reducible refine ⟨2, _, _, _, _, get2, rfl, rfl, ?_, ?_, ?_, ?_⟩)); (kernel_rfl); (simp [Value.cells]); (rfl); (clear st; intro w st))); (try simp only [nsl, Value.cells, unB] at st); (try clear hc); have hc := st.facts; (try simp only [nfl, nft, Nat.reduceAdd] at hc))
          (try simp only [Exit.inBlock, Exit.then])
          refine bodyPost_cell rfl rfl (st.blk (i := 1) get1) Try.underlying32 rfl (by kernel_rfl) rfl ?_
          unfold RefC
          rw [H1.out]
          have st2 := (st.refMkE (i := 0) (t := t) (xs := zq) (er := e) rfl he).keep [0] (by decide) (by simp)
          exact ⟨rfl, by simpa [pick] using st2⟩
        | ok p =>
          obtain ⟨⟨bo, bd'⟩, us⟩ := p
          rw [hr] at hen
          obtain ⟨rfl, st'⟩ := hen
          replace st := back _ _ (by simp) st'
          clear back st'
          (try simp only [nsl, Value.cells, unB] at st)
          (try clear hc); have hc := st.facts; (try simp only [nfl, nft, Nat.reduceAdd] at hc)
          (try dsimp only)
          have hl2 := rdRole_le hr
          have hlb2 := roleR_len hl2.2
          have HR2 := Lib.hid hr
          clear hr
          simp only at hlb2
          (try unfold rV)
          (try unfold S)
          have HQ := Lib.hid (fun W => refCredRight_any ⟨2, (ho, hd), [], (bo, bd'), ([], []), []⟩ W (by simp only; (try simp only [List.length_nil]); omega))
          unfold cV S at HQ
          simp only [nR] at HQ
          replace st := st.refOk (i := 0) get0
          (try unfold S at st)
          (try unfold S)
          (try simp only [nsl, Value.cells, unB] at st)
          (try clear hc); have hc := st.facts; (try simp only [nfl, nft, Nat.reduceAdd] at hc)
          go_wp2_with ((((with_reducible refine wl_store ?_ (fun K hK => ?_)); rfl; refine owp_store rfl st ?_; apply Exists.intro; apply Exists.intro; refine ⟨?_, ?_, ?_⟩; (focus (go_simp; try rfl)); (focus (go_simp; try rfl)); (with_reducible refine ⟨2, _, _, _, _, get2, rfl, rfl, ?_, ?_, ?_, ?_⟩); (kernel_rfl); (simp [Value.cells]); (rfl); (clear st; intro w st))); (try simp only [nsl, Value.cells, unB] at st); (try clear hc); have hc := st.facts; (try simp only [nfl, nft, Nat.reduceAdd] at hc))
          refine (HQ.out _).mono ?_
          rintro en w ⟨rfl, hx⟩
          replace st := st.ext hx
          clear hx
          (try clear hc); have hc := st.facts; (try simp only [nfl, nft, Nat.reduceAdd] at hc)
          cases hcr : credR ⟨2, (ho, hd), [], (bo, bd'), ([], []), []⟩ with
          | true =>
            have H1 : Hid (rdCred xs = .ok (⟨2, (ho, hd), [], (bo, bd'), ([], []), []⟩, us)) := Lib.hid (by simp [rdCred, HR0.out, HR1.out, HR2.out, bd, okCr, nR, hcr])
            clear hcr HQ
            go_wp2_with ((((with_reducible refine wl_store ?_ (fun K hK => ?_)); rfl; refine owp_store rfl st ?_; apply Exists.intro; apply Exists.intro; refine ⟨?_, ?_, ?_⟩; (focus (go_simp; try rfl)); (focus (go_simp; try rfl)); (with_reducible refine ⟨1, _, _, _, _, get1, rfl, rfl, ?_, ?_, ?_, ?_⟩); (kernel_rfl); (simp [Value.cells]); (rfl); (clear st; intro w st))); (try simp only [nsl, Value.cells, unB] at st); (try clear hc); have hc := st.facts; (try simp only [nfl, nft, Nat.reduceAdd] at hc))
            (try simp only [Exit.inBlock, Exit.then])
            refine bodyPost_cell rfl rfl (st.blk (i := 1) get1) Try.underlying32 rfl (by kernel_rfl) rfl ?_
            unfold RefC
            rw [H1.out]
            have st2 := (st.refMk (i := 0) (t := t) (xs := us) rfl).keep [0] (by decide) (by simp)
            exact ⟨rfl, by simpa [pick] using st2⟩
          | false =>
            have H1 : Hid (rdCred xs = .error 11) := Lib.hid (by simp [rdCred, HR0.out, HR1.out, HR2.out, bd, okCr, nR, hcr])
            clear hcr HQ
            go_wp2_with ((((with_reducible refine wl_store ?_ (fun K hK => ?_)); rfl; refine owp_store rfl st ?_; apply Exists.intro; apply Exists.intro; refine ⟨?_, ?_, ?_⟩; (focus (go_simp; try rfl)); (focus (go_simp; try rfl)); (first | (with_reducible refine ⟨0, _, _, _, _, get0, rfl, rfl, ?_, ?_, ?_, ?_⟩) | (with_reducible refine ⟨1, _, _, _, _, get1, rfl, rfl, ?_, ?_, ?_, ?_⟩)); (kernel_rfl); (simp [Value.cells]); (rfl); (clear st; intro w st))); (try simp only [nsl, Value.cells, unB] at st); (try clear hc); have hc := st.facts; (try simp only [nfl, nft, Nat.reduceAdd] at hc))
            (try simp only [Exit.inBlock, Exit.then])
            refine bodyPost_cell rfl rfl (st.blk (i := 1) get1) Try.underlying32 rfl (by kernel_rfl) rfl ?_
            unfold RefC
            rw [H1.out]
            have st2 := (st.refMkE (i := 0) (t := t) (xs := us) (er := 11) rfl (by decide)).keep [0] (by decide) (by simp)
            exact ⟨rfl, by simpa [pick] using st2⟩
    | 3, HR0 =>
      replace st := st.refOk (i := 0) get0
      (try unfold S at st)
      (try unfold S)
      (try simp only [nsl, Value.cells, unB] at st)
      (try clear hc); have hc := st.facts; (try simp only [nfl, nft, Nat.reduceAdd] at hc)
      go_wp2_with ((first
            | ((with_reducible refine wl_alloc ?_ (fun K hK => ?_)); rfl; refine owp_alloc (o := ⟨some 3, _, _, _, _, _⟩) rfl st ?_; apply Exists.intro; apply Exists.intro; refine ⟨?_, ?_⟩; (focus (first | (go_simp; done) | (go_simp; rfl))); (clear st; intro b3 w hb st; clear hb))
            | ((with_reducible refine wl_store ?_ (fun K hK => ?_)); rfl; refine owp_store rfl st ?_; apply Exists.intro; apply Exists.intro; refine ⟨?_, ?_, ?_⟩; (focus (go_simp; try rfl)); (focus (go_simp; try rfl)); (with_reducible refine ⟨2, _, _, _, _, get2, rfl, rfl, ?_, ?_, ?_, ?_⟩); (kernel_rfl); (simp [Value.cells]); (rfl); (clear st; intro w st))); (try simp only [nsl, Value.cells, unB] at st); (try clear hc); have hc := st.facts; (try simp only [nfl, nft, Nat.reduceAdd] at hc))
      replace st := st.refMk (i := 0) (t := t) (xs := ys) rfl
      (try simp only [nsl, Value.cells, unB] at st)
      (try clear hc); have hc := st.facts; (try simp only [nfl, nft, Nat.reduceAdd] at hc)
      obtain ⟨fr', al', st', back⟩ := st.sub [0] (by decide) (by simp)
      (try simp only [nsl, Value.cells, unB] at st')
      refine (refGetRole_m st' (fun xs hx => by cases hx; omega)).mono ?_
      clear st'
      intro en w hen
      unfold RefC at hen
      rw [show bnd (Except.ok ys) rdRole = rdRole ys from rfl] at hen
      cases hr : rdRole ys with
      | error e =>
        rw [hr] at hen
        obtain ⟨rfl, st'⟩ := hen
        replace st := back _ _ (by simp) st'
        clear back st'
        (try simp only [nsl, Value.cells, unB] at st)
        (try clear hc); have hc := st.facts; (try simp only [nfl, nft, Nat.reduceAdd] at hc)
        have H1 : Hid (rdCred xs = .error e) := Lib.hid (by simp [rdCred, HR0.out, hr, bd])
        clear hr
        (try unfold rV)
        (try unfold S)
        go_wp2_with ((((with_reducible refine wl_store ?_ (fun K hK => ?_)); rfl; refine owp_store rfl st ?_; apply Exists.intro; apply Exists.intro; refine ⟨?_, ?_, ?_⟩; (focus (go_simp; try rfl)); (focus (go_simp; try rfl)); (with_reducible refine ⟨2, _, _, _, _, get2, rfl, rfl, ?_, ?_, ?_, ?_⟩); (kernel_rfl); (simp [Value.cells]); (rfl); (clear st; intro w st))); (try simp only [nsl, Value.cells, unB] at st); (try clear hc); have hc := st.facts; (try simp only [nfl, nft, Nat.reduceAdd] at hc))
        obtain ⟨fr', al', st', back⟩ := st.sub [0] (by decide) (by simp)
        (try simp only [nsl, Value.cells, unB] at st')
        refine (refGetRole_m st' (fun xs hx => by cases hx)).mono ?_
        clear st'
        intro en w hen
        unfold RefC bnd at hen
        obtain ⟨rfl, st'⟩ := hen
        replace st := back _ _ (by simp) st'
        clear back st'
        (try simp only [nsl, Value.cells, unB] at st)
        (try clear hc); have hc := st.facts; (try simp only [nfl, nft, Nat.reduceAdd] at hc)
        (try unfold rV)
        (try unfold S)
        go_wp2_with ((((with_reducible refine wl_store ?_ (fun K hK => ?_)); rfl; refine owp_store rfl st ?_; apply Exists.intro; apply Exists.intro; refine ⟨?_, ?_, ?_⟩; (focus (go_simp; try rfl)); (focus (go_simp; try rfl)); (with_reducible refine ⟨2, _, _, _, _, get2, rfl, rfl, ?_, ?_, ?_, ?_⟩); (kernel_rfl); (simp [Value.cells]); (rfl); (clear st; intro w st))); (try simp only [nsl, Value.cells, unB] at st); (try clear hc); have hc := st.facts; (try simp only [nfl, nft, Nat.reduceAdd] at hc))
        obtain ⟨fr', al', st', back⟩ := st.sub [0] (by decide) (by simp)
        (try simp only [nsl, Value.cells, unB] at st')
        refine (refGetName_m st' (fun xs hx => by cases hx)).mono ?_
        clear st'
        intro en w hen
        unfold RefC bnd at hen
        obtain ⟨rfl, st'⟩ := hen
        replace st := back _ _ (by simp) st'
        clear back st'
        (try simp only [nsl, Value.cells, unB] at st)
        (try clear hc); have hc := st.facts; (try simp only [nfl, nft, Nat.reduceAdd] at hc)
        (try unfold S)
        obtain ⟨zq, he, st1⟩ := st.refErr (i := 0) get0
        clear st
        have st := st1
        clear st1
        have hne : ((e : Int) != 0) = true := bne_iff_ne.2 he
        have hne2 : ((e : Int) == 0) = false := beq_eq_false_iff_ne.2 he
        (try simp only [nsl, Value.cells, unB] at st)
        (try clear hc); have hc := st.facts; (try simp only [nfl, nft, Nat.reduceAdd] at hc)
        (try unfold S)
        go_wp2_with ((((with_reducible refine wl_store ?_ (fun K hK => ?_)); rfl; refine owp_store rfl st ?_; apply Exists.intro; apply Exists.intro; refine ⟨?_, ?_, ?_⟩; (focus (go_simp; try rfl)); (focus (go_simp; try rfl)); (first | (with_reducible refine ⟨1, _, _, _, _, get1, rfl, rfl, ?_, ?_, ?_, ?_⟩) | (with_reducible refine ⟨2, _, _, _, _, get2, rfl, rfl, ?_, ?_, ?_, ?_⟩)); (kernel_rfl); (simp [Value.cells]); (rfl); (clear st; intro w st))); (try simp only [nsl, Value.cells, unB] at st); (try clear hc); have hc := st.facts; (try simp only [nfl, nft, Nat.reduceAdd] at hc))
        (try simp only [Exit.inBlock, Exit.then])
        refine bodyPost_cell rfl rfl (st.blk (i := 1) get1) Try.underlying32 rfl (by kernel_rfl) rfl ?_
        unfold RefC
        rw [H1.out]
        have st2 := (st.refMkE (i := 0) (t := t) (xs := zq) (er := e) rfl he).keep [0] (by decide) (by simp)
        exact ⟨rfl, by simpa [pick] using st2⟩
      | ok p =>
        obtain ⟨⟨ho, hd⟩, zs⟩ := p
        rw [hr] at hen
        obtain ⟨rfl, st'⟩ := hen
        replace st := back _ _ (by simp) st'
        clear back st'
        (try simp only [nsl, Value.cells, unB] at st)
        (try clear hc); have hc := st.facts; (try simp only [nfl, nft, Nat.reduceAdd] at hc)
        (try dsimp only)
        have hl1 := rdRole_le hr
        have hlb1 := roleR_len hl1.2
        have HR1 := Lib.hid hr
        clear hr
        simp only at hlb1
        (try unfold rV)
        (try unfold S)
        go_wp2_with ((((with_reducible refine wl_store ?_ (fun K hK => ?_)); rfl; refine owp_store rfl st ?_; apply Exists.intro; apply Exists.intro; refine ⟨?_, ?_, ?_⟩; (focus (go_simp; try rfl)); (focus (go_simp; try rfl)); (with_reducible refine ⟨2, _, _, _, _, get2, rfl, rfl, ?_, ?_, ?_, ?_⟩); (kernel_rfl); (simp [Value.cells]); (rfl); (clear st; intro w st))); (try simp only [nsl, Value.cells, unB] at st); (try clear hc); have hc := st.facts; (try simp only [nfl, nft, Nat.reduceAdd] at hc))
        obtain ⟨fr', al', st', back⟩ := st.sub [0] (by decide) (by simp)
        (try simp only [nsl, Value.cells, unB] at st')
        refine (refGetRole_m st' (fun xs hx => by cases hx; omega)).mono ?_
        clear st'
        intro en w hen
        unfold RefC at hen
        rw [show bnd (Except.ok zs) rdRole = rdRole zs from rfl] at hen
        cases hr : rdRole zs with
        | error e =>
          rw [hr] at hen
          obtain ⟨rfl, st'⟩ := hen
          replace st := back _ _ (by simp) st'
          clear back st'
          (try simp only [nsl, Value.cells, unB] at st)
          (try clear hc); have hc := st.facts; (try simp only [nfl, nft, Nat.reduceAdd] at hc)
          have H1 : Hid (rdCred xs = .error e) := Lib.hid (by simp [rdCred, HR0.out, HR1.out, hr, bd])
          clear hr
          (try unfold rV)
          (try unfold S)
          go_wp2_with ((((with_reducible refine wl_store ?_ (fun K hK => ?_)); rfl; refine owp_store rfl st ?_; apply Exists.intro; apply Exists.intro; refine ⟨?_, ?_, ?_⟩; (focus (go_simp; try rfl)); (focus (go_simp; try rfl)); (with_reducible refine ⟨2, _, _, _, _, get2, rfl, rfl, ?_, ?_, ?_, ?_⟩); (kernel_rfl); (simp [Value.cells]); (rfl); (clear st; intro w st))); (try simp only [nsl, Value.cells, unB] at st); (try clear hc); have hc := st.facts; (try simp only [nfl, nft, Nat.reduceAdd] at hc))
          obtain ⟨fr', al', st', back⟩ := st.sub [0] (by decide) (by simp)
          (try simp only [nsl, Value.cells, unB] at st')
          refine (refGetName_m st' (fun xs hx => by cases hx)).mono ?_
          clear st'
          intro en w hen
          unfold RefC bnd at hen
          obtain ⟨rfl, st'⟩ := hen
          replace st := back _ _ (by simp) st'
          clear back st'
          (try simp only [nsl, Value.cells, unB] at st)
          (try clear hc); have hc := st.facts; (try simp only [nfl, nft, Nat.reduceAdd] at hc)
          (try unfold S)
          obtain ⟨zq, he, st1⟩ := st.refErr (i := 0) get0
          clear st
          have st := st1
          clear st1
          have hne : ((e : Int) != 0) = true := bne_iff_ne.2 he
          have hne2 : ((e : Int) == 0) = false := beq_eq_false_iff_ne.2 he
          (try simp only [nsl, Value.cells, unB] at st)
          (try clear hc); have hc := st.facts; (try simp only [nfl, nft, Nat.reduceAdd] at hc)
          (try unfold S)
          go_wp2_with ((((with_reducible refine wl_store ?_ (fun K hK => ?_)); rfl; refine owp_store rfl st ?_; apply Exists.intro; apply Exists.intro; refine ⟨?_, ?_, ?_⟩; (focus (go_simp; try rfl)); (focus (go_simp; try rfl)); (first | (with_reducible refine ⟨1, _, _, _, _, get1, rfl, rfl, ?_, ?_, ?_, ?_⟩) | (with_reducible refine ⟨2, _, _, _, _, get2, rfl, rfl, ?_, ?_, ?_, ?_⟩)); (kernel_rfl); (simp [Value.cells]); (rfl); (clear st; intro w st))); (try simp only [nsl, Value.cells, unB] at st); (try clear hc); have hc := st.facts; (try simp only [nfl, nft, Nat.reduceAdd] at hc))
          (try simp only [Exit.inBlock, Exit.then])
          refine bodyPost_cell rfl rfl (st.blk (i := 1) get1) Try.underlying32 rfl (by kernel_rfl) rfl ?_
          unfold RefC
          rw [H1.out]
          have st2 := (st.refMkE (i := 0) (t := t) (xs := zq) (er := e) rfl he).keep [0] (by decide) (by simp)
          exact ⟨rfl, by simpa [pick] using st2⟩
        | ok p =>
          obtain ⟨⟨bo, bd'⟩, us⟩ := p
          rw [hr] at hen
          obtain ⟨rfl, st'⟩ := hen
          replace st := back _ _ (by simp) st'
          clear back st'
          (try simp only [nsl, Value.cells, unB] at st)
          (try clear hc); have hc := st.facts; (try simp only [nfl, nft, Nat.reduceAdd] at hc)
          (try dsimp only)
          have hl2 := rdRole_le hr
          have hlb2 := roleR_len hl2.2
          have HR2 := Lib.hid hr
          clear hr
          simp only at hlb2
          (try unfold rV)
          (try unfold S)
          go_wp2_with ((((with_reducible refine wl_store ?_ (fun K hK => ?_)); rfl; refine owp_store rfl st ?_; apply Exists.intro; apply Exists.intro; refine ⟨?_, ?_, ?_⟩; (focus (go_simp; try rfl)); (focus (go_simp; try rfl)); (with_reducible refine ⟨2, _, _, _, _, get2, rfl, rfl, ?_, ?_, ?_, ?_⟩); (kernel_rfl); (simp [Value.cells]); (rfl); (clear st; intro w st))); (try simp only [nsl, Value.cells, unB] at st); (try clear hc); have hc := st.facts; (try simp only [nfl, nft, Nat.reduceAdd] at hc))
          obtain ⟨fr', al', st', back⟩ := st.sub [0] (by decide) (by simp)
          (try simp only [nsl, Value.cells, unB] at st')
          refine (refGetName_m st' (fun xs hx => by cases hx; omega)).mono ?_
          clear st'
          intro en w hen
          unfold RefC at hen
          rw [show bnd (Except.ok us) rdName = rdName us from rfl] at hen
          cases hr : rdName us with
          | error e =>
            rw [hr] at hen
            obtain ⟨rfl, st'⟩ := hen
            replace st := back _ _ (by simp) st'
            clear back st'
            (try simp only [nsl, Value.cells, unB] at st)
            (try clear hc); have hc := st.facts; (try simp only [nfl, nft, Nat.reduceAdd] at hc)
            have H1 : Hid (rdCred xs = .error e) := Lib.hid (by simp [rdCred, HR0.out, HR1.out, HR2.out, hr, bd])
            clear hr
            (try unfold S)
            obtain ⟨zq, he, st1⟩ := st.refErr (i := 0) get0
            clear st
            have st := st1
            clear st1
            have hne : ((e : Int) != 0) = true := bne_iff_ne.2 he
            have hne2 : ((e : Int) == 0) = false := beq_eq_false_iff_ne.2 he
            (try simp only [nsl, Value.cells, unB] at st)
            (try clear hc); have hc := st.facts; (try simp only [nfl, nft, Nat.reduceAdd] at hc)
            (try unfold S)
            go_wp2_with ((((with_reducible refine wl_store ?_ (fun K hK => ?_)); rfl; refine owp_store rfl st ?_; apply Exists.intro; apply Exists.intro; refine ⟨?_, ?_, ?_⟩; (focus (go_simp; try rfl)); (focus (go_simp; try rfl)); (first | (with_reducible refine ⟨1, _, _, _, _, get1, rfl, rfl, ?_, ?_, ?_, ?_⟩) | (with_reducible refine ⟨2, _, _, _, _, get2, rfl, rfl, ?_, ?_, ?_, ?_⟩)); (kernel_rfl); (simp [Value.cells]); (rfl); (clear st; intro w st))); (try simp only [nsl, Value.cells, unB] at st); (try clear hc); have hc := st.facts; (try simp only [nfl, nft, Nat.reduceAdd] at hc))
            (try simp only [Exit.inBlock, Exit.then])
            refine bodyPost_cell rfl rfl (st.blk (i := 1) get1) Try.underlying32 rfl (by kernel_rfl) rfl ?_
            unfold RefC
            rw [H1.out]
            have st2 := (st.refMkE (i := 0) (t := t) (xs := zq) (er := e) rfl he).keep [0] (by decide) (by simp)
            exact ⟨rfl, by simpa [pick] using st2⟩
          | ok p =>
            obtain ⟨we, vs⟩ := p
            rw [hr] at hen
            obtain ⟨rfl, st'⟩ := hen
            replace st := back _ _ (by simp) st'
            clear back st'
            (try simp only [nsl, Value.cells, unB] at st)
            (try clear hc); have hc := st.facts; (try simp only [nfl, nft, Nat.reduceAdd] at hc)
            (try dsimp only)
            have hl3 := rdName_le hr
            have hlb3 := (nameR_len hl3.2).2
            have HR3 := Lib.hid hr
            clear hr
            (try unfold S)
            have HQ := Lib.hid (fun W => refCredRight_any ⟨3, (ho, hd), [], (bo, bd'), ([], []), we⟩ W (by simp only; (try simp only [List.length_nil]); omega))
            unfold cV S at HQ
            simp only [nR] at HQ
            replace st := st.refOk (i := 0) get0
            (try unfold S at st)
            (try unfold S)
            (try simp only [nsl, Value.cells, unB] at st)
            (try clear hc); have hc := st.facts; (try simp only [nfl, nft, Nat.reduceAdd] at hc)
            go_wp2_with ((((with_reducible refine wl_store ?_ (fun K hK => ?_)); rfl; refine owp_store rfl st ?_; apply Exists.intro; apply Exists.intro; refine ⟨?_, ?_, ?_⟩; (focus (go_simp; try rfl)); (focus (go_simp; try rfl)); (with_reducible refine ⟨2, _, _, _, _, get2, rfl, rfl, ?_, ?_, ?_, ?_⟩); (kernel_rfl); (simp [Value.cells]); (rfl); (clear st; intro w st))); (try simp only [nsl, Value.cells, unB] at st); (try clear hc); have hc := st.facts; (try simp only [nfl, nft, Nat.reduceAdd] at hc))
            refine (HQ.out _).mono ?_
            rintro en w ⟨rfl, hx⟩
            replace st := st.ext hx
            clear hx
            (try clear hc); have hc := st.facts; (try simp only [nfl, nft, Nat.reduceAdd] at hc)
            cases hcr : credR ⟨3, (ho, hd), [], (bo, bd'), ([], []), we⟩ with
            | true =>
              have H1 : Hid (rdCred xs = .ok (⟨3, (ho, hd), [], (bo, bd'), ([], []), we⟩, vs)) := Lib.hid (by simp [rdCred, HR0.out, HR1.out, HR2.out, HR3.out, bd, okCr, nR, hcr])
              clear hcr HQ
              go_wp2_with ((((with_reducible refine wl_store ?_ (fun K hK => ?_)); rfl; refine owp_store rfl st ?_; apply Exists.intro; apply Exists.intro; refine ⟨?_, ?_, ?_⟩; (focus (go_simp; try rfl)); (focus (go_simp; try rfl)); (with_reducible refine ⟨1, _, _, _, _, get1, rfl, rfl, ?_, ?_, ?_, ?_⟩); (kernel_rfl); (simp [Value.cells]); (rfl); (clear st; intro w st))); (try simp only [nsl, Value.cells, unB] at st); (try clear hc); have hc := st.facts; (try simp only [nfl, nft, Nat.reduceAdd] at hc))
              (try simp only [Exit.inBlock, Exit.then])
              refine bodyPost_cell rfl rfl (st.blk (i := 1) get1) Try.underlying32 rfl (by kernel_rfl) rfl ?_
              unfold RefC
              rw [H1.out]
              have st2 := (st.refMk (i := 0) (t := t) (xs := vs) rfl).keep [0] (by decide) (by simp)
              exact ⟨rfl, by simpa [pick] using st2⟩
            | false =>
              have H1 : Hid (rdCred xs = .error 11) := Lib.hid (by simp [rdCred, HR0.out, HR1.out, HR2.out, HR3.out, bd, okCr, nR, hcr])
              clear hcr HQ
              go_wp2_with ((((with_reducible refine wl_store ?_ (fun K hK => ?_)); rfl; refine owp_store rfl st ?_; apply Exists.intro; apply Exists.intro; refine ⟨?_, ?_, ?_⟩; (focus (go_simp; try rfl)); (focus (go_simp; try rfl)); (first | (with_reducible refine ⟨0, _, _, _, _, get0, rfl, rfl, ?_, ?_, ?_, ?_⟩) | (with_reducible refine ⟨1, _, _, _, _, get1, rfl, rfl, ?_, ?_, ?_, ?_⟩)); (kernel_rfl); (simp [Value.cells]); (rfl); (clear st; intro w st))); (try simp only [nsl, Value.cells, unB] at st); (try clear hc); have hc := st.facts; (try simp only [nfl, nft, Nat.reduceAdd] at hc))
              (try simp only [Exit.inBlock, Exit.then])
              refine bodyPost_cell rfl rfl (st.blk (i := 1) get1) Try.underlying32 rfl (by kernel_rfl) rfl ?_
              unfold RefC
              rw [H1.out]
              have st2 := (st.refMkE (i := 0) (t := t) (xs := vs) (er := 11) rfl (by decide)).keep [0] (by decide) (by simp)
              exact ⟨rfl, by simpa [pick] using st2⟩
    | 4, HR0 =>
      replace st := st.refOk (i := 0) get0
      (try unfold S at st)
      (try unfold S)
      (try simp only [nsl, Value.cells, unB] at st)
      (try clear hc); have hc := st.facts; (try simp only [nfl, nft, Nat.reduceAdd] at hc)
      go_wp2_with ((first
            | ((with_reducible refine wl_alloc ?_ (fun K hK => ?_)); rfl; refine owp_alloc (o := ⟨some 3, _, _, _, _, _⟩) rfl st ?_; apply Exists.intro; apply Exists.intro; refine ⟨?_, ?_⟩; (focus (first | (go_simp; done) | (go_simp; rfl))); (clear st; intro b3 w hb st; clear hb))
            | ((with_reducible refine wl_store ?_ (fun K hK => ?_)); rfl; refine owp_store rfl st ?_; apply Exists.intro; apply Exists.intro; refine ⟨?_, ?_, ?_⟩; (focus (go_simp; try rfl)); (focus (go_simp; try rfl)); (with_reducible refine ⟨2, _, _, _, _, get2, rfl, rfl, ?_, ?_, ?_, ?_⟩); (kernel_rfl); (simp [Value.cells]); (rfl); (clear st; intro w st))); (try simp only [nsl, Value.cells, unB] at st); (try clear hc); have hc := st.facts; (try simp only [nfl, nft, Nat.reduceAdd] at hc))
      replace st := st.refMk (i := 0) (t := t) (xs := ys) rfl
      (try simp only [nsl, Value.cells, unB] at st)
      (try clear hc); have hc := st.facts; (try simp only [nfl, nft, Nat.reduceAdd] at hc)
      obtain ⟨fr', al', st', back⟩ := st.sub [0] (by decide) (by simp)
      (try simp only [nsl, Value.cells, unB] at st')
      refine (refGetRole_m st' (fun xs hx => by cases hx; omega)).mono ?_
      clear st'
      intro en w hen
      unfold RefC at hen
      rw [show bnd (Except.ok ys) rdRole = rdRole ys from rfl] at hen
      cases hr : rdRole ys with
      | error e =>
        rw [hr] at hen
        obtain ⟨rfl, st'⟩ := hen
        replace st := back _ _ (by simp) st'
        clear back st'
        (try simp only [nsl, Value.cells, unB] at st)
        (try clear hc); have hc := st.facts; (try simp only [nfl, nft, Nat.reduceAdd] at hc)
        have H1 : Hid (rdCred xs = .error e) := Lib.hid (by simp [rdCred, HR0.out, hr, bd])
        clear hr
        (try unfold rV)
        (try unfold S)
        go_wp2_with ((((with_reducible refine wl_store ?_ (fun K hK => ?_)); rfl; refine owp_store rfl st ?_; apply Exists.intro; apply Exists.intro; refine ⟨?_, ?_, ?_⟩; (focus (go_simp; try rfl)); (focus (go_simp; try rfl)); (with_reducible refine ⟨2, _, _, _, _, get2, rfl, rfl, ?_, ?_, ?_, ?_⟩); (kernel_rfl); (simp [Value.cells]); (rfl); (clear st; intro w st))); (try simp only [nsl, Value.cells, unB] at st); (try clear hc); have hc := st.facts; (try simp only [nfl, nft, Nat.reduceAdd] at hc))
        obtain ⟨fr', al', st', back⟩ := st.sub [0] (by decide) (by simp)
        (try simp only [nsl, Value.cells, unB] at st')
        refine (refGetRole_m st' (fun xs hx => by cases hx)).mono ?_
        clear st'
        intro en w hen
        unfold RefC bnd at hen
        obtain ⟨rfl, st'⟩ := hen
        replace st := back _ _ (by simp) st'
        clear back st'
        (try simp only [nsl, Value.cells, unB] at st)
        (try clear hc); have hc := st.facts; (try simp only [nfl, nft, Nat.reduceAdd] at hc)
        (try unfold rV)
        (try unfold S)
        go_wp2_with ((((with_reducible refine wl_store ?_ (fun K hK => ?_)); rfl; refine owp_store rfl st ?_; apply Exists.intro; apply Exists.intro; refine ⟨?_, ?_, ?_⟩; (focus (go_simp; try rfl)); (focus (go_simp; try rfl)); (with_reducible refine ⟨2, _, _, _, _, get2, rfl, rfl, ?_, ?_, ?_, ?_⟩); (kernel_rfl); (simp [Value.cells]); (rfl); (clear st; intro w st))); (try simp only [nsl, Value.cells, unB] at st); (try clear hc); have hc := st.facts; (try simp only [nfl, nft, Nat.reduceAdd] at hc))
        obtain ⟨fr', al', st', back⟩ := st.sub [0] (by decide) (by simp)
        (try simp only [nsl, Value.cells, unB] at st')
        refine (refGetRole_m st' (fun xs hx => by cases hx)).mono ?_
        clear st'
        intro en w hen
        unfold RefC bnd at hen
        obtain ⟨rfl, st'⟩ := hen
        replace st := back _ _ (by simp) st'
        clear back st'
        (try simp only [nsl, Value.cells, unB] at st)
        (try clear hc); have hc := st.facts; (try simp only [nfl, nft, Nat.reduceAdd] at hc)
        (try unfold rV)
        (try unfold S)
        obtain ⟨zq, he, st1⟩ := st.refErr (i := 0) get0
        clear st
        have st := st1
        clear st1
        have hne : ((e : Int) != 0) = true := bne_iff_ne.2 he
        have hne2 : ((e : Int) == 0) = false := beq_eq_false_iff_ne.2 he
        (try simp only [nsl, Value.cells, unB] at st)
        (try clear hc); have hc := st.facts; (try simp only [nfl, nft, Nat.reduceAdd] at hc)
        (try unfold S)
        go_wp2_with ((((with_reducible refine wl_store ?_ (fun K hK => ?_)); rfl; refine owp_store rfl st ?_; apply Exists.intro; apply Exists.intro; refine ⟨?_, ?_, ?_⟩; (focus (go_simp; try rfl)); (focus (go_simp; try rfl)); (first | (with_reducible refine ⟨1, _, _, _, _, get1, rfl, rfl, ?_, ?_, ?_, ?_⟩) | (with_reducible refine ⟨2, _, _, _, _, get2, rfl, rfl, ?_, ?_, ?_, ?_⟩)); (kernel_rfl); (simp [Value.cells]); (rfl); (clear st; intro w st))); (try simp only [nsl, Value.cells, unB] at st); (try clear hc); have hc := st.facts; (try simp only [nfl, nft, Nat.reduceAdd] at hc))
        (try simp only [Exit.inBlock, Exit.then])
        refine bodyPost_cell rfl rfl (st.blk (i := 1) get1) Try.underlying32 rfl (by kernel_rfl) rfl ?_
        unfold RefC
        rw [H1.out]
        have st2 := (st.refMkE (i := 0) (t := t) (xs := zq) (er := e) rfl he).keep [0] (by decide) (by simp)
        exact ⟨rfl, by simpa [pick] using st2⟩
      | ok p =>
        obtain ⟨⟨ho, hd⟩, zs⟩ := p
        rw [hr] at hen
        obtain ⟨rfl, st'⟩ := hen
        replace st := back _ _ (by simp) st'
        clear back st'
        (try simp only [nsl, Value.cells, unB] at st)
        (try clear hc); have hc := st.facts; (try simp only [nfl, nft, Nat.reduceAdd] at hc)
        (try dsimp only)
        have hl1 := rdRole_le hr
        have hlb1 := roleR_len hl1.2
        have HR1 := Lib.hid hr
        clear hr
        simp only at hlb1
        (try unfold rV)
        (try unfold S)
        go_wp2_with ((((with_reducible refine wl_store ?_ (fun K hK => ?_)); rfl; refine owp_store rfl st ?_; apply Exists.intro; apply Exists.intro; refine ⟨?_, ?_, ?_⟩; (focus (go_simp; try rfl)); (focus (go_simp; try rfl)); (with_reducible refine ⟨2, _, _, _, _, get2, rfl, rfl, ?_, ?_, ?_, ?_⟩); (kernel_rfl); (simp [Value.cells]); (rfl); (clear st; intro w st))); (try simp only [nsl, Value.cells, unB] at st); (try clear hc); have hc := st.facts; (try simp only [nfl, nft, Nat.reduceAdd] at hc))
        obtain ⟨fr', al', st', back⟩ := st.sub [0] (by decide) (by simp)
        (try simp only [nsl, Value.cells, unB] at st')
        refine (refGetRole_m st' (fun xs hx => by cases hx; omega)).mono ?_
        clear st'
        intro en w hen
        unfold RefC at hen
        rw [show bnd (Except.ok zs) rdRole = rdRole zs from rfl] at hen
        cases hr : rdRole zs with
        | error e =>
          rw [hr] at hen
          obtain ⟨rfl, st'⟩ := hen
          replace st := back _ _ (by simp) st'
          clear back st'
          (try simp only [nsl, Value.cells, unB] at st)
          (try clear hc); have hc := st.facts; (try simp only [nfl, nft, Nat.reduceAdd] at hc)
          have H1 : Hid (rdCred xs = .error e) := Lib.hid (by simp [rdCred, HR0.out, HR1.out, hr, bd])
          clear hr
          (try unfold rV)
          (try unfold S)
          go_wp2_with ((((with_reducible refine wl_store ?_ (fun K hK => ?_)); rfl; refine owp_store rfl st ?_; apply Exists.intro; apply Exists.intro; refine ⟨?_, ?_, ?_⟩; (focus (go_simp; try rfl)); (focus (go_simp; try rfl)); (with_reducible refine ⟨2, _, _, _, _, get2, rfl, rfl, ?_, ?_, ?_, ?_⟩); (kernel_rfl); (simp [Value.cells]); (rfl); (clear st; intro w st))); (try simp only [nsl, Value.cells, unB] at st); (try clear hc); have hc := st.facts; (try simp only [nfl, nft, Nat.reduceAdd] at hc))
          obtain ⟨fr', al', st', back⟩ := st.sub [0] (by decide) (by simp)
          (try simp only [nsl, Value.cells, unB] at st')
          refine (refGetRole_m st' (fun xs hx => by cases hx)).mono ?_
          clear st'
          intro en w hen
          unfold RefC bnd at hen
          obtain ⟨rfl, st'⟩ := hen
          replace st := back _ _ (by simp) st'
          clear back st'
          (try simp only [nsl, Value.cells, unB] at st)
          (try clear hc); have hc := st.facts; (try simp only [nfl, nft, Nat.reduceAdd] at hc)
          (try unfold rV)
          (try unfold S)
          obtain ⟨zq, he, st1⟩ := st.refErr (i := 0) get0
          clear st
          have st := st1
          clear st1
          have hne : ((e : Int) != 0) = true := bne_iff_ne.2 he
          have hne2 : ((e : Int) == 0) = false := beq_eq_false_iff_ne.2 he
          (try simp only [nsl, Value.cells, unB] at st)
          (try clear hc); have hc := st.facts; (try simp only [nfl, nft, Nat.reduceAdd] at hc)
          (try unfold S)
          go_wp2_with ((((with_reducible refine wl_store ?_ (fun K hK => ?_)); rfl; refine owp_store rfl st ?_; apply Exists.intro; apply Exists.intro; refine ⟨?_, ?_, ?_⟩; (focus (go_simp; try rfl)); (focus (go_simp; try rfl)); (first | (with_reducible refine ⟨1, _, _, _, _, get1, rfl, rfl, ?_, ?_, ?_, ?_⟩) | (with_reducible refine ⟨2, _, _, _, _, get2, rfl, rfl, ?_, ?_, ?_, ?_⟩)); (kernel_rfl); (simp [Value.cells]); (rfl); (clear st; intro w st))); (try simp only [nsl, Value.cells, unB] at st); (try clear hc); have hc := st.facts; (try simp only [nfl, nft, Nat.reduceAdd] at hc))
          (try simp only [Exit.inBlock, Exit.then])
          refine bodyPost_cell rfl rfl (st.blk (i := 1) get1) Try.underlying32 rfl (by kernel_rfl) rfl ?_
          unfold RefC
          rw [H1.out]
          have st2 := (st.refMkE (i := 0) (t := t) (xs := zq) (er := e) rfl he).keep [0] (by decide) (by simp)
          exact ⟨rfl, by simpa [pick] using st2⟩
        | ok p =>
          obtain ⟨⟨bo, bd'⟩, us⟩ := p
          rw [hr] at hen
          obtain ⟨rfl, st'⟩ := hen
          replace st := back _ _ (by simp) st'
          clear back st'
          (try simp only [nsl, Value.cells, unB] at st)
          (try clear hc); have hc := st.facts; (try simp only [nfl, nft, Nat.reduceAdd] at hc)
          (try dsimp only)
          have hl2 := rdRole_le hr
          have hlb2 := roleR_len hl2.2
          have HR2 := Lib.hid hr
          clear hr
          simp only at hlb2
          (try unfold rV)
          (try unfold S)
          go_wp2_with ((((with_reducible refine wl_store ?_ (fun K hK => ?_)); rfl; refine owp_store rfl st ?_; apply Exists.intro; apply Exists.intro; refine ⟨?_, ?_, ?_⟩; (focus (go_simp; try rfl)); (focus (go_simp; try rfl)); (with_reducible refine ⟨2, _, _, _, _, get2, rfl, rfl, ?_, ?_, ?_, ?_⟩); (kernel_rfl); (simp [Value.cells]); (rfl); (clear st; intro w st))); (try simp only [nsl, Value.cells, unB] at st); (try clear hc); have hc := st.facts; (try simp only [nfl, nft, Nat.reduceAdd] at hc))
          obtain ⟨fr', al', st', back⟩ := st.sub [0] (by decide) (by simp)
          (try simp only [nsl, Value.cells, unB] at st')
          refine (refGetRole_m st' (fun xs hx => by cases hx; omega)).mono ?_
          clear st'
          intro en w hen
          unfold RefC at hen
          rw [show bnd (Except.ok us) rdRole = rdRole us from rfl] at hen
          cases hr : rdRole us with
          | error e =>
            rw [hr] at hen
            obtain ⟨rfl, st'⟩ := hen
            replace st := back _ _ (by simp) st'
            clear back st'
            (try simp only [nsl, Value.cells, unB] at st)
            (try clear hc); have hc := st.facts; (try simp only [nfl, nft, Nat.reduceAdd] at hc)
            have H1 : Hid (rdCred xs = .error e) := Lib.hid (by simp [rdCred, HR0.out, HR1.out, HR2.out, hr, bd])
            clear hr
            (try unfold rV)
            (try unfold S)
            obtain ⟨zq, he, st1⟩ := st.refErr (i := 0) get0
            clear st
            have st := st1
            clear st1
            have hne : ((e : Int) != 0) = true := bne_iff_ne.2 he
            have hne2 : ((e : Int) == 0) = false := beq_eq_false_iff_ne.2 he
            (try simp only [nsl, Value.cells, unB] at st)
            (try clear hc); have hc := st.facts; (try simp only [nfl, nft, Nat.reduceAdd] at hc)
            (try unfold S)
            go_wp2_with ((((with_reducible refine wl_store ?_ (fun K hK => ?_)); rfl; refine owp_store rfl st ?_; apply Exists.intro; apply Exists.intro; refine ⟨?_, ?_, ?_⟩; (focus (go_simp; try rfl)); (focus (go_simp; try rfl)); (first | (with_reducible refine ⟨1, _, _, _, _, get1, rfl, rfl, ?_, ?_, ?_, ?_⟩) | (with_reducible refine ⟨2, _, _, _, _, get2, rfl, rfl, ?_, ?_, ?_, ?_⟩)); (kernel_rfl); (simp [Value.cells]); (rfl); (clear st; intro w st))); (try simp only [nsl, Value.cells, unB] at st); (try clear hc); have hc := st.facts; (try simp only [nfl, nft, Nat.reduceAdd] at hc))
            (try simp only [Exit.inBlock, Exit.then])
            refine bodyPost_cell rfl rfl (st.blk (i := 1) get1) Try.underlying32 rfl (by kernel_rfl) rfl ?_
            unfold RefC
            rw [H1.out]
            have st2 := (st.refMkE (i := 0) (t := t) (xs := zq) (er := e) rfl he).keep [0] (by decide) (by simp)
            exact ⟨rfl, by simpa [pick] using st2⟩
          | ok p =>
            obtain ⟨⟨co, cd⟩, vs⟩ := p
            rw [hr] at hen
            obtain ⟨rfl, st'⟩ := hen
            replace st := back _ _ (by simp) st'
            clear back st'
            (try simp only [nsl, Value.cells, unB] at st)
            (try clear hc); have hc := st.facts; (try simp only [nfl, nft, Nat.reduceAdd] at hc)
            (try dsimp only)
            have hl3 := rdRole_le hr
            have hlb3 := roleR_len hl3.2
            have HR3 := Lib.hid hr
            clear hr
            simp only at hlb3
            (try unfold rV)
            (try unfold S)
            have HQ := Lib.hid (fun W => refCredRight_any ⟨4, (ho, hd), [], (bo, bd'), (co, cd), []⟩ W (by simp only; (try simp only [List.length_nil]); omega))
            unfold cV S at HQ
            simp only [nR] at HQ
            replace st := st.refOk (i := 0) get0
            (try unfold S at st)
            (try unfold S)
            (try simp only [nsl, Value.cells, unB] at st)
            (try clear hc); have hc := st.facts; (try simp only [nfl, nft, Nat.reduceAdd] at hc)
            go_wp2_with ((((with_reducible refine wl_store ?_ (fun K hK => ?_)); rfl; refine owp_store rfl st ?_; apply Exists.intro; apply Exists.intro; refine ⟨?_, ?_, ?_⟩; (focus (go_simp; try rfl)); (focus (go_simp; try rfl)); (with_reducible refine ⟨2, _, _, _, _, get2, rfl, rfl, ?_, ?_, ?_, ?_⟩); (kernel_rfl); (simp [Value.cells]); (rfl); (clear st; intro w st))); (try simp only [nsl, Value.cells, unB] at st); (try clear hc); have hc := st.facts; (try simp only [nfl, nft, Nat.reduceAdd] at hc))
            refine (HQ.out _).mono ?_
            rintro en w ⟨rfl, hx⟩
            replace st := st.ext hx
            clear hx
            (try clear hc); have hc := st.facts; (try simp only [nfl, nft, Nat.reduceAdd] at hc)
            cases hcr : credR ⟨4, (ho, hd), [], (bo, bd'), (co, cd), []⟩ with
            | true =>
              have H1 : Hid (rdCred xs = .ok (⟨4, (ho, hd), [], (bo, bd'), (co, cd), []⟩, vs)) := Lib.hid (by simp [rdCred, HR0.out, HR1.out, HR2.out, HR3.out, bd, okCr, nR, hcr])
              clear hcr HQ
              go_wp2_with ((((with_reducible refine wl_store ?_ (fun K hK => ?_)); rfl; refine owp_store rfl st ?_; apply Exists.intro; apply Exists.intro; refine ⟨?_, ?_, ?_⟩; (focus (go_simp; try rfl)); (focus (go_simp; try rfl)); (with_reducible refine ⟨1, _, _, _, _, get1, rfl, rfl, ?_, ?_, ?_, ?_⟩); (kernel_rfl); (simp [Value.cells]); (rfl); (clear st; intro w st))); (try simp only [nsl, Value.cells, unB] at st); (try clear hc); have hc := st.facts; (try simp only [nfl, nft, Nat.reduceAdd] at hc))
              (try simp only [Exit.inBlock, Exit.then])
              refine bodyPost_cell rfl rfl (st.blk (i := 1) get1) Try.underlying32 rfl (by kernel_rfl) rfl ?_
              unfold RefC
              rw [H1.out]
              have st2 := (st.refMk (i := 0) (t := t) (xs := vs) rfl).keep [0] (by decide) (by simp)
              exact ⟨rfl, by simpa [pick] using st2⟩
            | false =>
              have H1 : Hid (rdCred xs = .error 11) := Lib.hid (by simp [rdCred, HR0.out, HR1.out, HR2.out, HR3.out, bd, okCr, nR, hcr])
              clear hcr HQ
              go_wp2_with ((((with_reducible refine wl_store ?_ (fun K hK => ?_)); rfl; refine owp_store rfl st ?_; apply Exists.intro; apply Exists.intro; refine ⟨?_, ?_, ?_⟩; (focus (go_simp; try rfl)); (focus (go_simp; try rfl)); (first | (with_reducible refine ⟨0, _, _, _, _, get0, rfl, rfl, ?_, ?_, ?_, ?_⟩) | (with_reducible refine ⟨1, _, _, _, _, get1, rfl, rfl, ?_, ?_, ?_, ?_⟩)); (kernel_rfl); (simp [Value.cells]); (rfl); (clear st; intro w st))); (try simp only [nsl, Value.cells, unB] at st); (try clear hc); have hc := st.facts; (try simp only [nfl, nft, Nat.reduceAdd] at hc))
              (try simp only [Exit.inBlock, Exit.then])
              refine bodyPost_cell rfl rfl (st.blk (i := 1) get1) Try.underlying32 rfl (by kernel_rfl) rfl ?_
              unfold RefC
              rw [H1.out]
              have st2 := (st.refMkE (i := 0) (t := t) (xs := vs) (er := 11) rfl (by decide)).keep [0] (by decide) (by simp)
              exact ⟨rfl, by simpa [pick] using st2⟩
    | n + 5, HR0 =>
      have H1 : Hid (rdCred xs = .error 11) := Lib.hid (by simp [rdCred, HR0.out, bd])
      replace st := st.refOk (i := 0) get0
      (try unfold S at st)
      (try unfold S)
      (try simp only [nsl, Value.cells, unB] at st)
      (try clear hc); have hc := st.facts; (try simp only [nfl, nft, Nat.reduceAdd] at hc)
      go_wp2_with ((first
            | ((with_reducible refine wl_alloc ?_ (fun K hK => ?_)); rfl; refine owp_alloc (o := ⟨some 3, _, _, _, _, _⟩) rfl st ?_; apply Exists.intro; apply Exists.intro; refine ⟨?_, ?_⟩; (focus (first | (go_simp; done) | (go_simp; rfl))); (clear st; intro b3 w hb st; clear hb))
            | ((with_reducible refine wl_store ?_ (fun K hK => ?_)); rfl; refine owp_store rfl st ?_; apply Exists.intro; apply Exists.intro; refine ⟨?_, ?_, ?_⟩; (focus (go_simp; try rfl)); (focus (go_simp; try rfl)); (first | (with_reducible refine ⟨0, _, _, _, _, get0, rfl, rfl, ?_, ?_, ?_, ?_⟩) | (with_reducible refine ⟨2, _, _, _, _, get2, rfl, rfl, ?_, ?_, ?_, ?_⟩)); (kernel_rfl); (simp [Value.cells]); (rfl); (clear st; intro w st))); (try simp only [nsl, Value.cells, unB] at st); (try clear hc); have hc := st.facts; (try simp only [nfl, nft, Nat.reduceAdd] at hc))
      replace st := st.refMkE (i := 0) (t := t) (xs := ys) (er := 11) rfl (by decide)
      (try simp only [nsl, Value.cells, unB] at st)
      (try clear hc); have hc := st.facts; (try simp only [nfl, nft, Nat.reduceAdd] at hc)
      obtain ⟨fr', al', st', back⟩ := st.sub [0] (by decide) (by simp)
      (try simp only [nsl, Value.cells, unB] at st')
      refine (refGetRole_m st' (fun xs hx => by cases hx)).mono ?_
      clear st'
      intro en w hen
      unfold RefC bnd at hen
      obtain ⟨rfl, st'⟩ := hen
      replace st := back _ _ (by simp) st'
      clear back st'
      (try simp only [nsl, Value.cells, unB] at st)
      (try clear hc); have hc := st.facts; (try simp only [nfl, nft, Nat.reduceAdd] at hc)
      (try unfold rV)
      (try unfold S)
      obtain ⟨zq, he, st1⟩ := st.refErr (i := 0) get0
      clear st
      have st := st1
      clear st1
      have hne : ((11 : Int) != 0) = true := bne_iff_ne.2 he
      have hne2 : ((11 : Int) == 0) = false := beq_eq_false_iff_ne.2 he
      (try simp only [nsl, Value.cells, unB] at st)
      (try clear hc); have hc := st.facts; (try simp only [nfl, nft, Nat.reduceAdd] at hc)
      (try unfold S)
      go_wp2_with ((((with_reducible refine wl_store ?_ (fun K hK => ?_)); rfl; refine owp_store rfl st ?_; apply Exists.intro; apply Exists.intro; refine ⟨?_, ?_, ?_⟩; (focus (go_simp; try rfl)); (focus (go_simp; try rfl)); (first | (with_reducible refine ⟨1, _, _, _, _, get1, rfl, rfl, ?_, ?_, ?_, ?_⟩) | (with_reducible refine ⟨2, _, _, _, _, get2, rfl, rfl, ?_, ?_, ?_, ?_⟩)); (kernel_rfl); (simp [Value.cells]); (rfl); (clear st; intro w st))); (try simp only [nsl, Value.cells, unB] at st); (try clear hc); have hc := st.facts; (try simp only [nfl, nft, Nat.reduceAdd] at hc))
      (try simp only [Exit.inBlock, Exit.then])
      refine bodyPost_cell rfl rfl (st.blk (i := 1) get1) Try.underlying32 rfl (by kernel_rfl) rfl ?_
      unfold RefC
      rw [H1.out]
      have st2 := (st.refMkE (i := 0) (t := t) (xs := zq) (er := 11) rfl he).keep [0] (by decide) (by simp)
      exact ⟨rfl, by simpa [pick] using st2⟩
end Go.Proofs.Ytekngjkjgmplpaa

namespace Go.Proofs.Ytekngjkjgmplpaa
set_option linter.unusedSimpArgs false
set_option linter.unusedVariables false
open Go Go.RowKit
def RefStC (fr al : Nat → Prop) (w : World) (t : Nat) (res : Except Int (List StepT × List UInt8)) (en : Ending) (w' : World) : Prop :=
  match res with
  | .error e => en = .returned (.slice none 0 0) ∧ Own fr al w [refI t (.error e)] w'
  | .ok (l, ys) => ∃ n va vc, n = l.length ∧ en = .returned (.slice va n vc) ∧ Own fr al w [refI t (.ok ys), rowI 66 12 (.slice va n vc) n (cellsL l)] w'
def gSt (most : Int) (xs : List UInt8) (n j : Nat) (out : List StepT) (s : Except Int (List UInt8)) : Prop :=
  match s with
  | .error e => rdSteps most xs = .error e
  | .ok zs => rdSteps most xs = addN out (rdN rdStep (n - j) zs) ∧ j = out.length ∧ zs.length ≤ 100000
set_option maxRecDepth 100000 in
set_option maxHeartbeats 8000000 in
theorem refChainGet_c {fr al : Nat → Prop} {W : World} {t : Nat} {xs : List UInt8} (st : Own fr al W [refI t (.ok xs)] W) (most : Int) (hm : most ≤ 100000) (hl : xs.length ≤ 100000) :
    Calls Try.prog 49 #[.pointer (some ⟨t, 0, none⟩), .int .i64 most] W (RefStC fr al W t (rdSteps most xs)) := by
  have hz : cV zC = .agg #[.int .i64 0, .string ⟨#[]⟩, .string ⟨#[]⟩, .string ⟨#[]⟩, .string ⟨#[]⟩, .string ⟨#[]⟩, .string ⟨#[]⟩, .string ⟨#[]⟩, .string ⟨#[]⟩] := rfl
  have HZ := Lib.hid hz
  clear hz
  go_enter Try.func49, Try.ntmps49
  go_wp2_with fail
  obtain ⟨fr', al', st', back⟩ := st.sub [0] (by decide) (by simp)
  (try simp only [nsl, Value.cells, unB] at st')
  refine (refNumber_m st' most).mono ?_
  clear st'
  intro en w hen
  unfold RefC at hen
  rw [show bnd (Except.ok xs) (rdNumber most) = rdNumber most xs from rfl] at hen
  cases hr : rdNumber most xs with
  | error e =>
    rw [hr] at hen
    obtain ⟨rfl, st'⟩ := hen
    replace st := back _ _ (by simp) st'
    clear back st'
    (try simp only [nsl, Value.cells, unB] at st)
    (try clear hc); have hc := st.facts; (try simp only [nfl, nft, Nat.reduceAdd] at hc)
    have H1 : Hid (rdSteps most xs = .error e) := Lib.hid (by simp [rdSteps, hr, bd])
    clear hr
    obtain ⟨zq, he, st1⟩ := st.refErr (i := 0) get0
    clear st
    have st := st1
    clear st1
    have hne : ((e : Int) != 0) = true := bne_iff_ne.2 he
    have hne2 : ((e : Int) == 0) = false := beq_eq_false_iff_ne.2 he
    unfold S at st
    (try simp only [nsl, Value.cells, unB] at st)
    (try clear hc); have hc := st.facts; (try simp only [nfl, nft, Nat.reduceAdd] at hc)
    go_wp2_with fail
    go_loopg [6, 7] 0 (fun k v i wr => v = .slice none 0 0 ∧ i = .int .i64 0 ∧ Own fr al W [blkI t [.string ⟨zq.toArray⟩, .int .i64 e]] wr)
    case atStart => exact ⟨rfl, rfl, st⟩
    case round =>
      obtain ⟨rfl, rfl, st'⟩ := hrel
      clear st hc
      have st := st'
      clear st'
      (try simp only [nsl, Value.cells, unB] at st)
      (try clear hc); have hc := st.facts; (try simp only [nfl, nft, Nat.reduceAdd] at hc)
      go_wp2_with fail
      go_ret
      unfold RefStC
      rw [H1.out]
      have st2 := (st.refMkE (i := 0) (t := t) (xs := zq) (er := e) rfl he).keep [0] (by decide) (by simp)
      exact ⟨rfl, by simpa [pick] using st2⟩
  | ok p =>
    obtain ⟨n, ys⟩ := p
    rw [hr] at hen
    obtain ⟨rfl, st'⟩ := hen
    replace st := back _ _ (by simp) st'
    clear back st'
    (try simp only [nsl, Value.cells, unB] at st)
    (try clear hc); have hc := st.facts; (try simp only [nfl, nft, Nat.reduceAdd] at hc)
    (try dsimp only)
    have hl1 := rdNumber_leM hr
    have HR1 : Hid (rdSteps most xs = rdN rdStep n ys) := Lib.hid (by simp [rdSteps, hr, bd])
    clear hr
    have hn : n ≤ 100000 := by omega
    replace st := st.row_nil 66 12
    (try simp only [nsl, Value.cells, unB] at st)
    (try clear hc); have hc := st.facts; (try simp only [nfl, nft, Nat.reduceAdd] at hc)
    go_wp2_with fail
    go_loopg [6, 7] n (fun k v i wr => ∃ (j : Nat) (out : List StepT) (s : Except Int (List UInt8)) (va : Option Addr) (vc : Nat), j ≤ n ∧ k = n - j ∧ v = .slice va j vc ∧ i = .int .i64 (j : Int) ∧ Hid (gSt most xs n j out s) ∧ Own fr al W [refI t s, rowI 66 12 (.slice va j vc) j (cellsL out)] wr)
    case atStart => exact ⟨0, [], .ok ys, none, 0, by omega, by omega, rfl, rfl, Lib.hid ⟨by rw [HR1.out, addN_nil]; rfl, rfl, by omega⟩, st⟩
    case round =>
      obtain ⟨j, out, s, va, vc, hj, rfl, rfl, rfl, HS, st'⟩ := hrel
      clear st hc
      have st := st'
      clear st'
      cases s with
      | error e =>
        have H1 : Hid (rdSteps most xs = .error e) := Lib.hid HS.out
        obtain ⟨zq, he, st1⟩ := st.refErr (i := 0) get0
        clear st
        have st := st1
        clear st1
        have hne : ((e : Int) != 0) = true := bne_iff_ne.2 he
        have hne2 : ((e : Int) == 0) = false := beq_eq_false_iff_ne.2 he
        unfold S at st
        (try simp only [nsl, Value.cells, unB] at st)
        (try clear hc); have hc := st.facts; (try simp only [nfl, nft, Nat.reduceAdd] at hc)
        by_cases hjn : j < n
        · skip
          go_wp2_with fail
          go_ret
          unfold RefStC
          rw [H1.out]
          have st2 := (st.refMkE (i := 0) (t := t) (xs := zq) (er := e) rfl he).keep [0] (by decide) (by simp)
          exact ⟨rfl, by simpa [pick] using st2⟩
        · obtain rfl : j = n := by omega
          go_wp2_with fail
          go_ret
          unfold RefStC
          rw [H1.out]
          have st2 := (st.refMkE (i := 0) (t := t) (xs := zq) (er := e) rfl he).keep [0] (by decide) (by simp)
          exact ⟨rfl, by simpa [pick] using st2⟩
      | ok zs =>
        have HT : Hid (rdSteps most xs = addN out (rdN rdStep (n - j) zs)) := Lib.hid HS.out.1
        have HJ : Hid (j = out.length) := Lib.hid HS.out.2.1
        have hzl : zs.length ≤ 100000 := HS.out.2.2
        clear HS
        replace st := st.refOk (i := 0) get0
        unfold S at st
        (try simp only [nsl, Value.cells, unB] at st)
        (try clear hc); have hc := st.facts; (try simp only [nfl, nft, Nat.reduceAdd] at hc)
        by_cases hjn : j < n
        · obtain ⟨q, hq⟩ : ∃ q, n - j = q + 1 := ⟨n - j - 1, by omega⟩
          rw [hq] at HT
          have hq2 : n - (j + 1) = q := by omega
          clear hq
          go_wp2_with fail
          replace st := st.refMk (i := 0) (t := t) (xs := zs) rfl
          (try simp only [nsl, Value.cells, unB] at st)
          (try clear hc); have hc := st.facts; (try simp only [nfl, nft, Nat.reduceAdd] at hc)
          obtain ⟨fr', al', st', back⟩ := st.sub [0] (by decide) (by simp)
          (try simp only [nsl, Value.cells, unB] at st')
          refine (refCredGet_c st' (by omega)).mono ?_
          clear st'
          intro en w hen
          unfold RefC at hen
          cases hr : rdCred zs with
          | error e =>
            rw [hr] at hen
            obtain ⟨rfl, st'⟩ := hen
            replace st := back _ _ (by simp) st'
            clear back st'
            (try simp only [nsl, Value.cells, unB] at st)
            (try clear hc); have hc := st.facts; (try simp only [nfl, nft, Nat.reduceAdd] at hc)
            rw [HZ.out]
            have H1 : Hid (rdSteps most xs = .error e) := Lib.hid (by rw [HT.out]; exact addN_er rdStep _ _ (by simp [rdStep, hr, bd]))
            clear hr
            go_wp2_with ((first
                  | ((with_reducible refine wl_alloc ?_ (fun K hK => ?_)); rfl; refine owp_alloc (o := ⟨some 8, _, _, _, _, _⟩) rfl st ?_; apply Exists.intro; apply Exists.intro; refine ⟨?_, ?_⟩; (focus (first | (go_simp; done) | (go_simp; rfl))); (clear st; intro b8 w hb st; clear hb))
                  | ((with_reducible refine wl_store ?_ (fun K hK => ?_)); rfl; refine owp_store rfl st ?_; apply Exists.intro; apply Exists.intro; refine ⟨?_, ?_, ?_⟩; (focus (go_simp; try rfl)); (focus (go_simp; try rfl)); (with_reducible refine ⟨2, _, _, _, _, get2, rfl, rfl, ?_, ?_, ?_, ?_⟩); (kernel_rfl); (simp [Value.cells]); (rfl); (clear st; intro w st))); (try simp only [nsl, Value.cells, unB] at st); (try clear hc); have hc := st.facts; (try simp only [nfl, nft, Nat.reduceAdd] at hc))
            obtain ⟨fr', al', st', back⟩ := st.sub [0] (by decide) (by simp)
            (try simp only [nsl, Value.cells, unB] at st')
            refine (refGetName_m st' (fun xs hx => by cases hx)).mono ?_
            clear st'
            intro en w hen
            unfold RefC at hen
            unfold bnd at hen
            obtain ⟨rfl, st'⟩ := hen
            replace st := back _ _ (by simp) st'
            clear back st'
            (try simp only [nsl, Value.cells, unB] at st)
            (try clear hc); have hc := st.facts; (try simp only [nfl, nft, Nat.reduceAdd] at hc)
            (try unfold S)
            go_wp2_with (first
                | ((with_reducible refine wl_append ?_ (fun K hK => ?_)); (rfl); (obtain ⟨inf, hinf, hz0, hz1, hz2⟩ := stepInfo); (refine owp_append rfl st 1 get1 Try.underlying60 hinf hz0 hz1 hz2 rfl (by decide) rfl rfl ((st.blk (i := 3) get3).flat rfl) (by first | exact cellsL_all _ | simp [Value.oneCell']) (by simp only [maxLen]; omega) (by omega) ?_); (clear hinf hz0 hz1 hz2 inf); (clear st; intro v' w st); (obtain ⟨va', vc', rfl⟩ := own_slice (st.row (i := 1) get1)); (try simp only [nsl, Value.cells, unB] at st); (try simp only [Nat.zero_add] at st); (try clear hc); have hc := st.facts; (try simp only [nfl, nft, Nat.reduceAdd] at hc))
                | ((((with_reducible refine wl_buildSlice ?_ (fun K hK => ?_)); rfl; refine owp_buildSlice (o := ⟨some 36, _, _, _, _, _⟩) rfl st ?_; apply Exists.intro; apply Exists.intro; apply Exists.intro; apply Exists.intro; refine ⟨?_, ?_⟩; (focus (go_simp; (first | done | exact ⟨⟨rfl, rfl⟩, rfl⟩ | rfl))); (clear st; intro b36 w hb st; clear hb))); (try simp only [nsl, Value.cells, unB] at st); (try clear hc); have hc := st.facts; (try simp only [nfl, nft, Nat.reduceAdd] at hc)))
            have st' := st.keep [0, 1] (by decide) (by simp)
            go_roundg (n - (j + 1))
            case measure => omega
            case rel =>
              refine ⟨j + 1, out ++ [zS], (.error e), va', vc', by omega, by omega, rfl, by go_num, Lib.hid H1.out, ?_⟩
              rw [cellsL_append, cellsL_one']
              exact st'
          | ok p =>
            obtain ⟨x, us⟩ := p
            rw [hr] at hen
            obtain ⟨rfl, st'⟩ := hen
            replace st := back _ _ (by simp) st'
            clear back st'
            (try simp only [nsl, Value.cells, unB] at st)
            (try clear hc); have hc := st.facts; (try simp only [nfl, nft, Nat.reduceAdd] at hc)
            (try dsimp only)
            have hl2 := (rdCred_le hr).1
            have HR2 := Lib.hid hr
            clear hr
            obtain ⟨ck, ⟨ho, hd⟩, cw, ⟨bo, bd'⟩, ⟨co, cd⟩, we⟩ := x
            unfold cV S
            simp only
            go_wp2_with ((first
                  | ((with_reducible refine wl_alloc ?_ (fun K hK => ?_)); rfl; refine owp_alloc (o := ⟨some 8, _, _, _, _, _⟩) rfl st ?_; apply Exists.intro; apply Exists.intro; refine ⟨?_, ?_⟩; (focus (first | (go_simp; done) | (go_simp; rfl))); (clear st; intro b8 w hb st; clear hb))
                  | ((with_reducible refine wl_store ?_ (fun K hK => ?_)); rfl; refine owp_store rfl st ?_; apply Exists.intro; apply Exists.intro; refine ⟨?_, ?_, ?_⟩; (focus (go_simp; try rfl)); (focus (go_simp; try rfl)); (with_reducible refine ⟨2, _, _, _, _, get2, rfl, rfl, ?_, ?_, ?_, ?_⟩); (kernel_rfl); (simp [Value.cells]); (rfl); (clear st; intro w st))); (try simp only [nsl, Value.cells, unB] at st); (try clear hc); have hc := st.facts; (try simp only [nfl, nft, Nat.reduceAdd] at hc))
            obtain ⟨fr', al', st', back⟩ := st.sub [0] (by decide) (by simp)
            (try simp only [nsl, Value.cells, unB] at st')
            refine (refGetName_m st' (fun xs hx => by cases hx; omega)).mono ?_
            clear st'
            intro en w hen
            unfold RefC at hen
            rw [show bnd (Except.ok us) rdName = rdName us from rfl] at hen
            cases hr : rdName us with
            | error e =>
              rw [hr] at hen
              obtain ⟨rfl, st'⟩ := hen
              replace st := back _ _ (by simp) st'
              clear back st'
              (try simp only [nsl, Value.cells, unB] at st)
              (try clear hc); have hc := st.facts; (try simp only [nfl, nft, Nat.reduceAdd] at hc)
              (try unfold S)
              have H1 : Hid (rdSteps most xs = .error e) := Lib.hid (by rw [HT.out]; exact addN_er rdStep _ _ (by simp [rdStep, HR2.out, hr, bd]))
              clear hr
              go_wp2_with (first
                  | ((with_reducible refine wl_append ?_ (fun K hK => ?_)); (rfl); (obtain ⟨inf, hinf, hz0, hz1, hz2⟩ := stepInfo); (refine owp_append rfl st 1 get1 Try.underlying60 hinf hz0 hz1 hz2 rfl (by decide) rfl rfl ((st.blk (i := 3) get3).flat rfl) (by first | exact cellsL_all _ | simp [Value.oneCell']) (by simp only [maxLen]; omega) (by omega) ?_); (clear hinf hz0 hz1 hz2 inf); (clear st; intro v' w st); (obtain ⟨va', vc', rfl⟩ := own_slice (st.row (i := 1) get1)); (try simp only [nsl, Value.cells, unB] at st); (try simp only [Nat.zero_add] at st); (try clear hc); have hc := st.facts; (try simp only [nfl, nft, Nat.reduceAdd] at hc))
                  | ((((with_reducible refine wl_buildSlice ?_ (fun K hK => ?_)); rfl; refine owp_buildSlice (o := ⟨some 36, _, _, _, _, _⟩) rfl st ?_; apply Exists.intro; apply Exists.intro; apply Exists.intro; apply Exists.intro; refine ⟨?_, ?_⟩; (focus (go_simp; (first | done | exact ⟨⟨rfl, rfl⟩, rfl⟩ | rfl))); (clear st; intro b36 w hb st; clear hb))); (try simp only [nsl, Value.cells, unB] at st); (try clear hc); have hc := st.facts; (try simp only [nfl, nft, Nat.reduceAdd] at hc)))
              have st' := st.keep [0, 1] (by decide) (by simp)
              go_roundg (n - (j + 1))
              case measure => omega
              case rel =>
                refine ⟨j + 1, out ++ [⟨⟨ck, (ho, hd), cw, (bo, bd'), (co, cd), we⟩, ⟨(ho, hd), []⟩⟩], (.error e), va', vc', by omega, by omega, rfl, by go_num, Lib.hid H1.out, ?_⟩
                rw [cellsL_append, cellsL_one']
                exact st'
            | ok p =>
              obtain ⟨fw, ts⟩ := p
              rw [hr] at hen
              obtain ⟨rfl, st'⟩ := hen
              replace st := back _ _ (by simp) st'
              clear back st'
              (try simp only [nsl, Value.cells, unB] at st)
              (try clear hc); have hc := st.facts; (try simp only [nfl, nft, Nat.reduceAdd] at hc)
              (try dsimp only)
              (try unfold S)
              have hl3 := (rdName_le hr).1
              have H1 : Hid (rdSteps most xs = addN (out ++ [⟨⟨ck, (ho, hd), cw, (bo, bd'), (co, cd), we⟩, ⟨(ho, hd), fw⟩⟩]) (rdN rdStep q ts)) := Lib.hid (by rw [HT.out]; exact addN_ok rdStep _ _ (by simp [rdStep, HR2.out, hr, bd]))
              clear hr
              go_wp2_with (first
                  | ((with_reducible refine wl_append ?_ (fun K hK => ?_)); (rfl); (obtain ⟨inf, hinf, hz0, hz1, hz2⟩ := stepInfo); (refine owp_append rfl st 1 get1 Try.underlying60 hinf hz0 hz1 hz2 rfl (by decide) rfl rfl ((st.blk (i := 3) get3).flat rfl) (by first | exact cellsL_all _ | simp [Value.oneCell']) (by simp only [maxLen]; omega) (by omega) ?_); (clear hinf hz0 hz1 hz2 inf); (clear st; intro v' w st); (obtain ⟨va', vc', rfl⟩ := own_slice (st.row (i := 1) get1)); (try simp only [nsl, Value.cells, unB] at st); (try simp only [Nat.zero_add] at st); (try clear hc); have hc := st.facts; (try simp only [nfl, nft, Nat.reduceAdd] at hc))
                  | ((((with_reducible refine wl_buildSlice ?_ (fun K hK => ?_)); rfl; refine owp_buildSlice (o := ⟨some 36, _, _, _, _, _⟩) rfl st ?_; apply Exists.intro; apply Exists.intro; apply Exists.intro; apply Exists.intro; refine ⟨?_, ?_⟩; (focus (go_simp; (first | done | exact ⟨⟨rfl, rfl⟩, rfl⟩ | rfl))); (clear st; intro b36 w hb st; clear hb))); (try simp only [nsl, Value.cells, unB] at st); (try clear hc); have hc := st.facts; (try simp only [nfl, nft, Nat.reduceAdd] at hc)))
              have st' := st.keep [0, 1] (by decide) (by simp)
              go_roundg (n - (j + 1))
              case measure => omega
              case rel =>
                refine ⟨j + 1, out ++ [⟨⟨ck, (ho, hd), cw, (bo, bd'), (co, cd), we⟩, ⟨(ho, hd), fw⟩⟩], (.ok ts), va', vc', by omega, by omega, rfl, by go_num, Lib.hid ⟨by rw [hq2]; exact H1.out, by simp [HJ.out], by omega⟩, ?_⟩
                rw [cellsL_append, cellsL_one']
                exact st'
        · obtain rfl : j = n := by omega
          have H1 : Hid (rdSteps most xs = .ok (out, zs)) := Lib.hid (by rw [HT.out, Nat.sub_self]; exact addN_end rdStep _ _)
          go_wp2_with fail
          go_ret
          unfold RefStC
          rw [H1.out]
          have st2 := st.refMk (i := 0) (t := t) (xs := zs) rfl
          exact ⟨j, va, vc, HJ.out, rfl, by simpa using st2⟩
end Go.Proofs.Ytekngjkjgmplpaa

namespace Go.Proofs.Ytekngjkjgmplpaa
set_option linter.unusedSimpArgs false
set_option linter.unusedVariables false
open Go Go.RowKit
theorem chainBy_yes {l : List StepT} (h : chainOk l = true) : chainBy l = chainB l := by unfold chainBy; rw [if_pos h]
theorem chainBy_nil {l : List StepT} (h : chainOk l = false) : chainBy l = [] := by unfold chainBy; rw [if_neg (by rw [h]; decide)]
theorem rdSteps_len {most : Int} {xs ys : List UInt8} {l : List StepT} (h : rdSteps most xs = .ok (l, ys)) : (l.length : Int) ≤ most := by
  unfold rdSteps at h
  cases h1 : rdNumber most xs with
  | error e => rw [h1, bd_er] at h; cases h
  | ok p =>
    obtain ⟨n, us⟩ := p
    rw [h1, bd_ok] at h
    have := (rdN_le rdStep (fun _ _ _ => rdStep_le) h).2
    have := (rdNumber_leM h1).2
    omega
set_option maxRecDepth 100000 in
set_option maxHeartbeats 8000000 in
theorem checkGets_all (a : Option Addr) (n c : Nat) (l : List StepT) (a1 : Option Addr) (n1 c1 : Nat) (xb : List UInt8) (k : Int) (W : World) (h : Fl W a n l) (hb : By W a1 n1 xb) (hc : n1 ≤ c1 ∧ c1 ≤ maxLen) (hw : weightS l ≤ 21000000) (hk : 0 ≤ k ∧ k ≤ 255) :
    Calls Try.prog 6 #[.slice a n c, .slice a1 n1 c1, .int .u8 k] W fun e w' => e = .returned (.bool true) ∧ Ext W w' := by
  obtain ⟨kn, rfl⟩ : ∃ q : Nat, k = (q : Int) := ⟨k.toNat, by omega⟩
  have hk2 : kn ≤ 255 := by omega
  have hnl : weightS l ≤ 100000 → n ≤ 1000000 := fun q => by have := weightS_len l; have := h.1; omega
  have hnl2 : n ≤ 2000000 := by have := weightS_len l; have := h.1; omega
  have H := Lib.hid h
  have HC := Lib.hid hc
  have HN : Hid (n1 = xb.length) := Lib.hid hb.1
  have st := (Own.startOld W).addOldBy (i := 0) rfl hb
  have HG := Lib.hid (fun W' h => stepGreat_any a n c l W' h (by omega))
  have HBY := Lib.hid (fun W' h q => refChainBytes_any a n c l W' h (hnl q) (weightS_L q))
  have HPN := Lib.hid (fun p W' h q d => chkPut_no p a n c l W' h (by omega) (weightS_L q) d)
  obtain ⟨q, hq⟩ : ∃ q, weightS l = q := ⟨_, rfl⟩
  rw [hq] at HG HBY HPN hw
  have HUL : Hid (chainOk l = true → (chainB l).length ≤ 110000 ∧ chainB l ≠ []) := Lib.hid (fun q => ⟨chainB_len q, chainB_ne l⟩)
  have HY := Lib.hid (fun q => chainBy_yes (l := l) q)
  have HZ := Lib.hid (fun q => chainBy_nil (l := l) q)
  have hpy := fun (fr al : Nat → Prop) (W : World) (p : Nat) (st : Own fr al W [penI p [], flI a n l] W) q => chkPut_yes (c := c) st q (by simp)
  obtain ⟨u, hu⟩ : ∃ u, chainB l = u := ⟨_, rfl⟩
  rw [hu] at HUL hpy HY
  obtain ⟨v, hv⟩ : ∃ v, chainBy l = v := ⟨_, rfl⟩
  rw [hv] at HBY HY HZ
  have HPY := Lib.hid hpy
  have hl1 : n1 ≤ 1500 → xb.length ≤ 1500 := by have := HN.out; omega
  clear h hb hc hk hpy hu hv hq hnl
  (try simp only [nsl, Value.cells, unB] at st)
  (try clear hc); have hc := st.facts; (try simp only [nfl, nft, Nat.reduceAdd] at hc)
  go_enter Try.func6, Try.ntmps6
  go_wp2_with ((((with_reducible refine wl_box ?_ (fun K hK => ?_)); rfl; refine owp_box (o := ⟨some 5, _, _, _, _, _⟩) rfl st ?_; apply Exists.intro; refine ⟨?_, ?_⟩; (focus (go_simp; try rfl)); (clear st; intro b5 w hb st; clear hb))); (try simp only [nsl, Value.cells, unB] at st); (try clear hc); have hc := st.facts; (try simp only [nfl, nft, Nat.reduceAdd] at hc))
  refine (chkFirst_any _).mono ?_
  rintro en w ⟨rfl, hx⟩
  replace st := st.ext hx
  clear hx
  (try clear hc); have hc := st.facts; (try simp only [nfl, nft, Nat.reduceAdd] at hc)
  go_wp2_with fail
  refine (HG.out _ (st.oldFl (i := 0) get0 H.out)).mono ?_
  rintro en w ⟨rfl, hx⟩
  replace st := st.ext hx
  clear hx
  (try clear hc); have hc := st.facts; (try simp only [nfl, nft, Nat.reduceAdd] at hc)
  by_cases h1 : 2500 < q
  · skip
    go_wp2_with fail
    go_ret
    exact ⟨rfl, st.ext0⟩
  by_cases h2 : 1500 < n1
  · skip
    go_wp2_with fail
    go_ret
    exact ⟨rfl, st.ext0⟩
  have hq2 : q ≤ 100000 := by omega
  have hxb : xb.length ≤ 1500 := hl1 (by omega)
  clear hl1
  go_wp2_with ((((with_reducible refine wl_box ?_ (fun K hK => ?_)); rfl; refine owp_box (o := ⟨some 24, _, _, _, _, _⟩) rfl st ?_; apply Exists.intro; refine ⟨?_, ?_⟩; (focus (go_simp; try rfl)); (clear st; intro b24 w hb st; clear hb))); (try simp only [nsl, Value.cells, unB] at st); (try clear hc); have hc := st.facts; (try simp only [nfl, nft, Nat.reduceAdd] at hc))
  replace st := st.newPen (i := 3) get3
  (try simp only [nsl, Value.cells, unB] at st)
  (try clear hc); have hc := st.facts; (try simp only [nfl, nft, Nat.reduceAdd] at hc)
  refine (HBY.out _ (st.oldFl (i := 0) get0 H.out) hq2).mono ?_
  rintro en w ⟨rfl, hx⟩
  replace st := st.ext hx
  clear hx
  (try clear hc); have hc := st.facts; (try simp only [nfl, nft, Nat.reduceAdd] at hc)
  unfold S
  cases hok : chainOk l with
  | true =>
    obtain ⟨hul, hune⟩ := HUL.out hok
    obtain rfl : v = u := HY.out hok
    have HOK := Lib.hid hok
    have hune1 : (v == []) = false := by simpa using hune
    have hune3 : (v != []) = true := by simpa using hune
    have huu : (v == v) = true := by simp
    have huu2 : (v != v) = false := by simp
    clear hok hune
    replace st := st.addOldFl (i := 0) get0 H.out
    (try simp only [nsl, Value.cells, unB] at st)
    (try clear hc); have hc := st.facts; (try simp only [nfl, nft, Nat.reduceAdd] at hc)
    go_wp2_with fail
    obtain ⟨fr', al', st', back⟩ := st.sub [3, 4] (by decide) (by simp)
    (try simp only [nsl, Value.cells, unB] at st')
    refine (HPY.out _ _ _ _ st' HOK.out).mono ?_
    clear st'
    rintro en w ⟨rfl, st'⟩
    replace st := back _ _ (by simp) st'
    clear back st'
    (try simp only [nsl, Value.cells, unB] at st)
    (try clear hc); have hc := st.facts; (try simp only [nfl, nft, Nat.reduceAdd] at hc)
    (try simp only [List.nil_append] at st)
    go_wp2_with fail
    obtain ⟨fr', al', st', back⟩ := st.sub [3] (by decide) (by simp)
    (try simp only [nsl, Value.cells, unB] at st')
    refine (penBytes_c st' (by omega)).mono ?_
    clear st'
    rintro en w ⟨pa, pc, rfl, hpc, st'⟩
    replace st := back _ _ (by simp) st'
    clear back st'
    (try simp only [nsl, Value.cells, unB] at st)
    (try clear hc); have hc := st.facts; (try simp only [nfl, nft, Nat.reduceAdd] at hc)
    go_wp2_with ((((with_reducible refine wl_convert ?_ (fun K hK => ?_)); rfl; (first | (refine owp_bs (o := ⟨some 36, _, _, _, _, _⟩) rfl st 5 get5 rfl Try.underlying33 Try.underlying5 Try.underlying9 ?_)))); (try simp only [nsl, Value.cells, unB] at st); (try clear hc); have hc := st.facts; (try simp only [nfl, nft, Nat.reduceAdd] at hc))
    refine (HPN.out none _ (st.oldFl (i := 0) get0 H.out) hq2 (.inl rfl)).mono ?_
    rintro en w ⟨rfl, hx⟩
    replace st := st.ext hx
    clear hx
    have st2 := st.keep [0, 1, 2] (by decide) (by simp)
    clear st
    have st := st2
    clear st2
    simp only [pick, List.map_cons, List.map_nil, List.getElem?_cons_zero, List.getElem?_cons_succ, Option.getD_some] at st
    (try simp only [nsl, Value.cells, unB] at st)
    (try clear hc); have hc := st.facts; (try simp only [nfl, nft, Nat.reduceAdd] at hc)
    go_wp2_with ((first
          | ((with_reducible refine wl_convert ?_ (fun K hK => ?_)); rfl; (first | (refine owp_bs (o := ⟨some 45, _, _, _, _, _⟩) rfl st 1 get1 rfl Try.underlying33 Try.underlying5 Try.underlying9 ?_)))
          | ((with_reducible refine wl_box ?_ (fun K hK => ?_)); rfl; refine owp_box (o := ⟨some 47, _, _, _, _, _⟩) rfl st ?_; apply Exists.intro; refine ⟨?_, ?_⟩; (focus (go_simp; try rfl)); (clear st; intro b47 w hb st; clear hb))
          | ((with_reducible refine wl_alloc ?_ (fun K hK => ?_)); rfl; refine owp_alloc (o := ⟨some 10, _, _, _, _, _⟩) rfl st ?_; apply Exists.intro; apply Exists.intro; refine ⟨?_, ?_⟩; (focus (first | (go_simp; done) | (go_simp; rfl))); (clear st; intro b10 w hb st; clear hb))); (try simp only [nsl, Value.cells, unB] at st); (try clear hc); have hc := st.facts; (try simp only [nfl, nft, Nat.reduceAdd] at hc))
    replace st := st.refMk (i := 3) (t := b47) (xs := xb) get3
    (try simp only [nsl, Value.cells, unB] at st)
    (try clear hc); have hc := st.facts; (try simp only [nfl, nft, Nat.reduceAdd] at hc)
    refine (readGetN_c (i := 4) (j := 2) (b := b10) st get4 get2 (by decide) (st.by (i := 1) get1) HC.out (by omega) 47 #[.pointer (some ⟨b5, 0, none⟩), .pointer (some ⟨b10, 0, none⟩)] (fun _ _ => by kernel_rfl) (rdSteps (kn : Int) xb) stepsMM (fun fr al w r st => chkgetsGet_c st (by omega) ⟨by omega, by omega⟩)).mono ?_
    rintro en w ⟨r1, cs, M, rfl, hg, st'⟩
    clear st
    cases hr : rdSteps (kn : Int) xb with
    | error er =>
      have he : er ≠ 0 := rdSteps_er hr
      have hbb : (er == er) = true := by simp
      (try rw [hr] at hg)
      (try rw [hr])
      unfold GotM at hg
      obtain ⟨rfl, rfl⟩ := hg
      simp only [gotE, List.set, List.append_nil] at st' ⊢
      have st := st'.keep [1, 3, 4, 5] (by decide) (by simp)
      clear st'
      simp only [pick, List.map_cons, List.map_nil, List.getElem?_cons_zero, List.getElem?_cons_succ, Option.getD_some] at st
      (try simp only [nsl, Value.cells, unB] at st)
      (try clear hc); have hc := st.facts; (try simp only [nfl, nft, Nat.reduceAdd] at hc)
      go_wp2_with fail
      obtain ⟨fr', al', st', back⟩ := st.sub [2] (by decide) (by simp)
      (try simp only [nsl, Value.cells, unB] at st')
      refine (refChainGet_c st' (kn : Int) (by omega) (by omega)).mono ?_
      clear st'
      intro en w hen
      rw [hr] at hen
      unfold RefStC at hen
      obtain ⟨rfl, st'⟩ := hen
      replace st := back _ _ (by simp) st'
      clear back st'
      (try simp only [nsl, Value.cells, unB] at st)
      (try clear hc); have hc := st.facts; (try simp only [nfl, nft, Nat.reduceAdd] at hc)
      clear hr
      go_wp2_with fail
      refine (refSame_any none 0 0 [] none 0 0 [] _ (Fl.nil _ _) (Fl.nil _ _) (by decide) (by decide) rfl).mono ?_
      rintro en w ⟨rfl, hx⟩
      replace st := st.ext hx
      clear hx
      (try simp only [nsl, Value.cells, unB] at st)
      (try clear hc); have hc := st.facts; (try simp only [nfl, nft, Nat.reduceAdd] at hc)
      go_wp2_with fail
      refine (refEnd_c st 2 get2).mono ?_
      rintro en w' ⟨rfl, rfl⟩
      go_wp2_with fail
      go_ret
      exact ⟨rfl, st.ext0⟩
    | ok p =>
      obtain ⟨l2, ys⟩ := p
      (try rw [hr] at hg)
      (try rw [hr])
      unfold GotM stepsMM stepsM at hg
      obtain ⟨v, rfl, m, va, vc, hm, rfl, rfl⟩ := hg
      have HM := Lib.hid hm
      have hm2 : m ≤ 1000 := by
        have := rdSteps_len hr
        omega
      clear hm
      simp only [gotE, List.set, List.cons_append, List.nil_append] at st' ⊢
      have st := st'.keep [1, 3, 4, 5, 6] (by decide) (by simp)
      clear st'
      simp only [pick, List.map_cons, List.map_nil, List.getElem?_cons_zero, List.getElem?_cons_succ, Option.getD_some] at st
      have HR2 := Lib.hid hr
      clear hr
      (try simp only [nsl, Value.cells, unB] at st)
      (try clear hc); have hc := st.facts; (try simp only [nfl, nft, Nat.reduceAdd] at hc)
      by_cases hy : ys = []
      · subst hy
        simp only [if_true]
        go_wp2_with fail
        obtain ⟨fr', al', st', back⟩ := st.sub [2] (by decide) (by simp)
        (try simp only [nsl, Value.cells, unB] at st')
        refine (refChainGet_c st' (kn : Int) (by omega) (by omega)).mono ?_
        clear st'
        intro en w hen
        rw [HR2.out] at hen
        unfold RefStC at hen
        obtain ⟨m', va', vc', hm', rfl, st'⟩ := hen
        obtain rfl : m = m' := HM.out.trans hm'.symm
        clear hm'
        replace st := back _ _ (by simp) st'
        clear back st'
        (try simp only [nsl, Value.cells, unB] at st)
        (try clear hc); have hc := st.facts; (try simp only [nfl, nft, Nat.reduceAdd] at hc)
        go_wp2_with fail
        have q1 := (st.rowFl3 (α := StepT) (xs := l2) (i := 4) get4).2
        have q2 := (st.rowFl3 (α := StepT) (xs := l2) (i := 5) get5).2
        refine (refSame_any _ m _ l2 _ m _ l2 _ q1 q2 (by omega) (by omega) rfl).mono ?_
        rintro en w ⟨rfl, hx⟩
        replace st := st.ext hx
        clear hx q1 q2
        (try simp only [nsl, Value.cells, unB] at st)
        (try clear hc); have hc := st.facts; (try simp only [nfl, nft, Nat.reduceAdd] at hc)
        go_wp2_with fail
        refine (refEnd_c st 2 get2).mono ?_
        rintro en w' ⟨rfl, rfl⟩
        go_wp2_with fail
        go_ret
        exact ⟨rfl, st.ext0⟩
      · simp only [if_neg hy]
        go_wp2_with fail
        obtain ⟨fr', al', st', back⟩ := st.sub [2] (by decide) (by simp)
        (try simp only [nsl, Value.cells, unB] at st')
        refine (refChainGet_c st' (kn : Int) (by omega) (by omega)).mono ?_
        clear st'
        intro en w hen
        rw [HR2.out] at hen
        unfold RefStC at hen
        obtain ⟨m', va', vc', hm', rfl, st'⟩ := hen
        obtain rfl : m = m' := HM.out.trans hm'.symm
        clear hm'
        replace st := back _ _ (by simp) st'
        clear back st'
        (try simp only [nsl, Value.cells, unB] at st)
        (try clear hc); have hc := st.facts; (try simp only [nfl, nft, Nat.reduceAdd] at hc)
        go_wp2_with fail
        have q1 := (st.rowFl3 (α := StepT) (xs := l2) (i := 4) get4).2
        have q2 := (st.rowFl3 (α := StepT) (xs := l2) (i := 5) get5).2
        refine (refSame_any _ m _ l2 _ m _ l2 _ q1 q2 (by omega) (by omega) rfl).mono ?_
        rintro en w ⟨rfl, hx⟩
        replace st := st.ext hx
        clear hx q1 q2
        (try simp only [nsl, Value.cells, unB] at st)
        (try clear hc); have hc := st.facts; (try simp only [nfl, nft, Nat.reduceAdd] at hc)
        go_wp2_with fail
        refine (refEnd_c st 2 get2).mono ?_
        rintro en w' ⟨rfl, rfl⟩
        simp only [if_neg hy]
        go_wp2_with fail
        go_ret
        exact ⟨rfl, st.ext0⟩
  | false =>
    obtain rfl : v = [] := HZ.out hok
    have HOK := Lib.hid hok
    clear hok
    go_wp2_with fail
    refine (HPN.out _ _ (st.oldFl (i := 0) get0 H.out) hq2 (.inr HOK.out)).mono ?_
    rintro en w ⟨rfl, hx⟩
    replace st := st.ext hx
    clear hx
    (try simp only [nsl, Value.cells, unB] at st)
    (try clear hc); have hc := st.facts; (try simp only [nfl, nft, Nat.reduceAdd] at hc)
    go_wp2_with fail
    obtain ⟨fr', al', st', back⟩ := st.sub [3] (by decide) (by simp)
    (try simp only [nsl, Value.cells, unB] at st')
    refine (penBytes_c st' (by simp)).mono ?_
    clear st'
    rintro en w ⟨pa, pc, rfl, hpc, st'⟩
    replace st := back _ _ (by simp) st'
    clear back st'
    (try simp only [nsl, Value.cells, unB] at st)
    (try clear hc); have hc := st.facts; (try simp only [nfl, nft, Nat.reduceAdd] at hc)
    simp only [List.length_nil] at st hpc ⊢
    (try simp only [nsl, Value.cells, unB] at st)
    (try clear hc); have hc := st.facts; (try simp only [nfl, nft, Nat.reduceAdd] at hc)
    go_wp2_with ((((with_reducible refine wl_convert ?_ (fun K hK => ?_)); rfl; (first | (refine owp_bs (o := ⟨some 36, _, _, _, _, _⟩) rfl st 4 get4 rfl Try.underlying33 Try.underlying5 Try.underlying9 ?_)))); (try simp only [nsl, Value.cells, unB] at st); (try clear hc); have hc := st.facts; (try simp only [nfl, nft, Nat.reduceAdd] at hc))
    refine (HPN.out none _ (st.oldFl (i := 0) get0 H.out) hq2 (.inl rfl)).mono ?_
    rintro en w ⟨rfl, hx⟩
    replace st := st.ext hx
    clear hx
    have st2 := st.keep [0, 1, 2] (by decide) (by simp)
    clear st
    have st := st2
    clear st2
    simp only [pick, List.map_cons, List.map_nil, List.getElem?_cons_zero, List.getElem?_cons_succ, Option.getD_some] at st
    (try simp only [nsl, Value.cells, unB] at st)
    (try clear hc); have hc := st.facts; (try simp only [nfl, nft, Nat.reduceAdd] at hc)
    go_wp2_with ((first
          | ((with_reducible refine wl_convert ?_ (fun K hK => ?_)); rfl; (first | (refine owp_bs (o := ⟨some 45, _, _, _, _, _⟩) rfl st 1 get1 rfl Try.underlying33 Try.underlying5 Try.underlying9 ?_)))
          | ((with_reducible refine wl_box ?_ (fun K hK => ?_)); rfl; refine owp_box (o := ⟨some 47, _, _, _, _, _⟩) rfl st ?_; apply Exists.intro; refine ⟨?_, ?_⟩; (focus (go_simp; try rfl)); (clear st; intro b47 w hb st; clear hb))
          | ((with_reducible refine wl_alloc ?_ (fun K hK => ?_)); rfl; refine owp_alloc (o := ⟨some 10, _, _, _, _, _⟩) rfl st ?_; apply Exists.intro; apply Exists.intro; refine ⟨?_, ?_⟩; (focus (first | (go_simp; done) | (go_simp; rfl))); (clear st; intro b10 w hb st; clear hb))); (try simp only [nsl, Value.cells, unB] at st); (try clear hc); have hc := st.facts; (try simp only [nfl, nft, Nat.reduceAdd] at hc))
    replace st := st.refMk (i := 3) (t := b47) (xs := xb) get3
    (try simp only [nsl, Value.cells, unB] at st)
    (try clear hc); have hc := st.facts; (try simp only [nfl, nft, Nat.reduceAdd] at hc)
    refine (readGetN_c (i := 4) (j := 2) (b := b10) st get4 get2 (by decide) (st.by (i := 1) get1) HC.out (by omega) 47 #[.pointer (some ⟨b5, 0, none⟩), .pointer (some ⟨b10, 0, none⟩)] (fun _ _ => by kernel_rfl) (rdSteps (kn : Int) xb) stepsMM (fun fr al w r st => chkgetsGet_c st (by omega) ⟨by omega, by omega⟩)).mono ?_
    rintro en w ⟨r1, cs, M, rfl, hg, st'⟩
    clear st
    cases hr : rdSteps (kn : Int) xb with
    | error er =>
      have he : er ≠ 0 := rdSteps_er hr
      have hbb : (er == er) = true := by simp
      (try rw [hr] at hg)
      (try rw [hr])
      unfold GotM at hg
      obtain ⟨rfl, rfl⟩ := hg
      simp only [gotE, List.set, List.append_nil] at st' ⊢
      have st := st'.keep [1, 3, 4, 5] (by decide) (by simp)
      clear st'
      simp only [pick, List.map_cons, List.map_nil, List.getElem?_cons_zero, List.getElem?_cons_succ, Option.getD_some] at st
      (try simp only [nsl, Value.cells, unB] at st)
      (try clear hc); have hc := st.facts; (try simp only [nfl, nft, Nat.reduceAdd] at hc)
      go_wp2_with fail
      obtain ⟨fr', al', st', back⟩ := st.sub [2] (by decide) (by simp)
      (try simp only [nsl, Value.cells, unB] at st')
      refine (refChainGet_c st' (kn : Int) (by omega) (by omega)).mono ?_
      clear st'
      intro en w hen
      rw [hr] at hen
      unfold RefStC at hen
      obtain ⟨rfl, st'⟩ := hen
      replace st := back _ _ (by simp) st'
      clear back st'
      (try simp only [nsl, Value.cells, unB] at st)
      (try clear hc); have hc := st.facts; (try simp only [nfl, nft, Nat.reduceAdd] at hc)
      clear hr
      go_wp2_with fail
      refine (refSame_any none 0 0 [] none 0 0 [] _ (Fl.nil _ _) (Fl.nil _ _) (by decide) (by decide) rfl).mono ?_
      rintro en w ⟨rfl, hx⟩
      replace st := st.ext hx
      clear hx
      (try simp only [nsl, Value.cells, unB] at st)
      (try clear hc); have hc := st.facts; (try simp only [nfl, nft, Nat.reduceAdd] at hc)
      go_wp2_with fail
      refine (refEnd_c st 2 get2).mono ?_
      rintro en w' ⟨rfl, rfl⟩
      go_wp2_with fail
      go_ret
      exact ⟨rfl, st.ext0⟩
    | ok p =>
      obtain ⟨l2, ys⟩ := p
      (try rw [hr] at hg)
      (try rw [hr])
      unfold GotM stepsMM stepsM at hg
      obtain ⟨v, rfl, m, va, vc, hm, rfl, rfl⟩ := hg
      have HM := Lib.hid hm
      have hm2 : m ≤ 1000 := by
        have := rdSteps_len hr
        omega
      clear hm
      simp only [gotE, List.set, List.cons_append, List.nil_append] at st' ⊢
      have st := st'.keep [1, 3, 4, 5, 6] (by decide) (by simp)
      clear st'
      simp only [pick, List.map_cons, List.map_nil, List.getElem?_cons_zero, List.getElem?_cons_succ, Option.getD_some] at st
      have HR2 := Lib.hid hr
      clear hr
      (try simp only [nsl, Value.cells, unB] at st)
      (try clear hc); have hc := st.facts; (try simp only [nfl, nft, Nat.reduceAdd] at hc)
      by_cases hy : ys = []
      · subst hy
        simp only [if_true]
        go_wp2_with fail
        obtain ⟨fr', al', st', back⟩ := st.sub [2] (by decide) (by simp)
        (try simp only [nsl, Value.cells, unB] at st')
        refine (refChainGet_c st' (kn : Int) (by omega) (by omega)).mono ?_
        clear st'
        intro en w hen
        rw [HR2.out] at hen
        unfold RefStC at hen
        obtain ⟨m', va', vc', hm', rfl, st'⟩ := hen
        obtain rfl : m = m' := HM.out.trans hm'.symm
        clear hm'
        replace st := back _ _ (by simp) st'
        clear back st'
        (try simp only [nsl, Value.cells, unB] at st)
        (try clear hc); have hc := st.facts; (try simp only [nfl, nft, Nat.reduceAdd] at hc)
        go_wp2_with fail
        have q1 := (st.rowFl3 (α := StepT) (xs := l2) (i := 4) get4).2
        have q2 := (st.rowFl3 (α := StepT) (xs := l2) (i := 5) get5).2
        refine (refSame_any _ m _ l2 _ m _ l2 _ q1 q2 (by omega) (by omega) rfl).mono ?_
        rintro en w ⟨rfl, hx⟩
        replace st := st.ext hx
        clear hx q1 q2
        (try simp only [nsl, Value.cells, unB] at st)
        (try clear hc); have hc := st.facts; (try simp only [nfl, nft, Nat.reduceAdd] at hc)
        go_wp2_with fail
        refine (refEnd_c st 2 get2).mono ?_
        rintro en w' ⟨rfl, rfl⟩
        go_wp2_with fail
        go_ret
        exact ⟨rfl, st.ext0⟩
      · simp only [if_neg hy]
        go_wp2_with fail
        obtain ⟨fr', al', st', back⟩ := st.sub [2] (by decide) (by simp)
        (try simp only [nsl, Value.cells, unB] at st')
        refine (refChainGet_c st' (kn : Int) (by omega) (by omega)).mono ?_
        clear st'
        intro en w hen
        rw [HR2.out] at hen
        unfold RefStC at hen
        obtain ⟨m', va', vc', hm', rfl, st'⟩ := hen
        obtain rfl : m = m' := HM.out.trans hm'.symm
        clear hm'
        replace st := back _ _ (by simp) st'
        clear back st'
        (try simp only [nsl, Value.cells, unB] at st)
        (try clear hc); have hc := st.facts; (try simp only [nfl, nft, Nat.reduceAdd] at hc)
        go_wp2_with fail
        have q1 := (st.rowFl3 (α := StepT) (xs := l2) (i := 4) get4).2
        have q2 := (st.rowFl3 (α := StepT) (xs := l2) (i := 5) get5).2
        refine (refSame_any _ m _ l2 _ m _ l2 _ q1 q2 (by omega) (by omega) rfl).mono ?_
        rintro en w ⟨rfl, hx⟩
        replace st := st.ext hx
        clear hx q1 q2
        (try simp only [nsl, Value.cells, unB] at st)
        (try clear hc); have hc := st.facts; (try simp only [nfl, nft, Nat.reduceAdd] at hc)
        go_wp2_with fail
        refine (refEnd_c st 2 get2).mono ?_
        rintro en w' ⟨rfl, rfl⟩
        simp only [if_neg hy]
        go_wp2_with fail
        go_ret
        exact ⟨rfl, st.ext0⟩
end Go.Proofs.Ytekngjkjgmplpaa

namespace Go.Proofs.Ytekngjkjgmplpaa
set_option linter.unusedSimpArgs false
set_option linter.unusedVariables false
open Go Go.RowKit Go.ChangeShapes Go.WideShapes Go.ChangeAt

section
variable {H : Type} {enc : TypeId × Value → H} {P : Program} {w : World} {base : Nat} {spare : Nat → Bool} {held : Bool}
/-- An array of three integers, by value. -/
theorem open_arr3 {r : Reach} {b0 : Nat} {t e : TypeId} {k : IntKind} {v : Value} {d : DataW H} {p : List MemPlace} (ht : P.underlying t = some (.array 3 e)) (he : P.underlying e = some (.int k)) (hC : P.cellsOf t = 3) (hE : P.cellsOf e = 1)
    (hv : Value.okWide P w r b0 t v) (h : DataW.Trod enc P w base spare held t v d p) :
    ∃ x y z : Int, v = .agg #[.int k x, .int k y, .int k z] ∧ (Lit.int k x).wf = true ∧ (Lit.int k y).wf = true ∧ (Lit.int k z).wf = true := by
  simp only [Value.okWide, ht] at hv
  obtain ⟨cs, rfl, hsz, _⟩ := hv
  obtain ⟨fuel, hf⟩ := h
  obtain ⟨xs, m, _, _, hl, hxl, hall⟩ := DataW.trod_array ht hf
  rw [hC] at hsz
  obtain ⟨c0, c1, c2, rfl⟩ : ∃ a b c, cs = #[a, b, c] := by
    obtain ⟨l⟩ := cs
    match l, hsz with
    | [a, b, c], _ => exact ⟨a, b, c, rfl⟩
  have g : ∀ i, i < 3 → ∃ n, (([c0, c1, c2] : List Value).drop i).take 1 = [.int k n] ∧ (Lit.int k n).wf = true := fun i hi => by
    have h1 := hall i hi
    rw [hE, Nat.mul_one] at h1
    have h2 : i < xs.length := by omega
    rw [List.getElem?_eq_getElem h2] at h1
    obtain ⟨n, e1, _, e3⟩ := DataW.trod_int he h1
    exact ⟨n, by simpa [Value.cells] using e1, e3⟩
  obtain ⟨x, hx, wx⟩ := g 0 (by omega)
  obtain ⟨y, hy, wy⟩ := g 1 (by omega)
  obtain ⟨z, hz, wz⟩ := g 2 (by omega)
  simp at hx hy hz
  exact ⟨x, y, z, by rw [hx, hy, hz], wx, wy, wz⟩
/-- A byte slice. -/
theorem open_by {r : Reach} {b0 : Nat} {t e : TypeId} {v : Value} {d : DataW H} {p : List MemPlace} (ht : P.underlying t = some (.slice e)) (he : P.underlying e = some (.int .u8)) (hE : P.cellsOf e = 1)
    (hv : Value.okWide P w r b0 t v) (h : DataW.Trod enc P w base (fun _ => true) held t v d p) : ∃ a n c xs, v = .slice a n c ∧ By w a n xs ∧ n ≤ c ∧ c ≤ maxLen := by
  obtain ⟨a, n, c, rfl⟩ := okWide_slice ht hv
  obtain ⟨fuel, hf⟩ := h
  have : ∃ zs : List Int, (a = none ∧ n = 0 ∧ c = 0 ∧ zs = []) ∨ ∃ x, a = some x ∧ n ≤ c ∧ c ≤ maxLen ∧ zs.length = c ∧ (∀ i, i < zs.length → w.cell? (x.add i) = some (.int .u8 (zs.getD i 0))) ∧ ∀ n ∈ zs, (Lit.int .u8 n).wf = true := by
    rcases open_ints ht he hE hf with ⟨hcs, _⟩ | ⟨x, l, c, zs, hcs, _, hl, hm, hz, _, hcell, hwz⟩
    · simp [Value.cells] at hcs
      obtain ⟨rfl, rfl, rfl⟩ := hcs
      exact ⟨[], .inl ⟨rfl, rfl, rfl, rfl⟩⟩
    · simp [Value.cells] at hcs
      obtain ⟨rfl, rfl, rfl⟩ := hcs
      exact ⟨zs, .inr ⟨_, rfl, hl, hm, by simpa using hz, hcell, hwz⟩⟩
  obtain ⟨zs, hz⟩ := this
  obtain ⟨xs, h1, h2, h3⟩ := By.of_row hz
  exact ⟨a, n, c, xs, rfl, h1, h2, h3⟩
theorem u8_bd {x : Int} (h : (Lit.int .u8 x).wf = true) : 0 ≤ x ∧ x ≤ 255 := by
  simp [Lit.wf, IntKind.min, IntKind.max, IntKind.signed, IntKind.bits] at h
  omega
end
end Go.Proofs.Ytekngjkjgmplpaa

namespace Go.Proofs.Ytekngjkjgmplpaa
set_option linter.unusedSimpArgs false
set_option linter.unusedVariables false
open Go Go.RowKit Go.ChangeShapes Go.WideShapes Go.ChangeAt
theorem upto_bound {H : Type} {l : List (DataW H)} (hk : Rows.uptoSmall H l = true) : Rows.uptoBulkAll l ≤ 1048576 := of_decide_eq_true hk
theorem bulk_pos {H : Type} (d : DataW H) : 1 ≤ Rows.uptoBulk d := by
  cases d with
  | lit l => cases l <;> simp [Rows.uptoBulk]
  | nil => simp [Rows.uptoBulk]
  | ptr d => simp [Rows.uptoBulk]
  | slice elems spare => simp [Rows.uptoBulk]
  | agg parts => simp [Rows.uptoBulk]
  | iface t d => simp [Rows.uptoBulk]
  | map entries => simp [Rows.uptoBulk]
  | held h => simp [Rows.uptoBulk]
theorem bulk_len {H : Type} (l : List (DataW H)) : l.length ≤ Rows.uptoBulkAll l := by
  induction l with
  | nil => simp [Rows.uptoBulkAll]
  | cons x r ih => have := bulk_pos x; simp only [Rows.uptoBulkAll, List.length_cons]; omega
theorem bulk_slice {H : Type} (elems spare : List (DataW H)) : Rows.uptoBulkAll elems + 1 ≤ Rows.uptoBulk (.slice elems spare) := by
  simp only [Rows.uptoBulk]; omega
theorem bulk_str {H : Type} (bytes : List UInt8) : Rows.uptoBulk (DataW.lit (H := H) (.string bytes)) = bytes.length + 1 := by simp [Rows.uptoBulk]
/-- How great texts are: a letter and one for each. -/
def texts (l : List (List UInt8)) : Nat := (l.map fun s => s.length + 1).sum
theorem bulk_strs {H : Type} (l : List (List UInt8)) : Rows.uptoBulkAll (l.map fun s => (DataW.lit (H := H) (.string s))) = texts l := by
  induction l with
  | nil => simp [Rows.uptoBulkAll, texts]
  | cons x r ih => simp only [List.map_cons, Rows.uptoBulkAll, ih, bulk_str, texts, List.sum_cons]
section
variable {H : Type} {enc : TypeId × Value → H} {P : Program} {w : World} {base : Nat} {held : Bool}
theorem open_strsU {r : Reach} {b0 : Nat} {t e : TypeId} {v : Value} {d : DataW H} {p : List MemPlace} (ht : P.underlying t = some (.slice e)) (he : P.underlying e = some .string) (hE : P.cellsOf e = 1)
    (hv : Value.okWide P w r b0 t v) (h : DataW.Trod enc P w base (fun _ => true) held t v d p) : ∃ a n c xs, v = .slice a n c ∧ Fl w a n xs ∧ (n ≤ c ∧ c ≤ maxLen) ∧ texts xs ≤ Rows.uptoBulk d := by
  obtain ⟨a, n, c, rfl⟩ := okWide_slice ht hv
  obtain ⟨fuel, hf⟩ := h
  rcases Go.Deep.open_strs ht he hE hf with ⟨hcs, _⟩ | ⟨a', len, cap, m, Sx, hcs, hb, hl, hm, hmm, hx, hcell⟩
  · simp [Value.cells] at hcs
    obtain ⟨rfl, rfl, rfl⟩ := hcs
    exact ⟨none, 0, 0, [], rfl, Fl.nil _ _, ⟨Nat.le_refl _, by simp [maxLen]⟩, by simp [texts]⟩
  · simp [Value.cells] at hcs
    obtain ⟨rfl, rfl, rfl⟩ := hcs
    have hm' : m = c := by simpa using hmm
    injection hx with hd hp
    subst hd
    refine ⟨some a', n, c, (List.range n).map (fun i => (Sx i).data.toList), rfl, ⟨by simp, fun h0 => ?_⟩, ⟨hl, hm⟩, ?_⟩
    · have hx0 : a'.spot = none := by
        have := (hcell 0 (by omega)).1
        simp only [Addr.add, if_true] at this
        unfold World.cell? at this
        split at this
        · cases hs : a'.spot with
          | none => rfl
          | some q => simp [hs] at this
        · cases this
      obtain ⟨b, off, sp⟩ := a'
      simp at hx0
      subst hx0
      refine ⟨b, off, rfl, fun i x hi j u hu => ?_⟩
      have hj : j = 0 := by
        have := (List.getElem?_eq_some_iff.1 hu).1
        simp [Flt.cells] at this; omega
      subst hj
      obtain ⟨hin, hfx⟩ : i < n ∧ (Sx i).data.toList = x := by
        have h1 := (List.getElem?_eq_some_iff.1 hi).1
        have h2 := (List.getElem?_eq_some_iff.1 hi).2
        simp at h1 h2
        exact ⟨h1, h2⟩
      subst hfx
      have h1 := (hcell i (by omega)).1
      rw [addr_add] at h1
      simp [Flt.cells] at hu
      subst hu
      rw [fltStr_k, Nat.mul_one, Nat.add_zero]
      exact h1
    · have := bulk_slice (H := H) ((List.range n).map fun i => .lit (.string (Sx i).data.toList)) ((List.range (m - n)).map fun j => .lit (.string (Sx (n + j)).data.toList))
      have e := bulk_strs (H := H) ((List.range n).map fun i => (Sx i).data.toList)
      rw [List.map_map] at e
      rw [← e]
      simp only [Function.comp_def]
      omega
end
end Go.Proofs.Ytekngjkjgmplpaa

namespace Go.Proofs.Ytekngjkjgmplpaa
set_option linter.unusedSimpArgs false
set_option linter.unusedVariables false
open Go Go.RowKit Go.ChangeShapes Go.WideShapes Go.ChangeAt
theorem mapM_at {f : Nat → Option Value} : ∀ {l : List Nat} {ys : List Value}, l.mapM f = some ys → ∀ (i k : Nat), l[i]? = some k → f k = ys[i]?
  | [], ys, h, i, k, hk => by simp at hk
  | a :: l, ys, h, i, k, hk => by
    rw [List.mapM_cons] at h
    cases ha : f a with
    | none => rw [ha] at h; cases h
    | some y =>
      rw [ha] at h
      cases hl : l.mapM f with
      | none => rw [hl] at h; cases h
      | some zs =>
        rw [hl] at h
        cases h
        cases i with
        | zero => simp at hk; subst hk; simp [ha]
        | succ i => simp at hk; simpa using mapM_at hl i k hk
theorem cells_at {w : World} {base k : Nat} {a : Addr} {cs : List Value} (h : w.cells? base a k = some cs) (j : Nat) (hj : j < k) : w.cell? (a.add j) = cs[j]? := by
  unfold World.cells? at h
  split at h
  · exact mapM_at (f := fun i => w.cell? (a.add i)) h j j (by simp [hj])
  · cases h
theorem bulk_map {H : Type} {α : Type} (D : Nat → DataW H) (f : Nat → α) (bulk : α → Nat) : ∀ (L : List Nat), (∀ i ∈ L, bulk (f i) ≤ Rows.uptoBulk (D i)) → ((L.map f).map bulk).sum ≤ Rows.uptoBulkAll (L.map D)
  | [], _ => by simp
  | i :: L, h => by
    have ih := bulk_map D f bulk L fun j hj => h j (List.mem_cons_of_mem _ hj)
    have h1 := h i (by simp)
    simp only [List.map_cons, Rows.uptoBulkAll, List.sum_cons]
    omega
section
variable {H : Type} {enc : TypeId × Value → H} {P : Program} {w : World} {base : Nat} {held : Bool}
theorem open_flts {α : Type} [Flt α] [Inhabited α] (bulk : α → Nat) (R : α → Prop) {r : Reach} {b0 : Nat} {t e : TypeId} {v : Value} {d : DataW H} {p : List MemPlace} (ht : P.underlying t = some (.slice e)) (ce : P.cellsOf e = Flt.k α)
    (hel : ∀ (fuel : Nat) (cs : List Value) (x : DataW H × List MemPlace), DataW.trod enc P w base (fun _ => true) held fuel e cs = some x → ∃ y : α, cs = Flt.cells y ∧ bulk y ≤ Rows.uptoBulk x.1 ∧ R y)
    (hv : Value.okWide P w r b0 t v) (h : DataW.Trod enc P w base (fun _ => true) held t v d p) : ∃ a n c xs, v = .slice a n c ∧ Fl w a n (xs : List α) ∧ (n ≤ c ∧ c ≤ maxLen) ∧ (xs.map bulk).sum ≤ Rows.uptoBulk d ∧ ∀ x ∈ xs, R x := by
  obtain ⟨a, n, c, rfl⟩ := okWide_slice ht hv
  obtain ⟨fuel, hf⟩ := h
  rcases Go.Deep.open_slice ht hf with ⟨hcs, _⟩ | ⟨a', len, cap, m, n', D, Pl, hcs, hb, hl, hm, hmm, hxe, hx⟩
  · simp [Value.cells] at hcs
    obtain ⟨rfl, rfl, rfl⟩ := hcs
    exact ⟨none, 0, 0, [], rfl, Fl.nil _ _, ⟨Nat.le_refl _, by simp [maxLen]⟩, by simp, by simp⟩
  · simp [Value.cells] at hcs
    obtain ⟨rfl, rfl, rfl⟩ := hcs
    rw [ce] at hx
    simp at hmm
    injection hxe with hd hp
    have hel2 : ∀ i, i < n → ∃ x : α, (∀ j u, (Flt.cells x)[j]? = some u → w.cell? ((a'.add (i * Flt.k α)).add j) = some u) ∧ bulk x ≤ Rows.uptoBulk (D i) ∧ R x := fun i hi => by
      obtain ⟨cs', hc, htr⟩ := hx i (by omega)
      obtain ⟨x, h1, h2, h3⟩ := hel _ _ _ htr
      subst h1
      refine ⟨x, fun j u hu => ?_, h2, h3⟩
      have hj : j < Flt.k α := by
        have := (List.getElem?_eq_some_iff.1 hu).1
        rwa [Flt.len] at this
      rw [cells_at hc j hj, hu]
    obtain ⟨f, hF⟩ : ∃ f : Nat → α, ∀ i, i < n → (∀ j u, (Flt.cells (f i))[j]? = some u → w.cell? ((a'.add (i * Flt.k α)).add j) = some u) ∧ bulk (f i) ≤ Rows.uptoBulk (D i) ∧ R (f i) :=
      ⟨fun i => if h : i < n then (hel2 i h).choose else default, fun i hi => by simp only [hi, dite_true]; exact (hel2 i hi).choose_spec⟩
    refine ⟨some a', n, c, (List.range n).map f, rfl, ⟨by simp, fun h0 => ?_⟩, ⟨hl, hm⟩, ?_, ?_⟩
    · have hk := Flt.pos (α := α)
      have hx0 : a'.spot = none := by
        obtain ⟨u, hu⟩ : ∃ u, (Flt.cells (f 0))[0]? = some u := ⟨_, List.getElem?_eq_getElem (by rw [Flt.len]; exact hk)⟩
        have := (hF 0 h0).1 0 u hu
        simp only [Addr.add, Nat.zero_mul, if_true] at this
        unfold World.cell? at this
        split at this
        · cases hs : a'.spot with
          | none => rfl
          | some q => simp [hs] at this
        · cases this
      obtain ⟨b, off, sp⟩ := a'
      simp at hx0
      subst hx0
      refine ⟨b, off, rfl, fun i x hi j u hu => ?_⟩
      obtain ⟨hin, hfx⟩ : i < n ∧ f i = x := by
        have h1 := (List.getElem?_eq_some_iff.1 hi).1
        have h2 := (List.getElem?_eq_some_iff.1 hi).2
        simp at h1 h2
        exact ⟨h1, h2⟩
      subst hfx
      have h1 := (hF i hin).1 j u hu
      rw [addr_add, addr_add] at h1
      exact h1
    · have hb1 := bulk_map D f bulk (List.range n) (fun i hi => (hF i (by simpa using hi)).2.1)
      rw [hd]
      have := bulk_slice (H := H) ((List.range n).map D) ((List.range (m - n)).map fun j => D (n + j))
      omega
    · intro x hx
      simp only [List.mem_map, List.mem_range] at hx
      obtain ⟨i, hi, rfl⟩ := hx
      exact (hF i hi).2.2
theorem trod_flts {α : Type} [Flt α] [Inhabited α] (bulk : α → Nat) (R : α → Prop) {t e : TypeId} {fuel : Nat} {cs : List Value} {y : DataW H × List MemPlace} (ht : P.underlying t = some (.slice e)) (ce : P.cellsOf e = Flt.k α)
    (hel : ∀ (fuel : Nat) (cs : List Value) (x : DataW H × List MemPlace), DataW.trod enc P w base (fun _ => true) held fuel e cs = some x → ∃ y : α, cs = Flt.cells y ∧ bulk y ≤ Rows.uptoBulk x.1 ∧ R y)
    (h : DataW.trod enc P w base (fun _ => true) held fuel t cs = some y) : ∃ a n c xs, cs = [.slice a n c] ∧ Fl w a n (xs : List α) ∧ (n ≤ c ∧ c ≤ maxLen) ∧ (xs.map bulk).sum ≤ Rows.uptoBulk y.1 ∧ ∀ x ∈ xs, R x := by
  obtain ⟨d, p⟩ := y
  rcases Go.Deep.open_slice ht h with ⟨hcs, _⟩ | ⟨a', len, cap, m, n', D, Pl, hcs, hb, hl, hm, hmm, hxe, hx⟩
  · exact ⟨none, 0, 0, [], hcs, Fl.nil _ _, ⟨Nat.le_refl _, by simp [maxLen]⟩, by simp, by simp⟩
  · rw [ce] at hx
    simp at hmm
    injection hxe with hd hp
    have hel2 : ∀ i, i < len → ∃ x : α, (∀ j u, (Flt.cells x)[j]? = some u → w.cell? ((a'.add (i * Flt.k α)).add j) = some u) ∧ bulk x ≤ Rows.uptoBulk (D i) ∧ R x := fun i hi => by
      obtain ⟨cs', hc, htr⟩ := hx i (by omega)
      obtain ⟨x, h1, h2, h3⟩ := hel _ _ _ htr
      subst h1
      refine ⟨x, fun j u hu => ?_, h2, h3⟩
      have hj : j < Flt.k α := by
        have := (List.getElem?_eq_some_iff.1 hu).1
        rwa [Flt.len] at this
      rw [cells_at hc j hj, hu]
    obtain ⟨f, hF⟩ : ∃ f : Nat → α, ∀ i, i < len → (∀ j u, (Flt.cells (f i))[j]? = some u → w.cell? ((a'.add (i * Flt.k α)).add j) = some u) ∧ bulk (f i) ≤ Rows.uptoBulk (D i) ∧ R (f i) :=
      ⟨fun i => if h : i < len then (hel2 i h).choose else default, fun i hi => by simp only [hi, dite_true]; exact (hel2 i hi).choose_spec⟩
    refine ⟨some a', len, cap, (List.range len).map f, hcs, ⟨by simp, fun h0 => ?_⟩, ⟨hl, hm⟩, ?_, ?_⟩
    · have hk := Flt.pos (α := α)
      have hx0 : a'.spot = none := by
        obtain ⟨u, hu⟩ : ∃ u, (Flt.cells (f 0))[0]? = some u := ⟨_, List.getElem?_eq_getElem (by rw [Flt.len]; exact hk)⟩
        have := (hF 0 h0).1 0 u hu
        simp only [Addr.add, Nat.zero_mul, if_true] at this
        unfold World.cell? at this
        split at this
        · cases hs : a'.spot with
          | none => rfl
          | some q => simp [hs] at this
        · cases this
      obtain ⟨b, off, sp⟩ := a'
      simp at hx0
      subst hx0
      refine ⟨b, off, rfl, fun i x hi j u hu => ?_⟩
      obtain ⟨hin, hfx⟩ : i < len ∧ f i = x := by
        have h1 := (List.getElem?_eq_some_iff.1 hi).1
        have h2 := (List.getElem?_eq_some_iff.1 hi).2
        simp at h1 h2
        exact ⟨h1, h2⟩
      subst hfx
      have h1 := (hF i hin).1 j u hu
      rw [addr_add, addr_add] at h1
      exact h1
    · have hb1 := bulk_map D f bulk (List.range len) (fun i hi => (hF i (by simpa using hi)).2.1)
      have := bulk_slice (H := H) ((List.range len).map D) ((List.range (m - len)).map fun j => D (len + j))
      subst hd
      simp only
      omega
    · intro x hx
      simp only [List.mem_map, List.mem_range] at hx
      obtain ⟨i, hi, rfl⟩ := hx
      exact (hF i hi).2.2
/-- One of them. -/
theorem open_flt {α : Type} [Flt α] (bulk : α → Nat) (R : α → Prop) {r : Reach} {b0 : Nat} {t : TypeId} {fs : Array Field} {v : Value} {d : DataW H} {p : List MemPlace} (ht : P.underlying t = some (.struct fs))
    (hel : ∀ (fuel : Nat) (cs : List Value) (x : DataW H × List MemPlace), DataW.trod enc P w base (fun _ => true) held fuel t cs = some x → ∃ y : α, cs = Flt.cells y ∧ bulk y ≤ Rows.uptoBulk x.1 ∧ R y)
    (hv : Value.okWide P w r b0 t v) (h : DataW.Trod enc P w base (fun _ => true) held t v d p) : ∃ x : α, v = .agg (Flt.cells x).toArray ∧ bulk x ≤ Rows.uptoBulk d ∧ R x := by
  obtain ⟨cs, rfl, hsz⟩ := okWide_struct ht hv
  obtain ⟨fuel, hf⟩ := h
  obtain ⟨x, h1, h2, h3⟩ := hel _ _ _ hf
  refine ⟨x, ?_, h2, h3⟩
  have : cs.toList = Flt.cells x := by simpa [Value.cells] using h1
  congr 1
  apply Array.toList_inj.1
  rw [this]
theorem trod_fields {t : TypeId} {fs : Array Field} {fuel : Nat} {cs : List Value} {x : DataW H × List MemPlace} (ht : P.underlying t = some (.struct fs)) (h : DataW.trod enc P w base (fun _ => true) held fuel t cs = some x) :
    ∃ (xs : List (DataW H × List MemPlace)) (n : Nat), x.1 = .agg (xs.map (·.1)) ∧ cs.length = P.cellsOf t ∧ xs.length = fs.size ∧
      ∀ (i : Nat) (f : Field), fs[i]? = some f → ∃ y, xs[i]? = some y ∧ DataW.trod enc P w base (fun _ => true) held n f.type ((cs.drop f.offset).take (P.cellsOf f.type)) = some y := by
  obtain ⟨xs, n, _, rfl, hl, hlen, hf⟩ := DataW.trod_struct ht h
  refine ⟨xs, n, rfl, hl, hlen, fun i f hi => ?_⟩
  have := hf i f hi
  have hil : i < xs.length := by rw [hlen]; exact (Array.getElem?_eq_some_iff.1 hi).1
  refine ⟨xs[i], List.getElem?_eq_getElem hil, ?_⟩
  rw [this, List.getElem?_eq_getElem hil]
end
end Go.Proofs.Ytekngjkjgmplpaa
