/- Tickets: the reference's Bytes and Get. -/
import Derived.Test.YtdkemfimhdjdiaaTickH
import Derived.Test.YtdkemfimhdjdiaaRow
import Derived.Test.YtdkemfimhdjdiaaCell
namespace Go.Proofs.Ytdkemfimhdjdiaa
set_option linter.unusedSimpArgs false
set_option linter.unusedVariables false
open Go Go.RowKit
set_option maxRecDepth 100000 in
set_option maxHeartbeats 2000000 in
theorem refTickBytes_yes (x : TickT) (W : World) (hx : TOk W x) (hr : tickOkB x = true) :
    Calls Try.prog 34 #[tV x] W fun e w' => e = .returned (S (tickB x)) ∧ Ext W w' := by
  obtain ⟨h1, h2, h3, h4, h5⟩ := tickOk_is hr
  obtain ⟨o, cl, t, a, n, c, tg⟩ := x
  simp only at *
  subst h5
  obtain ⟨tn, rfl⟩ : ∃ m : Nat, t = (m : Int) := ⟨t.toNat, by omega⟩
  have HO := Lib.hid h1
  have HC := Lib.hid h2
  have l1 := (nameR_len h1).2
  have l2 := (nameR_len h2).2
  have happ := ba_append
  have n2 : (numB o.length).length ≤ 10 := numF_len 10 _
  have n3 : (numB cl.length).length ≤ 10 := numF_len 10 _
  have n4 : (numB tn).length ≤ 10 := numF_len 10 _
  have n5 : (numB tg.length).length ≤ 10 := numF_len 10 _
  have hb := hx.2
  have hl8 : tg.length ≤ 8 := by have h := hb.1; simp only at h; omega
  have HL : Hid (tg.length = 8) := Lib.hid hb.1.symm
  have ht0 : ¬ (tn : Int) < 0 := by omega
  have ht1 : ¬ (1099511627776 : Int) < (tn : Int) := by omega
  have st := (Own.startOld W).addOldBy (i := 0) rfl hb
  clear hr h1 h2 hb hx
  unfold tV S
  simp only
  (try simp only [Value.cells, List.cons_append, List.nil_append, List.set, spl, putIt, pick, List.map_cons, List.map_nil, List.getElem?_cons_zero, List.getElem?_cons_succ, Option.getD_some, List.drop_succ_cons, List.drop_zero, List.drop_nil, List.append_nil, unB] at st)
  (try clear hc); have hc := st.facts; (try simp only [factsOf, blkI, blkFacts, rowI, byI, datI, nullI, oldI, penI, rdI, rdAnyI, rdOverI, Nat.zero_add, Nat.reduceAdd, and_true, true_and, and_self] at hc)
  go_enter Try.func34, Try.ntmps34
  go_wp2_with ((first
        | ((with_reducible refine wl_box ?_ (fun K hK => ?_)); rfl; refine owp_box (o := ⟨some 1, _, _, _, _, _⟩) rfl st ?_; apply Exists.intro; refine ⟨?_, ?_⟩; (focus (go_simp; try rfl)); (clear st; intro b1 w hb st; clear hb))
        | ((with_reducible refine wl_convert ?_ (fun K hK => ?_)); rfl; (first | (refine owp_bs (o := ⟨some 42, _, _, _, _, _⟩) rfl st 0 get0 rfl Try.underlying30 Try.underlying5 Try.underlying9 ?_) | (refine owp_bs (o := ⟨some 42, _, _, _, _, _⟩) rfl st 1 get1 rfl Try.underlying30 Try.underlying5 Try.underlying9 ?_) | (refine owp_bs (o := ⟨some 42, _, _, _, _, _⟩) rfl st 2 get2 rfl Try.underlying30 Try.underlying5 Try.underlying9 ?_) | (refine owp_bs (o := ⟨some 42, _, _, _, _, _⟩) rfl st 3 get3 rfl Try.underlying30 Try.underlying5 Try.underlying9 ?_)))); (try simp only [Value.cells, List.cons_append, List.nil_append, List.set, spl, putIt, pick, List.map_cons, List.map_nil, List.getElem?_cons_zero, List.getElem?_cons_succ, Option.getD_some, List.drop_succ_cons, List.drop_zero, List.drop_nil, List.append_nil, unB] at st); (try clear hc); have hc := st.facts; (try simp only [factsOf, blkI, blkFacts, rowI, byI, datI, nullI, oldI, penI, rdI, rdAnyI, rdOverI, Nat.zero_add, Nat.reduceAdd, and_true, true_and, and_self] at hc))
  refine (refRight_any o _ (by omega)).mono ?_
  rintro en w ⟨rfl, hx⟩
  replace st := st.ext hx
  clear hx
  (try clear hc); have hc := st.facts; (try simp only [factsOf, blkI, blkFacts, rowI, byI, datI, nullI, oldI, penI, rdI, rdAnyI, rdOverI, Nat.zero_add, Nat.reduceAdd, and_true, true_and, and_self] at hc)
  rw [HO.out]
  go_wp2_with ((first
        | ((with_reducible refine wl_box ?_ (fun K hK => ?_)); rfl; refine owp_box (o := ⟨some 1, _, _, _, _, _⟩) rfl st ?_; apply Exists.intro; refine ⟨?_, ?_⟩; (focus (go_simp; try rfl)); (clear st; intro b1 w hb st; clear hb))
        | ((with_reducible refine wl_convert ?_ (fun K hK => ?_)); rfl; (first | (refine owp_bs (o := ⟨some 42, _, _, _, _, _⟩) rfl st 0 get0 rfl Try.underlying30 Try.underlying5 Try.underlying9 ?_) | (refine owp_bs (o := ⟨some 42, _, _, _, _, _⟩) rfl st 1 get1 rfl Try.underlying30 Try.underlying5 Try.underlying9 ?_) | (refine owp_bs (o := ⟨some 42, _, _, _, _, _⟩) rfl st 2 get2 rfl Try.underlying30 Try.underlying5 Try.underlying9 ?_) | (refine owp_bs (o := ⟨some 42, _, _, _, _, _⟩) rfl st 3 get3 rfl Try.underlying30 Try.underlying5 Try.underlying9 ?_)))); (try simp only [Value.cells, List.cons_append, List.nil_append, List.set, spl, putIt, pick, List.map_cons, List.map_nil, List.getElem?_cons_zero, List.getElem?_cons_succ, Option.getD_some, List.drop_succ_cons, List.drop_zero, List.drop_nil, List.append_nil, unB] at st); (try clear hc); have hc := st.facts; (try simp only [factsOf, blkI, blkFacts, rowI, byI, datI, nullI, oldI, penI, rdI, rdAnyI, rdOverI, Nat.zero_add, Nat.reduceAdd, and_true, true_and, and_self] at hc))
  refine (refRight_any cl _ (by omega)).mono ?_
  rintro en w ⟨rfl, hx⟩
  replace st := st.ext hx
  clear hx
  (try clear hc); have hc := st.facts; (try simp only [factsOf, blkI, blkFacts, rowI, byI, datI, nullI, oldI, penI, rdI, rdAnyI, rdOverI, Nat.zero_add, Nat.reduceAdd, and_true, true_and, and_self] at hc)
  rw [HC.out]
  go_wp2_with ((first
        | ((with_reducible refine wl_box ?_ (fun K hK => ?_)); rfl; refine owp_box (o := ⟨some 1, _, _, _, _, _⟩) rfl st ?_; apply Exists.intro; refine ⟨?_, ?_⟩; (focus (go_simp; try rfl)); (clear st; intro b1 w hb st; clear hb))
        | ((with_reducible refine wl_convert ?_ (fun K hK => ?_)); rfl; (first | (refine owp_bs (o := ⟨some 42, _, _, _, _, _⟩) rfl st 0 get0 rfl Try.underlying30 Try.underlying5 Try.underlying9 ?_) | (refine owp_bs (o := ⟨some 42, _, _, _, _, _⟩) rfl st 1 get1 rfl Try.underlying30 Try.underlying5 Try.underlying9 ?_) | (refine owp_bs (o := ⟨some 42, _, _, _, _, _⟩) rfl st 2 get2 rfl Try.underlying30 Try.underlying5 Try.underlying9 ?_) | (refine owp_bs (o := ⟨some 42, _, _, _, _, _⟩) rfl st 3 get3 rfl Try.underlying30 Try.underlying5 Try.underlying9 ?_)))); (try simp only [Value.cells, List.cons_append, List.nil_append, List.set, spl, putIt, pick, List.map_cons, List.map_nil, List.getElem?_cons_zero, List.getElem?_cons_succ, Option.getD_some, List.drop_succ_cons, List.drop_zero, List.drop_nil, List.append_nil, unB] at st); (try clear hc); have hc := st.facts; (try simp only [factsOf, blkI, blkFacts, rowI, byI, datI, nullI, oldI, penI, rdI, rdAnyI, rdOverI, Nat.zero_add, Nat.reduceAdd, and_true, true_and, and_self] at hc))
  refine Rg4.wp_region4 (Rel := Ext) #[0, 1, 3, 0, 8, 31, 63, 0, 128, 447, 1023, 0, 2048, 6144, 15295, 32767, 65535]
    [(2, .val (.string ⟨(numB o.length ++ o).toArray⟩)), (5, .val (.string ⟨(numB cl.length ++ cl).toArray⟩)), (9, .val (.string ⟨(numB tn).toArray⟩)), (14, .val (.string ⟨(numB tg.length ++ tg).toArray⟩))] [] [1, 4, 8, 12, 13] (fun _ => True) [0, 1, 2, 3, 4, 5, 6, 7, 8, 9, 10, 11, 12, 13, 14, 15, 16] (by kernel_rfl) (by kernel_rfl) (by kernel_rfl) (by kernel_rfl) Ext.refl (fun _ _ _ => Ext.trans) (show Rg4.PB _ by repeat (first | with_reducible exact Rg4.pb_body | with_reducible exact Rg4.pb_bodyD rfl | with_reducible refine Rg4.pb_then ?_ | with_reducible refine Rg4.pb_inBlock ?_ | with_reducible refine Rg4.pb_noGoto ?_)) (trivial) ?_
  replace st := st.drew
  change Rg4.wp4 _ _ _ _ _ _ _ _ _ (World.drew _) _ _
  generalize World.drew _ = w at st ⊢
  (try clear hc); have hc := st.facts; (try simp only [factsOf, blkI, blkFacts, rowI, byI, datI, nullI, oldI, penI, rdI, rdAnyI, rdOverI, Nat.zero_add, Nat.reduceAdd, and_true, true_and, and_self] at hc)
  (refine Rg4.w4_any (Rg4.want_none rfl) rfl ?_; apply Exists.intro; refine ⟨fun w' => ?_, ?_⟩; (focus (first | (go_simp; done) | (go_simp; first | rfl | (rw [if_neg] <;> first | rfl | omega) | (rw [if_pos] <;> first | rfl | omega)))); (try simp only [Act.put, List.setIfInBounds_toArray, List.set]))
  (refine Rg4.w4_read (Rg4.want_none rfl) rfl rfl ?_; apply Exists.intro; refine ⟨fun w' hw' hcl' => ?_, ?_⟩; focus (have st' := st.ext hw'; have hc' := st'.facts; (try simp only [factsOf, blkI, blkFacts, rowI, byI, datI, nullI, oldI, penI, rdI, rdAnyI, rdOverI, Nat.zero_add, Nat.reduceAdd, and_true, true_and, and_self] at hc'); have q4 := conv_bs (P := Try.prog) (src := 30) (dst := 9) (c := c) Try.underlying30 Try.underlying5 Try.underlying9 (st'.by (i := 1) get1); unfold S at q4; (focus (first | (go_simp; done) | (go_simp; first | rfl | (rw [if_neg] <;> first | rfl | omega) | (rw [if_pos] <;> first | rfl | omega))))); (try simp only [Act.put, List.setIfInBounds_toArray, List.set]))
  refine Rg4.w4_some (Rg4.want_none rfl) rfl (fun w' hw' hcl' _ => ?_) ?_
  · refine Rg.relAt_call (by go_simp; exact ⟨rfl, rfl⟩) ?_
    have st' := st.ext hw'
    refine (refText_any o _ (by omega)).mono ?_
    rintro en w'' ⟨rfl, hx⟩
    exact ⟨_, rfl, hx, trivial, rfl⟩
  rintro v ⟨_, _, _, rfl⟩
  (try simp only [Act.put, List.setIfInBounds_toArray, List.set])
  (refine Rg4.w4_any (Rg4.want_none rfl) rfl ?_; apply Exists.intro; refine ⟨fun w' => ?_, ?_⟩; (focus (first | (go_simp; done) | (go_simp; first | rfl | (rw [if_neg] <;> first | rfl | omega) | (rw [if_pos] <;> first | rfl | omega)))); (try simp only [Act.put, List.setIfInBounds_toArray, List.set]))
  (refine Rg4.w4_read (Rg4.want_none rfl) rfl rfl ?_; apply Exists.intro; refine ⟨fun w' hw' hcl' => ?_, ?_⟩; focus (have st' := st.ext hw'; have hc' := st'.facts; (try simp only [factsOf, blkI, blkFacts, rowI, byI, datI, nullI, oldI, penI, rdI, rdAnyI, rdOverI, Nat.zero_add, Nat.reduceAdd, and_true, true_and, and_self] at hc'); have q4 := conv_bs (P := Try.prog) (src := 30) (dst := 9) (c := c) Try.underlying30 Try.underlying5 Try.underlying9 (st'.by (i := 1) get1); unfold S at q4; (focus (first | (go_simp; done) | (go_simp; first | rfl | (rw [if_neg] <;> first | rfl | omega) | (rw [if_pos] <;> first | rfl | omega))))); (try simp only [Act.put, List.setIfInBounds_toArray, List.set]))
  refine Rg4.w4_some (Rg4.want_none rfl) rfl (fun w' hw' hcl' _ => ?_) ?_
  · refine Rg.relAt_call (by go_simp; exact ⟨rfl, rfl⟩) ?_
    have st' := st.ext hw'
    refine (refText_any cl _ (by omega)).mono ?_
    rintro en w'' ⟨rfl, hx⟩
    exact ⟨_, rfl, hx, trivial, rfl⟩
  rintro v ⟨_, _, _, rfl⟩
  (try simp only [Act.put, List.setIfInBounds_toArray, List.set])
  (refine Rg4.w4_any (Rg4.want_none rfl) rfl ?_; apply Exists.intro; refine ⟨fun w' => ?_, ?_⟩; (focus (first | (go_simp; done) | (go_simp; first | rfl | (rw [if_neg] <;> first | rfl | omega) | (rw [if_pos] <;> first | rfl | omega)))); (try simp only [Act.put, List.setIfInBounds_toArray, List.set]))
  (refine Rg4.w4_any (Rg4.want_none rfl) rfl ?_; apply Exists.intro; refine ⟨fun w' => ?_, ?_⟩; (focus (first | (go_simp; done) | (go_simp; first | rfl | (rw [if_neg] <;> first | rfl | omega) | (rw [if_pos] <;> first | rfl | omega)))); (try simp only [Act.put, List.setIfInBounds_toArray, List.set]))
  (refine Rg4.w4_read (Rg4.want_none rfl) rfl rfl ?_; apply Exists.intro; refine ⟨fun w' hw' hcl' => ?_, ?_⟩; focus (have st' := st.ext hw'; have hc' := st'.facts; (try simp only [factsOf, blkI, blkFacts, rowI, byI, datI, nullI, oldI, penI, rdI, rdAnyI, rdOverI, Nat.zero_add, Nat.reduceAdd, and_true, true_and, and_self] at hc'); have q4 := conv_bs (P := Try.prog) (src := 30) (dst := 9) (c := c) Try.underlying30 Try.underlying5 Try.underlying9 (st'.by (i := 1) get1); unfold S at q4; (focus (first | (go_simp; done) | (go_simp; first | rfl | (rw [if_neg] <;> first | rfl | omega) | (rw [if_pos] <;> first | rfl | omega))))); (try simp only [Act.put, List.setIfInBounds_toArray, List.set]))
  refine Rg4.w4_some (Rg4.want_none rfl) rfl (fun w' hw' hcl' _ => ?_) ?_
  · refine Rg.relAt_call (by go_simp; exact ⟨rfl, rfl⟩) ?_
    have st' := st.ext hw'
    refine (refNumber_any tn _ (by omega)).mono ?_
    rintro en w'' ⟨rfl, hx⟩
    exact ⟨_, rfl, hx, trivial, rfl⟩
  rintro v ⟨_, _, _, rfl⟩
  (try simp only [Act.put, List.setIfInBounds_toArray, List.set])
  (refine Rg4.w4_any (Rg4.want_none rfl) rfl ?_; apply Exists.intro; refine ⟨fun w' => ?_, ?_⟩; (focus (first | (go_simp; done) | (go_simp; first | rfl | (rw [if_neg] <;> first | rfl | omega) | (rw [if_pos] <;> first | rfl | omega)))); (try simp only [Act.put, List.setIfInBounds_toArray, List.set]))
  (refine Rg4.w4_any (Rg4.want_none rfl) rfl ?_; apply Exists.intro; refine ⟨fun w' => ?_, ?_⟩; (focus (first | (go_simp; done) | (go_simp; first | rfl | (rw [if_neg] <;> first | rfl | omega) | (rw [if_pos] <;> first | rfl | omega)))); (try simp only [Act.put, List.setIfInBounds_toArray, List.set]))
  (refine Rg4.w4_read (Rg4.want_none rfl) rfl rfl ?_; apply Exists.intro; refine ⟨fun w' hw' hcl' => ?_, ?_⟩; focus (have st' := st.ext hw'; have hc' := st'.facts; (try simp only [factsOf, blkI, blkFacts, rowI, byI, datI, nullI, oldI, penI, rdI, rdAnyI, rdOverI, Nat.zero_add, Nat.reduceAdd, and_true, true_and, and_self] at hc'); have q4 := conv_bs (P := Try.prog) (src := 30) (dst := 9) (c := c) Try.underlying30 Try.underlying5 Try.underlying9 (st'.by (i := 1) get1); unfold S at q4; (focus (first | (go_simp; done) | (go_simp; first | rfl | (rw [if_neg] <;> first | rfl | omega) | (rw [if_pos] <;> first | rfl | omega))))); (try simp only [Act.put, List.setIfInBounds_toArray, List.set]))
  (refine Rg4.w4_read (Rg4.want_none rfl) rfl rfl ?_; apply Exists.intro; refine ⟨fun w' hw' hcl' => ?_, ?_⟩; focus (have st' := st.ext hw'; have hc' := st'.facts; (try simp only [factsOf, blkI, blkFacts, rowI, byI, datI, nullI, oldI, penI, rdI, rdAnyI, rdOverI, Nat.zero_add, Nat.reduceAdd, and_true, true_and, and_self] at hc'); have q4 := conv_bs (P := Try.prog) (src := 30) (dst := 9) (c := c) Try.underlying30 Try.underlying5 Try.underlying9 (st'.by (i := 1) get1); unfold S at q4; (focus (first | (go_simp; done) | (go_simp; first | rfl | (rw [if_neg] <;> first | rfl | omega) | (rw [if_pos] <;> first | rfl | omega))))); (try simp only [Act.put, List.setIfInBounds_toArray, List.set]))
  refine Rg4.w4_some (Rg4.want_none rfl) rfl (fun w' hw' hcl' _ => ?_) ?_
  · refine Rg.relAt_call (by go_simp; exact ⟨rfl, rfl⟩) ?_
    have st' := st.ext hw'
    refine (refText_any tg _ (by have := HL.out; omega)).mono ?_
    rintro en w'' ⟨rfl, hx⟩
    exact ⟨_, rfl, hx, trivial, rfl⟩
  rintro v ⟨_, _, _, rfl⟩
  (try simp only [Act.put, List.setIfInBounds_toArray, List.set])
  (refine Rg4.w4_any (Rg4.want_none rfl) rfl ?_; apply Exists.intro; refine ⟨fun w' => ?_, ?_⟩; (focus (first | (go_simp; done) | (go_simp; first | rfl | (rw [if_neg] <;> first | rfl | omega) | (rw [if_pos] <;> first | rfl | omega)))); (try simp only [Act.put, List.setIfInBounds_toArray, List.set]))
  (refine Rg4.w4_any (Rg4.want_none rfl) rfl ?_; apply Exists.intro; refine ⟨fun w' => ?_, ?_⟩; (focus (first | (go_simp; done) | (go_simp; first | rfl | (rw [if_neg] <;> first | rfl | omega) | (rw [if_pos] <;> first | rfl | omega)))); (try simp only [Act.put, List.setIfInBounds_toArray, List.set]))
  refine Rg4.w4_nil (fun w' hw' hcl' _ => ?_); replace st := st.ext hw'; clear hw' hcl'; (try clear hc); have hc := st.facts; (try simp only [factsOf, blkI, blkFacts, rowI, byI, datI, nullI, oldI, penI, rdI, rdAnyI, rdOverI, Nat.zero_add, Nat.reduceAdd, and_true, true_and, and_self] at hc)
  go_wp2_with fail
  go_ret
  exact ⟨by simp [tickB, S, HL.out], st.ext0⟩
set_option maxRecDepth 100000 in
set_option maxHeartbeats 2000000 in
theorem refTickBytes_no (x : TickT) (w : World) (h : tickOkB x = false) (h1 : x.o.length ≤ 100000) (h2 : x.cl.length ≤ 100000) :
    Calls Try.prog 34 #[tV x] w fun e w' => e = .returned (S []) ∧ Ext w w' := by
  have HD : Hid (tickOkB x = (nameR x.o && nameR x.cl && decide (0 ≤ x.t) && decide (x.t ≤ 1099511627776) && decide (x.n = 8))) := Lib.hid rfl
  rw [h] at HD
  obtain ⟨o, cl, t, a, n, c, tg⟩ := x
  simp only at *
  have st := Own.startOld w
  unfold tV S
  simp only
  clear h
  (try simp only [Value.cells, List.cons_append, List.nil_append, List.set, spl, putIt, pick, List.map_cons, List.map_nil, List.getElem?_cons_zero, List.getElem?_cons_succ, Option.getD_some, List.drop_succ_cons, List.drop_zero, List.drop_nil, List.append_nil, unB] at st)
  (try clear hc); have hc := st.facts; (try simp only [factsOf, blkI, blkFacts, rowI, byI, datI, nullI, oldI, penI, rdI, rdAnyI, rdOverI, Nat.zero_add, Nat.reduceAdd, and_true, true_and, and_self] at hc)
  go_enter Try.func34, Try.ntmps34
  go_wp2_with ((first
        | ((with_reducible refine wl_box ?_ (fun K hK => ?_)); rfl; refine owp_box (o := ⟨some 1, _, _, _, _, _⟩) rfl st ?_; apply Exists.intro; refine ⟨?_, ?_⟩; (focus (go_simp; try rfl)); (clear st; intro b1 w hb st; clear hb))
        | ((with_reducible refine wl_convert ?_ (fun K hK => ?_)); rfl; (first | (refine owp_bs (o := ⟨some 42, _, _, _, _, _⟩) rfl st 0 get0 rfl Try.underlying30 Try.underlying5 Try.underlying9 ?_) | (refine owp_bs (o := ⟨some 42, _, _, _, _, _⟩) rfl st 1 get1 rfl Try.underlying30 Try.underlying5 Try.underlying9 ?_) | (refine owp_bs (o := ⟨some 42, _, _, _, _, _⟩) rfl st 2 get2 rfl Try.underlying30 Try.underlying5 Try.underlying9 ?_) | (refine owp_bs (o := ⟨some 42, _, _, _, _, _⟩) rfl st 3 get3 rfl Try.underlying30 Try.underlying5 Try.underlying9 ?_)))); (try simp only [Value.cells, List.cons_append, List.nil_append, List.set, spl, putIt, pick, List.map_cons, List.map_nil, List.getElem?_cons_zero, List.getElem?_cons_succ, Option.getD_some, List.drop_succ_cons, List.drop_zero, List.drop_nil, List.append_nil, unB] at st); (try clear hc); have hc := st.facts; (try simp only [factsOf, blkI, blkFacts, rowI, byI, datI, nullI, oldI, penI, rdI, rdAnyI, rdOverI, Nat.zero_add, Nat.reduceAdd, and_true, true_and, and_self] at hc))
  refine (refRight_any o _ (by omega)).mono ?_
  rintro en w ⟨rfl, hx⟩
  replace st := st.ext hx
  clear hx
  (try clear hc); have hc := st.facts; (try simp only [factsOf, blkI, blkFacts, rowI, byI, datI, nullI, oldI, penI, rdI, rdAnyI, rdOverI, Nat.zero_add, Nat.reduceAdd, and_true, true_and, and_self] at hc)
  cases r1 : nameR o with
  | false =>
    clear r1
    go_wp2_with ((first
          | ((with_reducible refine wl_box ?_ (fun K hK => ?_)); rfl; refine owp_box (o := ⟨some 1, _, _, _, _, _⟩) rfl st ?_; apply Exists.intro; refine ⟨?_, ?_⟩; (focus (go_simp; try rfl)); (clear st; intro b1 w hb st; clear hb))
          | ((with_reducible refine wl_convert ?_ (fun K hK => ?_)); rfl; (first | (refine owp_bs (o := ⟨some 42, _, _, _, _, _⟩) rfl st 0 get0 rfl Try.underlying30 Try.underlying5 Try.underlying9 ?_) | (refine owp_bs (o := ⟨some 42, _, _, _, _, _⟩) rfl st 1 get1 rfl Try.underlying30 Try.underlying5 Try.underlying9 ?_) | (refine owp_bs (o := ⟨some 42, _, _, _, _, _⟩) rfl st 2 get2 rfl Try.underlying30 Try.underlying5 Try.underlying9 ?_) | (refine owp_bs (o := ⟨some 42, _, _, _, _, _⟩) rfl st 3 get3 rfl Try.underlying30 Try.underlying5 Try.underlying9 ?_)))); (try simp only [Value.cells, List.cons_append, List.nil_append, List.set, spl, putIt, pick, List.map_cons, List.map_nil, List.getElem?_cons_zero, List.getElem?_cons_succ, Option.getD_some, List.drop_succ_cons, List.drop_zero, List.drop_nil, List.append_nil, unB] at st); (try clear hc); have hc := st.facts; (try simp only [factsOf, blkI, blkFacts, rowI, byI, datI, nullI, oldI, penI, rdI, rdAnyI, rdOverI, Nat.zero_add, Nat.reduceAdd, and_true, true_and, and_self] at hc))
    go_ret
    exact ⟨rfl, st.ext0⟩
  | true =>
    have R1 := Lib.hid r1
    clear r1
    go_wp2_with ((first
          | ((with_reducible refine wl_box ?_ (fun K hK => ?_)); rfl; refine owp_box (o := ⟨some 1, _, _, _, _, _⟩) rfl st ?_; apply Exists.intro; refine ⟨?_, ?_⟩; (focus (go_simp; try rfl)); (clear st; intro b1 w hb st; clear hb))
          | ((with_reducible refine wl_convert ?_ (fun K hK => ?_)); rfl; (first | (refine owp_bs (o := ⟨some 42, _, _, _, _, _⟩) rfl st 0 get0 rfl Try.underlying30 Try.underlying5 Try.underlying9 ?_) | (refine owp_bs (o := ⟨some 42, _, _, _, _, _⟩) rfl st 1 get1 rfl Try.underlying30 Try.underlying5 Try.underlying9 ?_) | (refine owp_bs (o := ⟨some 42, _, _, _, _, _⟩) rfl st 2 get2 rfl Try.underlying30 Try.underlying5 Try.underlying9 ?_) | (refine owp_bs (o := ⟨some 42, _, _, _, _, _⟩) rfl st 3 get3 rfl Try.underlying30 Try.underlying5 Try.underlying9 ?_)))); (try simp only [Value.cells, List.cons_append, List.nil_append, List.set, spl, putIt, pick, List.map_cons, List.map_nil, List.getElem?_cons_zero, List.getElem?_cons_succ, Option.getD_some, List.drop_succ_cons, List.drop_zero, List.drop_nil, List.append_nil, unB] at st); (try clear hc); have hc := st.facts; (try simp only [factsOf, blkI, blkFacts, rowI, byI, datI, nullI, oldI, penI, rdI, rdAnyI, rdOverI, Nat.zero_add, Nat.reduceAdd, and_true, true_and, and_self] at hc))
    refine (refRight_any cl _ (by omega)).mono ?_
    rintro en w ⟨rfl, hx⟩
    replace st := st.ext hx
    clear hx
    (try clear hc); have hc := st.facts; (try simp only [factsOf, blkI, blkFacts, rowI, byI, datI, nullI, oldI, penI, rdI, rdAnyI, rdOverI, Nat.zero_add, Nat.reduceAdd, and_true, true_and, and_self] at hc)
    cases r2 : nameR cl with
    | false =>
      clear r2
      go_wp2_with ((first
            | ((with_reducible refine wl_box ?_ (fun K hK => ?_)); rfl; refine owp_box (o := ⟨some 1, _, _, _, _, _⟩) rfl st ?_; apply Exists.intro; refine ⟨?_, ?_⟩; (focus (go_simp; try rfl)); (clear st; intro b1 w hb st; clear hb))
            | ((with_reducible refine wl_convert ?_ (fun K hK => ?_)); rfl; (first | (refine owp_bs (o := ⟨some 42, _, _, _, _, _⟩) rfl st 0 get0 rfl Try.underlying30 Try.underlying5 Try.underlying9 ?_) | (refine owp_bs (o := ⟨some 42, _, _, _, _, _⟩) rfl st 1 get1 rfl Try.underlying30 Try.underlying5 Try.underlying9 ?_) | (refine owp_bs (o := ⟨some 42, _, _, _, _, _⟩) rfl st 2 get2 rfl Try.underlying30 Try.underlying5 Try.underlying9 ?_) | (refine owp_bs (o := ⟨some 42, _, _, _, _, _⟩) rfl st 3 get3 rfl Try.underlying30 Try.underlying5 Try.underlying9 ?_)))); (try simp only [Value.cells, List.cons_append, List.nil_append, List.set, spl, putIt, pick, List.map_cons, List.map_nil, List.getElem?_cons_zero, List.getElem?_cons_succ, Option.getD_some, List.drop_succ_cons, List.drop_zero, List.drop_nil, List.append_nil, unB] at st); (try clear hc); have hc := st.facts; (try simp only [factsOf, blkI, blkFacts, rowI, byI, datI, nullI, oldI, penI, rdI, rdAnyI, rdOverI, Nat.zero_add, Nat.reduceAdd, and_true, true_and, and_self] at hc))
      go_ret
      exact ⟨rfl, st.ext0⟩
    | true =>
      have R2 := Lib.hid r2
      clear r2
      by_cases t0 : t < 0
      · skip
        go_wp2_with ((first
              | ((with_reducible refine wl_box ?_ (fun K hK => ?_)); rfl; refine owp_box (o := ⟨some 1, _, _, _, _, _⟩) rfl st ?_; apply Exists.intro; refine ⟨?_, ?_⟩; (focus (go_simp; try rfl)); (clear st; intro b1 w hb st; clear hb))
              | ((with_reducible refine wl_convert ?_ (fun K hK => ?_)); rfl; (first | (refine owp_bs (o := ⟨some 42, _, _, _, _, _⟩) rfl st 0 get0 rfl Try.underlying30 Try.underlying5 Try.underlying9 ?_) | (refine owp_bs (o := ⟨some 42, _, _, _, _, _⟩) rfl st 1 get1 rfl Try.underlying30 Try.underlying5 Try.underlying9 ?_) | (refine owp_bs (o := ⟨some 42, _, _, _, _, _⟩) rfl st 2 get2 rfl Try.underlying30 Try.underlying5 Try.underlying9 ?_) | (refine owp_bs (o := ⟨some 42, _, _, _, _, _⟩) rfl st 3 get3 rfl Try.underlying30 Try.underlying5 Try.underlying9 ?_)))); (try simp only [Value.cells, List.cons_append, List.nil_append, List.set, spl, putIt, pick, List.map_cons, List.map_nil, List.getElem?_cons_zero, List.getElem?_cons_succ, Option.getD_some, List.drop_succ_cons, List.drop_zero, List.drop_nil, List.append_nil, unB] at st); (try clear hc); have hc := st.facts; (try simp only [factsOf, blkI, blkFacts, rowI, byI, datI, nullI, oldI, penI, rdI, rdAnyI, rdOverI, Nat.zero_add, Nat.reduceAdd, and_true, true_and, and_self] at hc))
        go_ret
        exact ⟨rfl, st.ext0⟩
      by_cases t1 : 1099511627776 < t
      · skip
        go_wp2_with ((first
              | ((with_reducible refine wl_box ?_ (fun K hK => ?_)); rfl; refine owp_box (o := ⟨some 1, _, _, _, _, _⟩) rfl st ?_; apply Exists.intro; refine ⟨?_, ?_⟩; (focus (go_simp; try rfl)); (clear st; intro b1 w hb st; clear hb))
              | ((with_reducible refine wl_convert ?_ (fun K hK => ?_)); rfl; (first | (refine owp_bs (o := ⟨some 42, _, _, _, _, _⟩) rfl st 0 get0 rfl Try.underlying30 Try.underlying5 Try.underlying9 ?_) | (refine owp_bs (o := ⟨some 42, _, _, _, _, _⟩) rfl st 1 get1 rfl Try.underlying30 Try.underlying5 Try.underlying9 ?_) | (refine owp_bs (o := ⟨some 42, _, _, _, _, _⟩) rfl st 2 get2 rfl Try.underlying30 Try.underlying5 Try.underlying9 ?_) | (refine owp_bs (o := ⟨some 42, _, _, _, _, _⟩) rfl st 3 get3 rfl Try.underlying30 Try.underlying5 Try.underlying9 ?_)))); (try simp only [Value.cells, List.cons_append, List.nil_append, List.set, spl, putIt, pick, List.map_cons, List.map_nil, List.getElem?_cons_zero, List.getElem?_cons_succ, Option.getD_some, List.drop_succ_cons, List.drop_zero, List.drop_nil, List.append_nil, unB] at st); (try clear hc); have hc := st.facts; (try simp only [factsOf, blkI, blkFacts, rowI, byI, datI, nullI, oldI, penI, rdI, rdAnyI, rdOverI, Nat.zero_add, Nat.reduceAdd, and_true, true_and, and_self] at hc))
        go_ret
        exact ⟨rfl, st.ext0⟩
      have hn8 : n ≠ 8 := fun q => by
        have := HD.out
        rw [R1.out, R2.out, decide_eq_true (by omega), decide_eq_true (by omega), decide_eq_true q] at this
        cases this
      have hn8b : ((n : Int) != 8) = true := by
        have : (n : Int) ≠ 8 := by omega
        simpa using this
      have HN8 := Lib.hid hn8
      clear hn8
      go_wp2_with ((first
            | ((with_reducible refine wl_box ?_ (fun K hK => ?_)); rfl; refine owp_box (o := ⟨some 1, _, _, _, _, _⟩) rfl st ?_; apply Exists.intro; refine ⟨?_, ?_⟩; (focus (go_simp; try rfl)); (clear st; intro b1 w hb st; clear hb))
            | ((with_reducible refine wl_convert ?_ (fun K hK => ?_)); rfl; (first | (refine owp_bs (o := ⟨some 42, _, _, _, _, _⟩) rfl st 0 get0 rfl Try.underlying30 Try.underlying5 Try.underlying9 ?_) | (refine owp_bs (o := ⟨some 42, _, _, _, _, _⟩) rfl st 1 get1 rfl Try.underlying30 Try.underlying5 Try.underlying9 ?_) | (refine owp_bs (o := ⟨some 42, _, _, _, _, _⟩) rfl st 2 get2 rfl Try.underlying30 Try.underlying5 Try.underlying9 ?_) | (refine owp_bs (o := ⟨some 42, _, _, _, _, _⟩) rfl st 3 get3 rfl Try.underlying30 Try.underlying5 Try.underlying9 ?_)))); (try simp only [Value.cells, List.cons_append, List.nil_append, List.set, spl, putIt, pick, List.map_cons, List.map_nil, List.getElem?_cons_zero, List.getElem?_cons_succ, Option.getD_some, List.drop_succ_cons, List.drop_zero, List.drop_nil, List.append_nil, unB] at st); (try clear hc); have hc := st.facts; (try simp only [factsOf, blkI, blkFacts, rowI, byI, datI, nullI, oldI, penI, rdI, rdAnyI, rdOverI, Nat.zero_add, Nat.reduceAdd, and_true, true_and, and_self] at hc))
      go_ret
      exact ⟨rfl, st.ext0⟩
/-- What the reference's Get answers. -/
def RefTickC (fr al : Nat → Prop) (w : World) (t : Nat) (res : Except Int (TickD × List UInt8)) (en : Ending) (w' : World) : Prop := match res with
  | .error e => en = .returned zTV ∧ Own fr al w [refI t (.error e)] w'
  | .ok (s, ys) => ∃ A c, en = .returned (.agg #[S s.1, S s.2.1, .int .i64 (s.2.2.1 : Int), .slice A 8 c]) ∧ (8 ≤ c ∧ c ≤ maxLen) ∧ Own fr al w [refI t (.ok ys), byI A 8 s.2.2.2] w'
set_option maxRecDepth 100000 in
set_option maxHeartbeats 2000000 in
theorem refTickGet_c {fr al : Nat → Prop} {w : World} {tp : Nat} {xs : List UInt8} (st : Own fr al w [refI tp (.ok xs)] w) (hl : xs.length ≤ 100000) :
    Calls Try.prog 40 #[.pointer (some ⟨tp, 0, none⟩)] w (RefTickC fr al w tp (rdTick xs)) := by
  go_enter Try.func40, Try.ntmps40
  go_wp2_with ((first
        | ((with_reducible refine wl_alloc ?_ (fun K hK => ?_)); rfl; refine owp_alloc (o := ⟨some 2, _, _, _, _, _⟩) rfl st ?_; apply Exists.intro; apply Exists.intro; refine ⟨?_, ?_⟩; (focus (first | (go_simp; done) | (go_simp; rfl))); (clear st; intro b2 w hb st; clear hb))
        | ((with_reducible refine wl_store ?_ (fun K hK => ?_)); rfl; refine owp_store rfl st ?_; apply Exists.intro; apply Exists.intro; refine ⟨?_, ?_, ?_⟩; (focus (go_simp; try rfl)); (focus (go_simp; try rfl)); (first | (with_reducible refine ⟨0, _, _, _, _, get0, rfl, rfl, ?_, ?_, ?_, ?_⟩) | (with_reducible refine ⟨1, _, _, _, _, get1, rfl, rfl, ?_, ?_, ?_, ?_⟩) | (with_reducible refine ⟨2, _, _, _, _, get2, rfl, rfl, ?_, ?_, ?_, ?_⟩) | (with_reducible refine ⟨3, _, _, _, _, get3, rfl, rfl, ?_, ?_, ?_, ?_⟩)); (kernel_rfl); (simp [Value.cells]); (rfl); (clear st; intro w st))
        | ((with_reducible refine wl_convert ?_ (fun K hK => ?_)); rfl; refine owp_sb (o := ⟨some 38, _, _, _, _, _⟩) rfl st rfl Try.underlying9 Try.underlying30 Try.underlying5 ?_ ?_; (simp only [maxLen]; omega); (clear st; intro A38 c38 w hc38 st))); (try simp only [Value.cells, List.cons_append, List.nil_append, List.set, spl, putIt, pick, List.map_cons, List.map_nil, List.getElem?_cons_zero, List.getElem?_cons_succ, Option.getD_some, List.drop_succ_cons, List.drop_zero, List.drop_nil, List.append_nil, unB] at st); (try clear hc); have hc := st.facts; (try simp only [factsOf, blkI, blkFacts, rowI, byI, datI, nullI, oldI, penI, rdI, rdAnyI, rdOverI, Nat.zero_add, Nat.reduceAdd, and_true, true_and, and_self] at hc))
  obtain ⟨fr', al', st', back⟩ := st.sub [0] (by decide) (by simp)
  (try simp only [Value.cells, List.cons_append, List.nil_append, List.set, spl, putIt, pick, List.map_cons, List.map_nil, List.getElem?_cons_zero, List.getElem?_cons_succ, Option.getD_some, List.drop_succ_cons, List.drop_zero, List.drop_nil, List.append_nil, unB] at st')
  refine (refGetName_m st' (fun xs hx => by cases hx; omega)).mono ?_
  clear st'
  intro en w hen
  unfold RefC at hen
  rw [show bnd (Except.ok xs) rdName = rdName xs from rfl] at hen
  cases hr : rdName xs with
  | error e =>
    rw [hr] at hen
    obtain ⟨rfl, st'⟩ := hen
    replace st := back _ _ (by simp) st'
    clear back st'
    (try simp only [Value.cells, List.cons_append, List.nil_append, List.set, spl, putIt, pick, List.map_cons, List.map_nil, List.getElem?_cons_zero, List.getElem?_cons_succ, Option.getD_some, List.drop_succ_cons, List.drop_zero, List.drop_nil, List.append_nil, unB] at st)
    (try clear hc); have hc := st.facts; (try simp only [factsOf, blkI, blkFacts, rowI, byI, datI, nullI, oldI, penI, rdI, rdAnyI, rdOverI, Nat.zero_add, Nat.reduceAdd, and_true, true_and, and_self] at hc)
    have H1 : Hid (rdTick xs = .error e) := Lib.hid (by simp [rdTick,  hr, bdm])
    clear hr
    (try unfold S)
    go_wp2_with ((first
          | ((with_reducible refine wl_alloc ?_ (fun K hK => ?_)); rfl; refine owp_alloc (o := ⟨some 2, _, _, _, _, _⟩) rfl st ?_; apply Exists.intro; apply Exists.intro; refine ⟨?_, ?_⟩; (focus (first | (go_simp; done) | (go_simp; rfl))); (clear st; intro b2 w hb st; clear hb))
          | ((with_reducible refine wl_store ?_ (fun K hK => ?_)); rfl; refine owp_store rfl st ?_; apply Exists.intro; apply Exists.intro; refine ⟨?_, ?_, ?_⟩; (focus (go_simp; try rfl)); (focus (go_simp; try rfl)); (first | (with_reducible refine ⟨0, _, _, _, _, get0, rfl, rfl, ?_, ?_, ?_, ?_⟩) | (with_reducible refine ⟨1, _, _, _, _, get1, rfl, rfl, ?_, ?_, ?_, ?_⟩) | (with_reducible refine ⟨2, _, _, _, _, get2, rfl, rfl, ?_, ?_, ?_, ?_⟩) | (with_reducible refine ⟨3, _, _, _, _, get3, rfl, rfl, ?_, ?_, ?_, ?_⟩)); (kernel_rfl); (simp [Value.cells]); (rfl); (clear st; intro w st))
          | ((with_reducible refine wl_convert ?_ (fun K hK => ?_)); rfl; refine owp_sb (o := ⟨some 38, _, _, _, _, _⟩) rfl st rfl Try.underlying9 Try.underlying30 Try.underlying5 ?_ ?_; (simp only [maxLen]; omega); (clear st; intro A38 c38 w hc38 st))); (try simp only [Value.cells, List.cons_append, List.nil_append, List.set, spl, putIt, pick, List.map_cons, List.map_nil, List.getElem?_cons_zero, List.getElem?_cons_succ, Option.getD_some, List.drop_succ_cons, List.drop_zero, List.drop_nil, List.append_nil, unB] at st); (try clear hc); have hc := st.facts; (try simp only [factsOf, blkI, blkFacts, rowI, byI, datI, nullI, oldI, penI, rdI, rdAnyI, rdOverI, Nat.zero_add, Nat.reduceAdd, and_true, true_and, and_self] at hc))
    obtain ⟨fr', al', st', back⟩ := st.sub [0] (by decide) (by simp)
    (try simp only [Value.cells, List.cons_append, List.nil_append, List.set, spl, putIt, pick, List.map_cons, List.map_nil, List.getElem?_cons_zero, List.getElem?_cons_succ, Option.getD_some, List.drop_succ_cons, List.drop_zero, List.drop_nil, List.append_nil, unB] at st')
    refine (refGetName_m st' (fun xs hx => by cases hx)).mono ?_
    clear st'
    intro en w hen
    unfold RefC at hen
    unfold bnd at hen
    obtain ⟨rfl, st'⟩ := hen
    replace st := back _ _ (by simp) st'
    clear back st'
    (try simp only [Value.cells, List.cons_append, List.nil_append, List.set, spl, putIt, pick, List.map_cons, List.map_nil, List.getElem?_cons_zero, List.getElem?_cons_succ, Option.getD_some, List.drop_succ_cons, List.drop_zero, List.drop_nil, List.append_nil, unB] at st)
    (try clear hc); have hc := st.facts; (try simp only [factsOf, blkI, blkFacts, rowI, byI, datI, nullI, oldI, penI, rdI, rdAnyI, rdOverI, Nat.zero_add, Nat.reduceAdd, and_true, true_and, and_self] at hc)
    (try unfold S)
    go_wp2_with ((first
          | ((with_reducible refine wl_alloc ?_ (fun K hK => ?_)); rfl; refine owp_alloc (o := ⟨some 2, _, _, _, _, _⟩) rfl st ?_; apply Exists.intro; apply Exists.intro; refine ⟨?_, ?_⟩; (focus (first | (go_simp; done) | (go_simp; rfl))); (clear st; intro b2 w hb st; clear hb))
          | ((with_reducible refine wl_store ?_ (fun K hK => ?_)); rfl; refine owp_store rfl st ?_; apply Exists.intro; apply Exists.intro; refine ⟨?_, ?_, ?_⟩; (focus (go_simp; try rfl)); (focus (go_simp; try rfl)); (first | (with_reducible refine ⟨0, _, _, _, _, get0, rfl, rfl, ?_, ?_, ?_, ?_⟩) | (with_reducible refine ⟨1, _, _, _, _, get1, rfl, rfl, ?_, ?_, ?_, ?_⟩) | (with_reducible refine ⟨2, _, _, _, _, get2, rfl, rfl, ?_, ?_, ?_, ?_⟩) | (with_reducible refine ⟨3, _, _, _, _, get3, rfl, rfl, ?_, ?_, ?_, ?_⟩)); (kernel_rfl); (simp [Value.cells]); (rfl); (clear st; intro w st))
          | ((with_reducible refine wl_convert ?_ (fun K hK => ?_)); rfl; refine owp_sb (o := ⟨some 38, _, _, _, _, _⟩) rfl st rfl Try.underlying9 Try.underlying30 Try.underlying5 ?_ ?_; (simp only [maxLen]; omega); (clear st; intro A38 c38 w hc38 st))); (try simp only [Value.cells, List.cons_append, List.nil_append, List.set, spl, putIt, pick, List.map_cons, List.map_nil, List.getElem?_cons_zero, List.getElem?_cons_succ, Option.getD_some, List.drop_succ_cons, List.drop_zero, List.drop_nil, List.append_nil, unB] at st); (try clear hc); have hc := st.facts; (try simp only [factsOf, blkI, blkFacts, rowI, byI, datI, nullI, oldI, penI, rdI, rdAnyI, rdOverI, Nat.zero_add, Nat.reduceAdd, and_true, true_and, and_self] at hc))
    obtain ⟨fr', al', st', back⟩ := st.sub [0] (by decide) (by simp)
    (try simp only [Value.cells, List.cons_append, List.nil_append, List.set, spl, putIt, pick, List.map_cons, List.map_nil, List.getElem?_cons_zero, List.getElem?_cons_succ, Option.getD_some, List.drop_succ_cons, List.drop_zero, List.drop_nil, List.append_nil, unB] at st')
    refine (refNumber_m st' 1099511627776).mono ?_
    clear st'
    intro en w hen
    unfold RefC at hen
    unfold bnd at hen
    obtain ⟨rfl, st'⟩ := hen
    replace st := back _ _ (by simp) st'
    clear back st'
    (try simp only [Value.cells, List.cons_append, List.nil_append, List.set, spl, putIt, pick, List.map_cons, List.map_nil, List.getElem?_cons_zero, List.getElem?_cons_succ, Option.getD_some, List.drop_succ_cons, List.drop_zero, List.drop_nil, List.append_nil, unB] at st)
    (try clear hc); have hc := st.facts; (try simp only [factsOf, blkI, blkFacts, rowI, byI, datI, nullI, oldI, penI, rdI, rdAnyI, rdOverI, Nat.zero_add, Nat.reduceAdd, and_true, true_and, and_self] at hc)
    (try unfold S)
    go_wp2_with ((first
          | ((with_reducible refine wl_alloc ?_ (fun K hK => ?_)); rfl; refine owp_alloc (o := ⟨some 2, _, _, _, _, _⟩) rfl st ?_; apply Exists.intro; apply Exists.intro; refine ⟨?_, ?_⟩; (focus (first | (go_simp; done) | (go_simp; rfl))); (clear st; intro b2 w hb st; clear hb))
          | ((with_reducible refine wl_store ?_ (fun K hK => ?_)); rfl; refine owp_store rfl st ?_; apply Exists.intro; apply Exists.intro; refine ⟨?_, ?_, ?_⟩; (focus (go_simp; try rfl)); (focus (go_simp; try rfl)); (first | (with_reducible refine ⟨0, _, _, _, _, get0, rfl, rfl, ?_, ?_, ?_, ?_⟩) | (with_reducible refine ⟨1, _, _, _, _, get1, rfl, rfl, ?_, ?_, ?_, ?_⟩) | (with_reducible refine ⟨2, _, _, _, _, get2, rfl, rfl, ?_, ?_, ?_, ?_⟩) | (with_reducible refine ⟨3, _, _, _, _, get3, rfl, rfl, ?_, ?_, ?_, ?_⟩)); (kernel_rfl); (simp [Value.cells]); (rfl); (clear st; intro w st))
          | ((with_reducible refine wl_convert ?_ (fun K hK => ?_)); rfl; refine owp_sb (o := ⟨some 38, _, _, _, _, _⟩) rfl st rfl Try.underlying9 Try.underlying30 Try.underlying5 ?_ ?_; (simp only [maxLen]; omega); (clear st; intro A38 c38 w hc38 st))); (try simp only [Value.cells, List.cons_append, List.nil_append, List.set, spl, putIt, pick, List.map_cons, List.map_nil, List.getElem?_cons_zero, List.getElem?_cons_succ, Option.getD_some, List.drop_succ_cons, List.drop_zero, List.drop_nil, List.append_nil, unB] at st); (try clear hc); have hc := st.facts; (try simp only [factsOf, blkI, blkFacts, rowI, byI, datI, nullI, oldI, penI, rdI, rdAnyI, rdOverI, Nat.zero_add, Nat.reduceAdd, and_true, true_and, and_self] at hc))
    obtain ⟨fr', al', st', back⟩ := st.sub [0] (by decide) (by simp)
    (try simp only [Value.cells, List.cons_append, List.nil_append, List.set, spl, putIt, pick, List.map_cons, List.map_nil, List.getElem?_cons_zero, List.getElem?_cons_succ, Option.getD_some, List.drop_succ_cons, List.drop_zero, List.drop_nil, List.append_nil, unB] at st')
    refine (refText_m st' 8 (fun xs hx => by cases hx)).mono ?_
    clear st'
    intro en w hen
    unfold RefC at hen
    unfold bnd at hen
    obtain ⟨rfl, st'⟩ := hen
    replace st := back _ _ (by simp) st'
    clear back st'
    (try simp only [Value.cells, List.cons_append, List.nil_append, List.set, spl, putIt, pick, List.map_cons, List.map_nil, List.getElem?_cons_zero, List.getElem?_cons_succ, Option.getD_some, List.drop_succ_cons, List.drop_zero, List.drop_nil, List.append_nil, unB] at st)
    (try clear hc); have hc := st.facts; (try simp only [factsOf, blkI, blkFacts, rowI, byI, datI, nullI, oldI, penI, rdI, rdAnyI, rdOverI, Nat.zero_add, Nat.reduceAdd, and_true, true_and, and_self] at hc)
    (try unfold S)
    obtain ⟨zq, he, st1⟩ := st.refErr (i := 0) get0
    clear st
    have st := st1
    clear st1
    have hne : ((e : Int) != 0) = true := bne_iff_ne.2 he
    have hne2 : ((e : Int) == 0) = false := beq_eq_false_iff_ne.2 he
    (try simp only [Value.cells, List.cons_append, List.nil_append, List.set, spl, putIt, pick, List.map_cons, List.map_nil, List.getElem?_cons_zero, List.getElem?_cons_succ, Option.getD_some, List.drop_succ_cons, List.drop_zero, List.drop_nil, List.append_nil, unB] at st)
    (try clear hc); have hc := st.facts; (try simp only [factsOf, blkI, blkFacts, rowI, byI, datI, nullI, oldI, penI, rdI, rdAnyI, rdOverI, Nat.zero_add, Nat.reduceAdd, and_true, true_and, and_self] at hc)
    (try unfold S at st)
    (try simp only [Value.cells, List.cons_append, List.nil_append, List.set, spl, putIt, pick, List.map_cons, List.map_nil, List.getElem?_cons_zero, List.getElem?_cons_succ, Option.getD_some, List.drop_succ_cons, List.drop_zero, List.drop_nil, List.append_nil, unB] at st)
    (try clear hc); have hc := st.facts; (try simp only [factsOf, blkI, blkFacts, rowI, byI, datI, nullI, oldI, penI, rdI, rdAnyI, rdOverI, Nat.zero_add, Nat.reduceAdd, and_true, true_and, and_self] at hc)
    go_wp2_with ((first
          | ((with_reducible refine wl_alloc ?_ (fun K hK => ?_)); rfl; refine owp_alloc (o := ⟨some 2, _, _, _, _, _⟩) rfl st ?_; apply Exists.intro; apply Exists.intro; refine ⟨?_, ?_⟩; (focus (first | (go_simp; done) | (go_simp; rfl))); (clear st; intro b2 w hb st; clear hb))
          | ((with_reducible refine wl_store ?_ (fun K hK => ?_)); rfl; refine owp_store rfl st ?_; apply Exists.intro; apply Exists.intro; refine ⟨?_, ?_, ?_⟩; (focus (go_simp; try rfl)); (focus (go_simp; try rfl)); (first | (with_reducible refine ⟨0, _, _, _, _, get0, rfl, rfl, ?_, ?_, ?_, ?_⟩) | (with_reducible refine ⟨1, _, _, _, _, get1, rfl, rfl, ?_, ?_, ?_, ?_⟩) | (with_reducible refine ⟨2, _, _, _, _, get2, rfl, rfl, ?_, ?_, ?_, ?_⟩) | (with_reducible refine ⟨3, _, _, _, _, get3, rfl, rfl, ?_, ?_, ?_, ?_⟩)); (kernel_rfl); (simp [Value.cells]); (rfl); (clear st; intro w st))
          | ((with_reducible refine wl_convert ?_ (fun K hK => ?_)); rfl; refine owp_sb (o := ⟨some 38, _, _, _, _, _⟩) rfl st rfl Try.underlying9 Try.underlying30 Try.underlying5 ?_ ?_; (simp only [maxLen]; omega); (clear st; intro A38 c38 w hc38 st))); (try simp only [Value.cells, List.cons_append, List.nil_append, List.set, spl, putIt, pick, List.map_cons, List.map_nil, List.getElem?_cons_zero, List.getElem?_cons_succ, Option.getD_some, List.drop_succ_cons, List.drop_zero, List.drop_nil, List.append_nil, unB] at st); (try clear hc); have hc := st.facts; (try simp only [factsOf, blkI, blkFacts, rowI, byI, datI, nullI, oldI, penI, rdI, rdAnyI, rdOverI, Nat.zero_add, Nat.reduceAdd, and_true, true_and, and_self] at hc))
    (try simp only [Exit.inBlock, Exit.then])
    refine bodyPost_cell rfl rfl (st.blk (i := 1) get1) Try.underlying66 rfl (by kernel_rfl) rfl ?_
    unfold RefTickC
    rw [H1.out]
    have st2 := (st.refMkE (i := 0) (t := tp) (xs := zq) (er := e) rfl he).keep [0] (by decide) (by simp)
    exact ⟨rfl, by simpa [pick] using st2⟩
  | ok p =>
    obtain ⟨o, ys⟩ := p
    rw [hr] at hen
    obtain ⟨rfl, st'⟩ := hen
    replace st := back _ _ (by simp) st'
    clear back st'
    (try simp only [Value.cells, List.cons_append, List.nil_append, List.set, spl, putIt, pick, List.map_cons, List.map_nil, List.getElem?_cons_zero, List.getElem?_cons_succ, Option.getD_some, List.drop_succ_cons, List.drop_zero, List.drop_nil, List.append_nil, unB] at st)
    (try clear hc); have hc := st.facts; (try simp only [factsOf, blkI, blkFacts, rowI, byI, datI, nullI, oldI, penI, rdI, rdAnyI, rdOverI, Nat.zero_add, Nat.reduceAdd, and_true, true_and, and_self] at hc)
    have hl1 := rdName_le2 hr
    have HR1 := Lib.hid hr
    clear hr
    unfold S
    go_wp2_with ((first
          | ((with_reducible refine wl_alloc ?_ (fun K hK => ?_)); rfl; refine owp_alloc (o := ⟨some 2, _, _, _, _, _⟩) rfl st ?_; apply Exists.intro; apply Exists.intro; refine ⟨?_, ?_⟩; (focus (first | (go_simp; done) | (go_simp; rfl))); (clear st; intro b2 w hb st; clear hb))
          | ((with_reducible refine wl_store ?_ (fun K hK => ?_)); rfl; refine owp_store rfl st ?_; apply Exists.intro; apply Exists.intro; refine ⟨?_, ?_, ?_⟩; (focus (go_simp; try rfl)); (focus (go_simp; try rfl)); (first | (with_reducible refine ⟨0, _, _, _, _, get0, rfl, rfl, ?_, ?_, ?_, ?_⟩) | (with_reducible refine ⟨1, _, _, _, _, get1, rfl, rfl, ?_, ?_, ?_, ?_⟩) | (with_reducible refine ⟨2, _, _, _, _, get2, rfl, rfl, ?_, ?_, ?_, ?_⟩) | (with_reducible refine ⟨3, _, _, _, _, get3, rfl, rfl, ?_, ?_, ?_, ?_⟩)); (kernel_rfl); (simp [Value.cells]); (rfl); (clear st; intro w st))
          | ((with_reducible refine wl_convert ?_ (fun K hK => ?_)); rfl; refine owp_sb (o := ⟨some 38, _, _, _, _, _⟩) rfl st rfl Try.underlying9 Try.underlying30 Try.underlying5 ?_ ?_; (simp only [maxLen]; omega); (clear st; intro A38 c38 w hc38 st))); (try simp only [Value.cells, List.cons_append, List.nil_append, List.set, spl, putIt, pick, List.map_cons, List.map_nil, List.getElem?_cons_zero, List.getElem?_cons_succ, Option.getD_some, List.drop_succ_cons, List.drop_zero, List.drop_nil, List.append_nil, unB] at st); (try clear hc); have hc := st.facts; (try simp only [factsOf, blkI, blkFacts, rowI, byI, datI, nullI, oldI, penI, rdI, rdAnyI, rdOverI, Nat.zero_add, Nat.reduceAdd, and_true, true_and, and_self] at hc))
    obtain ⟨fr', al', st', back⟩ := st.sub [0] (by decide) (by simp)
    (try simp only [Value.cells, List.cons_append, List.nil_append, List.set, spl, putIt, pick, List.map_cons, List.map_nil, List.getElem?_cons_zero, List.getElem?_cons_succ, Option.getD_some, List.drop_succ_cons, List.drop_zero, List.drop_nil, List.append_nil, unB] at st')
    refine (refGetName_m st' (fun xs hx => by cases hx; omega)).mono ?_
    clear st'
    intro en w hen
    unfold RefC at hen
    rw [show bnd (Except.ok ys) rdName = rdName ys from rfl] at hen
    cases hr : rdName ys with
    | error e =>
      rw [hr] at hen
      obtain ⟨rfl, st'⟩ := hen
      replace st := back _ _ (by simp) st'
      clear back st'
      (try simp only [Value.cells, List.cons_append, List.nil_append, List.set, spl, putIt, pick, List.map_cons, List.map_nil, List.getElem?_cons_zero, List.getElem?_cons_succ, Option.getD_some, List.drop_succ_cons, List.drop_zero, List.drop_nil, List.append_nil, unB] at st)
      (try clear hc); have hc := st.facts; (try simp only [factsOf, blkI, blkFacts, rowI, byI, datI, nullI, oldI, penI, rdI, rdAnyI, rdOverI, Nat.zero_add, Nat.reduceAdd, and_true, true_and, and_self] at hc)
      have H1 : Hid (rdTick xs = .error e) := Lib.hid (by simp [rdTick, HR1.out, hr, bdm])
      clear hr
      (try unfold S)
      go_wp2_with ((first
            | ((with_reducible refine wl_alloc ?_ (fun K hK => ?_)); rfl; refine owp_alloc (o := ⟨some 2, _, _, _, _, _⟩) rfl st ?_; apply Exists.intro; apply Exists.intro; refine ⟨?_, ?_⟩; (focus (first | (go_simp; done) | (go_simp; rfl))); (clear st; intro b2 w hb st; clear hb))
            | ((with_reducible refine wl_store ?_ (fun K hK => ?_)); rfl; refine owp_store rfl st ?_; apply Exists.intro; apply Exists.intro; refine ⟨?_, ?_, ?_⟩; (focus (go_simp; try rfl)); (focus (go_simp; try rfl)); (first | (with_reducible refine ⟨0, _, _, _, _, get0, rfl, rfl, ?_, ?_, ?_, ?_⟩) | (with_reducible refine ⟨1, _, _, _, _, get1, rfl, rfl, ?_, ?_, ?_, ?_⟩) | (with_reducible refine ⟨2, _, _, _, _, get2, rfl, rfl, ?_, ?_, ?_, ?_⟩) | (with_reducible refine ⟨3, _, _, _, _, get3, rfl, rfl, ?_, ?_, ?_, ?_⟩)); (kernel_rfl); (simp [Value.cells]); (rfl); (clear st; intro w st))
            | ((with_reducible refine wl_convert ?_ (fun K hK => ?_)); rfl; refine owp_sb (o := ⟨some 38, _, _, _, _, _⟩) rfl st rfl Try.underlying9 Try.underlying30 Try.underlying5 ?_ ?_; (simp only [maxLen]; omega); (clear st; intro A38 c38 w hc38 st))); (try simp only [Value.cells, List.cons_append, List.nil_append, List.set, spl, putIt, pick, List.map_cons, List.map_nil, List.getElem?_cons_zero, List.getElem?_cons_succ, Option.getD_some, List.drop_succ_cons, List.drop_zero, List.drop_nil, List.append_nil, unB] at st); (try clear hc); have hc := st.facts; (try simp only [factsOf, blkI, blkFacts, rowI, byI, datI, nullI, oldI, penI, rdI, rdAnyI, rdOverI, Nat.zero_add, Nat.reduceAdd, and_true, true_and, and_self] at hc))
      obtain ⟨fr', al', st', back⟩ := st.sub [0] (by decide) (by simp)
      (try simp only [Value.cells, List.cons_append, List.nil_append, List.set, spl, putIt, pick, List.map_cons, List.map_nil, List.getElem?_cons_zero, List.getElem?_cons_succ, Option.getD_some, List.drop_succ_cons, List.drop_zero, List.drop_nil, List.append_nil, unB] at st')
      refine (refNumber_m st' 1099511627776).mono ?_
      clear st'
      intro en w hen
      unfold RefC at hen
      unfold bnd at hen
      obtain ⟨rfl, st'⟩ := hen
      replace st := back _ _ (by simp) st'
      clear back st'
      (try simp only [Value.cells, List.cons_append, List.nil_append, List.set, spl, putIt, pick, List.map_cons, List.map_nil, List.getElem?_cons_zero, List.getElem?_cons_succ, Option.getD_some, List.drop_succ_cons, List.drop_zero, List.drop_nil, List.append_nil, unB] at st)
      (try clear hc); have hc := st.facts; (try simp only [factsOf, blkI, blkFacts, rowI, byI, datI, nullI, oldI, penI, rdI, rdAnyI, rdOverI, Nat.zero_add, Nat.reduceAdd, and_true, true_and, and_self] at hc)
      (try unfold S)
      go_wp2_with ((first
            | ((with_reducible refine wl_alloc ?_ (fun K hK => ?_)); rfl; refine owp_alloc (o := ⟨some 2, _, _, _, _, _⟩) rfl st ?_; apply Exists.intro; apply Exists.intro; refine ⟨?_, ?_⟩; (focus (first | (go_simp; done) | (go_simp; rfl))); (clear st; intro b2 w hb st; clear hb))
            | ((with_reducible refine wl_store ?_ (fun K hK => ?_)); rfl; refine owp_store rfl st ?_; apply Exists.intro; apply Exists.intro; refine ⟨?_, ?_, ?_⟩; (focus (go_simp; try rfl)); (focus (go_simp; try rfl)); (first | (with_reducible refine ⟨0, _, _, _, _, get0, rfl, rfl, ?_, ?_, ?_, ?_⟩) | (with_reducible refine ⟨1, _, _, _, _, get1, rfl, rfl, ?_, ?_, ?_, ?_⟩) | (with_reducible refine ⟨2, _, _, _, _, get2, rfl, rfl, ?_, ?_, ?_, ?_⟩) | (with_reducible refine ⟨3, _, _, _, _, get3, rfl, rfl, ?_, ?_, ?_, ?_⟩)); (kernel_rfl); (simp [Value.cells]); (rfl); (clear st; intro w st))
            | ((with_reducible refine wl_convert ?_ (fun K hK => ?_)); rfl; refine owp_sb (o := ⟨some 38, _, _, _, _, _⟩) rfl st rfl Try.underlying9 Try.underlying30 Try.underlying5 ?_ ?_; (simp only [maxLen]; omega); (clear st; intro A38 c38 w hc38 st))); (try simp only [Value.cells, List.cons_append, List.nil_append, List.set, spl, putIt, pick, List.map_cons, List.map_nil, List.getElem?_cons_zero, List.getElem?_cons_succ, Option.getD_some, List.drop_succ_cons, List.drop_zero, List.drop_nil, List.append_nil, unB] at st); (try clear hc); have hc := st.facts; (try simp only [factsOf, blkI, blkFacts, rowI, byI, datI, nullI, oldI, penI, rdI, rdAnyI, rdOverI, Nat.zero_add, Nat.reduceAdd, and_true, true_and, and_self] at hc))
      obtain ⟨fr', al', st', back⟩ := st.sub [0] (by decide) (by simp)
      (try simp only [Value.cells, List.cons_append, List.nil_append, List.set, spl, putIt, pick, List.map_cons, List.map_nil, List.getElem?_cons_zero, List.getElem?_cons_succ, Option.getD_some, List.drop_succ_cons, List.drop_zero, List.drop_nil, List.append_nil, unB] at st')
      refine (refText_m st' 8 (fun xs hx => by cases hx)).mono ?_
      clear st'
      intro en w hen
      unfold RefC at hen
      unfold bnd at hen
      obtain ⟨rfl, st'⟩ := hen
      replace st := back _ _ (by simp) st'
      clear back st'
      (try simp only [Value.cells, List.cons_append, List.nil_append, List.set, spl, putIt, pick, List.map_cons, List.map_nil, List.getElem?_cons_zero, List.getElem?_cons_succ, Option.getD_some, List.drop_succ_cons, List.drop_zero, List.drop_nil, List.append_nil, unB] at st)
      (try clear hc); have hc := st.facts; (try simp only [factsOf, blkI, blkFacts, rowI, byI, datI, nullI, oldI, penI, rdI, rdAnyI, rdOverI, Nat.zero_add, Nat.reduceAdd, and_true, true_and, and_self] at hc)
      (try unfold S)
      obtain ⟨zq, he, st1⟩ := st.refErr (i := 0) get0
      clear st
      have st := st1
      clear st1
      have hne : ((e : Int) != 0) = true := bne_iff_ne.2 he
      have hne2 : ((e : Int) == 0) = false := beq_eq_false_iff_ne.2 he
      (try simp only [Value.cells, List.cons_append, List.nil_append, List.set, spl, putIt, pick, List.map_cons, List.map_nil, List.getElem?_cons_zero, List.getElem?_cons_succ, Option.getD_some, List.drop_succ_cons, List.drop_zero, List.drop_nil, List.append_nil, unB] at st)
      (try clear hc); have hc := st.facts; (try simp only [factsOf, blkI, blkFacts, rowI, byI, datI, nullI, oldI, penI, rdI, rdAnyI, rdOverI, Nat.zero_add, Nat.reduceAdd, and_true, true_and, and_self] at hc)
      (try unfold S at st)
      (try simp only [Value.cells, List.cons_append, List.nil_append, List.set, spl, putIt, pick, List.map_cons, List.map_nil, List.getElem?_cons_zero, List.getElem?_cons_succ, Option.getD_some, List.drop_succ_cons, List.drop_zero, List.drop_nil, List.append_nil, unB] at st)
      (try clear hc); have hc := st.facts; (try simp only [factsOf, blkI, blkFacts, rowI, byI, datI, nullI, oldI, penI, rdI, rdAnyI, rdOverI, Nat.zero_add, Nat.reduceAdd, and_true, true_and, and_self] at hc)
      go_wp2_with ((first
            | ((with_reducible refine wl_alloc ?_ (fun K hK => ?_)); rfl; refine owp_alloc (o := ⟨some 2, _, _, _, _, _⟩) rfl st ?_; apply Exists.intro; apply Exists.intro; refine ⟨?_, ?_⟩; (focus (first | (go_simp; done) | (go_simp; rfl))); (clear st; intro b2 w hb st; clear hb))
            | ((with_reducible refine wl_store ?_ (fun K hK => ?_)); rfl; refine owp_store rfl st ?_; apply Exists.intro; apply Exists.intro; refine ⟨?_, ?_, ?_⟩; (focus (go_simp; try rfl)); (focus (go_simp; try rfl)); (first | (with_reducible refine ⟨0, _, _, _, _, get0, rfl, rfl, ?_, ?_, ?_, ?_⟩) | (with_reducible refine ⟨1, _, _, _, _, get1, rfl, rfl, ?_, ?_, ?_, ?_⟩) | (with_reducible refine ⟨2, _, _, _, _, get2, rfl, rfl, ?_, ?_, ?_, ?_⟩) | (with_reducible refine ⟨3, _, _, _, _, get3, rfl, rfl, ?_, ?_, ?_, ?_⟩)); (kernel_rfl); (simp [Value.cells]); (rfl); (clear st; intro w st))
            | ((with_reducible refine wl_convert ?_ (fun K hK => ?_)); rfl; refine owp_sb (o := ⟨some 38, _, _, _, _, _⟩) rfl st rfl Try.underlying9 Try.underlying30 Try.underlying5 ?_ ?_; (simp only [maxLen]; omega); (clear st; intro A38 c38 w hc38 st))); (try simp only [Value.cells, List.cons_append, List.nil_append, List.set, spl, putIt, pick, List.map_cons, List.map_nil, List.getElem?_cons_zero, List.getElem?_cons_succ, Option.getD_some, List.drop_succ_cons, List.drop_zero, List.drop_nil, List.append_nil, unB] at st); (try clear hc); have hc := st.facts; (try simp only [factsOf, blkI, blkFacts, rowI, byI, datI, nullI, oldI, penI, rdI, rdAnyI, rdOverI, Nat.zero_add, Nat.reduceAdd, and_true, true_and, and_self] at hc))
      (try simp only [Exit.inBlock, Exit.then])
      refine bodyPost_cell rfl rfl (st.blk (i := 1) get1) Try.underlying66 rfl (by kernel_rfl) rfl ?_
      unfold RefTickC
      rw [H1.out]
      have st2 := (st.refMkE (i := 0) (t := tp) (xs := zq) (er := e) rfl he).keep [0] (by decide) (by simp)
      exact ⟨rfl, by simpa [pick] using st2⟩
    | ok p =>
      obtain ⟨cl, zs⟩ := p
      rw [hr] at hen
      obtain ⟨rfl, st'⟩ := hen
      replace st := back _ _ (by simp) st'
      clear back st'
      (try simp only [Value.cells, List.cons_append, List.nil_append, List.set, spl, putIt, pick, List.map_cons, List.map_nil, List.getElem?_cons_zero, List.getElem?_cons_succ, Option.getD_some, List.drop_succ_cons, List.drop_zero, List.drop_nil, List.append_nil, unB] at st)
      (try clear hc); have hc := st.facts; (try simp only [factsOf, blkI, blkFacts, rowI, byI, datI, nullI, oldI, penI, rdI, rdAnyI, rdOverI, Nat.zero_add, Nat.reduceAdd, and_true, true_and, and_self] at hc)
      have hl2 := rdName_le2 hr
      have HR2 := Lib.hid hr
      clear hr
      unfold S
      go_wp2_with ((first
            | ((with_reducible refine wl_alloc ?_ (fun K hK => ?_)); rfl; refine owp_alloc (o := ⟨some 2, _, _, _, _, _⟩) rfl st ?_; apply Exists.intro; apply Exists.intro; refine ⟨?_, ?_⟩; (focus (first | (go_simp; done) | (go_simp; rfl))); (clear st; intro b2 w hb st; clear hb))
            | ((with_reducible refine wl_store ?_ (fun K hK => ?_)); rfl; refine owp_store rfl st ?_; apply Exists.intro; apply Exists.intro; refine ⟨?_, ?_, ?_⟩; (focus (go_simp; try rfl)); (focus (go_simp; try rfl)); (first | (with_reducible refine ⟨0, _, _, _, _, get0, rfl, rfl, ?_, ?_, ?_, ?_⟩) | (with_reducible refine ⟨1, _, _, _, _, get1, rfl, rfl, ?_, ?_, ?_, ?_⟩) | (with_reducible refine ⟨2, _, _, _, _, get2, rfl, rfl, ?_, ?_, ?_, ?_⟩) | (with_reducible refine ⟨3, _, _, _, _, get3, rfl, rfl, ?_, ?_, ?_, ?_⟩)); (kernel_rfl); (simp [Value.cells]); (rfl); (clear st; intro w st))
            | ((with_reducible refine wl_convert ?_ (fun K hK => ?_)); rfl; refine owp_sb (o := ⟨some 38, _, _, _, _, _⟩) rfl st rfl Try.underlying9 Try.underlying30 Try.underlying5 ?_ ?_; (simp only [maxLen]; omega); (clear st; intro A38 c38 w hc38 st))); (try simp only [Value.cells, List.cons_append, List.nil_append, List.set, spl, putIt, pick, List.map_cons, List.map_nil, List.getElem?_cons_zero, List.getElem?_cons_succ, Option.getD_some, List.drop_succ_cons, List.drop_zero, List.drop_nil, List.append_nil, unB] at st); (try clear hc); have hc := st.facts; (try simp only [factsOf, blkI, blkFacts, rowI, byI, datI, nullI, oldI, penI, rdI, rdAnyI, rdOverI, Nat.zero_add, Nat.reduceAdd, and_true, true_and, and_self] at hc))
      obtain ⟨fr', al', st', back⟩ := st.sub [0] (by decide) (by simp)
      (try simp only [Value.cells, List.cons_append, List.nil_append, List.set, spl, putIt, pick, List.map_cons, List.map_nil, List.getElem?_cons_zero, List.getElem?_cons_succ, Option.getD_some, List.drop_succ_cons, List.drop_zero, List.drop_nil, List.append_nil, unB] at st')
      refine (refNumber_m st' 1099511627776).mono ?_
      clear st'
      intro en w hen
      unfold RefC at hen
      rw [show bnd (Except.ok zs) (rdNumber 1099511627776) = rdNumber 1099511627776 zs from rfl] at hen
      cases hr : rdNumber 1099511627776 zs with
      | error e =>
        rw [hr] at hen
        obtain ⟨rfl, st'⟩ := hen
        replace st := back _ _ (by simp) st'
        clear back st'
        (try simp only [Value.cells, List.cons_append, List.nil_append, List.set, spl, putIt, pick, List.map_cons, List.map_nil, List.getElem?_cons_zero, List.getElem?_cons_succ, Option.getD_some, List.drop_succ_cons, List.drop_zero, List.drop_nil, List.append_nil, unB] at st)
        (try clear hc); have hc := st.facts; (try simp only [factsOf, blkI, blkFacts, rowI, byI, datI, nullI, oldI, penI, rdI, rdAnyI, rdOverI, Nat.zero_add, Nat.reduceAdd, and_true, true_and, and_self] at hc)
        have H1 : Hid (rdTick xs = .error e) := Lib.hid (by simp [rdTick, HR1.out, HR2.out, hr, bdm])
        clear hr
        (try unfold S)
        go_wp2_with ((first
              | ((with_reducible refine wl_alloc ?_ (fun K hK => ?_)); rfl; refine owp_alloc (o := ⟨some 2, _, _, _, _, _⟩) rfl st ?_; apply Exists.intro; apply Exists.intro; refine ⟨?_, ?_⟩; (focus (first | (go_simp; done) | (go_simp; rfl))); (clear st; intro b2 w hb st; clear hb))
              | ((with_reducible refine wl_store ?_ (fun K hK => ?_)); rfl; refine owp_store rfl st ?_; apply Exists.intro; apply Exists.intro; refine ⟨?_, ?_, ?_⟩; (focus (go_simp; try rfl)); (focus (go_simp; try rfl)); (first | (with_reducible refine ⟨0, _, _, _, _, get0, rfl, rfl, ?_, ?_, ?_, ?_⟩) | (with_reducible refine ⟨1, _, _, _, _, get1, rfl, rfl, ?_, ?_, ?_, ?_⟩) | (with_reducible refine ⟨2, _, _, _, _, get2, rfl, rfl, ?_, ?_, ?_, ?_⟩) | (with_reducible refine ⟨3, _, _, _, _, get3, rfl, rfl, ?_, ?_, ?_, ?_⟩)); (kernel_rfl); (simp [Value.cells]); (rfl); (clear st; intro w st))
              | ((with_reducible refine wl_convert ?_ (fun K hK => ?_)); rfl; refine owp_sb (o := ⟨some 38, _, _, _, _, _⟩) rfl st rfl Try.underlying9 Try.underlying30 Try.underlying5 ?_ ?_; (simp only [maxLen]; omega); (clear st; intro A38 c38 w hc38 st))); (try simp only [Value.cells, List.cons_append, List.nil_append, List.set, spl, putIt, pick, List.map_cons, List.map_nil, List.getElem?_cons_zero, List.getElem?_cons_succ, Option.getD_some, List.drop_succ_cons, List.drop_zero, List.drop_nil, List.append_nil, unB] at st); (try clear hc); have hc := st.facts; (try simp only [factsOf, blkI, blkFacts, rowI, byI, datI, nullI, oldI, penI, rdI, rdAnyI, rdOverI, Nat.zero_add, Nat.reduceAdd, and_true, true_and, and_self] at hc))
        obtain ⟨fr', al', st', back⟩ := st.sub [0] (by decide) (by simp)
        (try simp only [Value.cells, List.cons_append, List.nil_append, List.set, spl, putIt, pick, List.map_cons, List.map_nil, List.getElem?_cons_zero, List.getElem?_cons_succ, Option.getD_some, List.drop_succ_cons, List.drop_zero, List.drop_nil, List.append_nil, unB] at st')
        refine (refText_m st' 8 (fun xs hx => by cases hx)).mono ?_
        clear st'
        intro en w hen
        unfold RefC at hen
        unfold bnd at hen
        obtain ⟨rfl, st'⟩ := hen
        replace st := back _ _ (by simp) st'
        clear back st'
        (try simp only [Value.cells, List.cons_append, List.nil_append, List.set, spl, putIt, pick, List.map_cons, List.map_nil, List.getElem?_cons_zero, List.getElem?_cons_succ, Option.getD_some, List.drop_succ_cons, List.drop_zero, List.drop_nil, List.append_nil, unB] at st)
        (try clear hc); have hc := st.facts; (try simp only [factsOf, blkI, blkFacts, rowI, byI, datI, nullI, oldI, penI, rdI, rdAnyI, rdOverI, Nat.zero_add, Nat.reduceAdd, and_true, true_and, and_self] at hc)
        (try unfold S)
        obtain ⟨zq, he, st1⟩ := st.refErr (i := 0) get0
        clear st
        have st := st1
        clear st1
        have hne : ((e : Int) != 0) = true := bne_iff_ne.2 he
        have hne2 : ((e : Int) == 0) = false := beq_eq_false_iff_ne.2 he
        (try simp only [Value.cells, List.cons_append, List.nil_append, List.set, spl, putIt, pick, List.map_cons, List.map_nil, List.getElem?_cons_zero, List.getElem?_cons_succ, Option.getD_some, List.drop_succ_cons, List.drop_zero, List.drop_nil, List.append_nil, unB] at st)
        (try clear hc); have hc := st.facts; (try simp only [factsOf, blkI, blkFacts, rowI, byI, datI, nullI, oldI, penI, rdI, rdAnyI, rdOverI, Nat.zero_add, Nat.reduceAdd, and_true, true_and, and_self] at hc)
        (try unfold S at st)
        (try simp only [Value.cells, List.cons_append, List.nil_append, List.set, spl, putIt, pick, List.map_cons, List.map_nil, List.getElem?_cons_zero, List.getElem?_cons_succ, Option.getD_some, List.drop_succ_cons, List.drop_zero, List.drop_nil, List.append_nil, unB] at st)
        (try clear hc); have hc := st.facts; (try simp only [factsOf, blkI, blkFacts, rowI, byI, datI, nullI, oldI, penI, rdI, rdAnyI, rdOverI, Nat.zero_add, Nat.reduceAdd, and_true, true_and, and_self] at hc)
        go_wp2_with ((first
              | ((with_reducible refine wl_alloc ?_ (fun K hK => ?_)); rfl; refine owp_alloc (o := ⟨some 2, _, _, _, _, _⟩) rfl st ?_; apply Exists.intro; apply Exists.intro; refine ⟨?_, ?_⟩; (focus (first | (go_simp; done) | (go_simp; rfl))); (clear st; intro b2 w hb st; clear hb))
              | ((with_reducible refine wl_store ?_ (fun K hK => ?_)); rfl; refine owp_store rfl st ?_; apply Exists.intro; apply Exists.intro; refine ⟨?_, ?_, ?_⟩; (focus (go_simp; try rfl)); (focus (go_simp; try rfl)); (first | (with_reducible refine ⟨0, _, _, _, _, get0, rfl, rfl, ?_, ?_, ?_, ?_⟩) | (with_reducible refine ⟨1, _, _, _, _, get1, rfl, rfl, ?_, ?_, ?_, ?_⟩) | (with_reducible refine ⟨2, _, _, _, _, get2, rfl, rfl, ?_, ?_, ?_, ?_⟩) | (with_reducible refine ⟨3, _, _, _, _, get3, rfl, rfl, ?_, ?_, ?_, ?_⟩)); (kernel_rfl); (simp [Value.cells]); (rfl); (clear st; intro w st))
              | ((with_reducible refine wl_convert ?_ (fun K hK => ?_)); rfl; refine owp_sb (o := ⟨some 38, _, _, _, _, _⟩) rfl st rfl Try.underlying9 Try.underlying30 Try.underlying5 ?_ ?_; (simp only [maxLen]; omega); (clear st; intro A38 c38 w hc38 st))); (try simp only [Value.cells, List.cons_append, List.nil_append, List.set, spl, putIt, pick, List.map_cons, List.map_nil, List.getElem?_cons_zero, List.getElem?_cons_succ, Option.getD_some, List.drop_succ_cons, List.drop_zero, List.drop_nil, List.append_nil, unB] at st); (try clear hc); have hc := st.facts; (try simp only [factsOf, blkI, blkFacts, rowI, byI, datI, nullI, oldI, penI, rdI, rdAnyI, rdOverI, Nat.zero_add, Nat.reduceAdd, and_true, true_and, and_self] at hc))
        (try simp only [Exit.inBlock, Exit.then])
        refine bodyPost_cell rfl rfl (st.blk (i := 1) get1) Try.underlying66 rfl (by kernel_rfl) rfl ?_
        unfold RefTickC
        rw [H1.out]
        have st2 := (st.refMkE (i := 0) (t := tp) (xs := zq) (er := e) rfl he).keep [0] (by decide) (by simp)
        exact ⟨rfl, by simpa [pick] using st2⟩
      | ok p =>
        obtain ⟨tn, us⟩ := p
        rw [hr] at hen
        obtain ⟨rfl, st'⟩ := hen
        replace st := back _ _ (by simp) st'
        clear back st'
        (try simp only [Value.cells, List.cons_append, List.nil_append, List.set, spl, putIt, pick, List.map_cons, List.map_nil, List.getElem?_cons_zero, List.getElem?_cons_succ, Option.getD_some, List.drop_succ_cons, List.drop_zero, List.drop_nil, List.append_nil, unB] at st)
        (try clear hc); have hc := st.facts; (try simp only [factsOf, blkI, blkFacts, rowI, byI, datI, nullI, oldI, penI, rdI, rdAnyI, rdOverI, Nat.zero_add, Nat.reduceAdd, and_true, true_and, and_self] at hc)
        have hl3 := rdNumber_le2 hr
        have HR3 := Lib.hid hr
        clear hr
        go_wp2_with ((first
              | ((with_reducible refine wl_alloc ?_ (fun K hK => ?_)); rfl; refine owp_alloc (o := ⟨some 2, _, _, _, _, _⟩) rfl st ?_; apply Exists.intro; apply Exists.intro; refine ⟨?_, ?_⟩; (focus (first | (go_simp; done) | (go_simp; rfl))); (clear st; intro b2 w hb st; clear hb))
              | ((with_reducible refine wl_store ?_ (fun K hK => ?_)); rfl; refine owp_store rfl st ?_; apply Exists.intro; apply Exists.intro; refine ⟨?_, ?_, ?_⟩; (focus (go_simp; try rfl)); (focus (go_simp; try rfl)); (first | (with_reducible refine ⟨0, _, _, _, _, get0, rfl, rfl, ?_, ?_, ?_, ?_⟩) | (with_reducible refine ⟨1, _, _, _, _, get1, rfl, rfl, ?_, ?_, ?_, ?_⟩) | (with_reducible refine ⟨2, _, _, _, _, get2, rfl, rfl, ?_, ?_, ?_, ?_⟩) | (with_reducible refine ⟨3, _, _, _, _, get3, rfl, rfl, ?_, ?_, ?_, ?_⟩)); (kernel_rfl); (simp [Value.cells]); (rfl); (clear st; intro w st))
              | ((with_reducible refine wl_convert ?_ (fun K hK => ?_)); rfl; refine owp_sb (o := ⟨some 38, _, _, _, _, _⟩) rfl st rfl Try.underlying9 Try.underlying30 Try.underlying5 ?_ ?_; (simp only [maxLen]; omega); (clear st; intro A38 c38 w hc38 st))); (try simp only [Value.cells, List.cons_append, List.nil_append, List.set, spl, putIt, pick, List.map_cons, List.map_nil, List.getElem?_cons_zero, List.getElem?_cons_succ, Option.getD_some, List.drop_succ_cons, List.drop_zero, List.drop_nil, List.append_nil, unB] at st); (try clear hc); have hc := st.facts; (try simp only [factsOf, blkI, blkFacts, rowI, byI, datI, nullI, oldI, penI, rdI, rdAnyI, rdOverI, Nat.zero_add, Nat.reduceAdd, and_true, true_and, and_self] at hc))
        obtain ⟨fr', al', st', back⟩ := st.sub [0] (by decide) (by simp)
        (try simp only [Value.cells, List.cons_append, List.nil_append, List.set, spl, putIt, pick, List.map_cons, List.map_nil, List.getElem?_cons_zero, List.getElem?_cons_succ, Option.getD_some, List.drop_succ_cons, List.drop_zero, List.drop_nil, List.append_nil, unB] at st')
        refine (refText_m st' 8 (fun xs hx => by cases hx; omega)).mono ?_
        clear st'
        intro en w hen
        unfold RefC at hen
        rw [show bnd (Except.ok us) (rdText 8) = rdText 8 us from rfl] at hen
        cases hr : rdText 8 us with
        | error e =>
          rw [hr] at hen
          obtain ⟨rfl, st'⟩ := hen
          replace st := back _ _ (by simp) st'
          clear back st'
          (try simp only [Value.cells, List.cons_append, List.nil_append, List.set, spl, putIt, pick, List.map_cons, List.map_nil, List.getElem?_cons_zero, List.getElem?_cons_succ, Option.getD_some, List.drop_succ_cons, List.drop_zero, List.drop_nil, List.append_nil, unB] at st)
          (try clear hc); have hc := st.facts; (try simp only [factsOf, blkI, blkFacts, rowI, byI, datI, nullI, oldI, penI, rdI, rdAnyI, rdOverI, Nat.zero_add, Nat.reduceAdd, and_true, true_and, and_self] at hc)
          have H1 : Hid (rdTick xs = .error e) := Lib.hid (by simp [rdTick, HR1.out, HR2.out, HR3.out, hr, bdm])
          clear hr
          (try unfold S)
          obtain ⟨zq, he, st1⟩ := st.refErr (i := 0) get0
          clear st
          have st := st1
          clear st1
          have hne : ((e : Int) != 0) = true := bne_iff_ne.2 he
          have hne2 : ((e : Int) == 0) = false := beq_eq_false_iff_ne.2 he
          (try simp only [Value.cells, List.cons_append, List.nil_append, List.set, spl, putIt, pick, List.map_cons, List.map_nil, List.getElem?_cons_zero, List.getElem?_cons_succ, Option.getD_some, List.drop_succ_cons, List.drop_zero, List.drop_nil, List.append_nil, unB] at st)
          (try clear hc); have hc := st.facts; (try simp only [factsOf, blkI, blkFacts, rowI, byI, datI, nullI, oldI, penI, rdI, rdAnyI, rdOverI, Nat.zero_add, Nat.reduceAdd, and_true, true_and, and_self] at hc)
          (try unfold S at st)
          (try simp only [Value.cells, List.cons_append, List.nil_append, List.set, spl, putIt, pick, List.map_cons, List.map_nil, List.getElem?_cons_zero, List.getElem?_cons_succ, Option.getD_some, List.drop_succ_cons, List.drop_zero, List.drop_nil, List.append_nil, unB] at st)
          (try clear hc); have hc := st.facts; (try simp only [factsOf, blkI, blkFacts, rowI, byI, datI, nullI, oldI, penI, rdI, rdAnyI, rdOverI, Nat.zero_add, Nat.reduceAdd, and_true, true_and, and_self] at hc)
          go_wp2_with ((first
                | ((with_reducible refine wl_alloc ?_ (fun K hK => ?_)); rfl; refine owp_alloc (o := ⟨some 2, _, _, _, _, _⟩) rfl st ?_; apply Exists.intro; apply Exists.intro; refine ⟨?_, ?_⟩; (focus (first | (go_simp; done) | (go_simp; rfl))); (clear st; intro b2 w hb st; clear hb))
                | ((with_reducible refine wl_store ?_ (fun K hK => ?_)); rfl; refine owp_store rfl st ?_; apply Exists.intro; apply Exists.intro; refine ⟨?_, ?_, ?_⟩; (focus (go_simp; try rfl)); (focus (go_simp; try rfl)); (first | (with_reducible refine ⟨0, _, _, _, _, get0, rfl, rfl, ?_, ?_, ?_, ?_⟩) | (with_reducible refine ⟨1, _, _, _, _, get1, rfl, rfl, ?_, ?_, ?_, ?_⟩) | (with_reducible refine ⟨2, _, _, _, _, get2, rfl, rfl, ?_, ?_, ?_, ?_⟩) | (with_reducible refine ⟨3, _, _, _, _, get3, rfl, rfl, ?_, ?_, ?_, ?_⟩)); (kernel_rfl); (simp [Value.cells]); (rfl); (clear st; intro w st))
                | ((with_reducible refine wl_convert ?_ (fun K hK => ?_)); rfl; refine owp_sb (o := ⟨some 38, _, _, _, _, _⟩) rfl st rfl Try.underlying9 Try.underlying30 Try.underlying5 ?_ ?_; (simp only [maxLen]; omega); (clear st; intro A38 c38 w hc38 st))); (try simp only [Value.cells, List.cons_append, List.nil_append, List.set, spl, putIt, pick, List.map_cons, List.map_nil, List.getElem?_cons_zero, List.getElem?_cons_succ, Option.getD_some, List.drop_succ_cons, List.drop_zero, List.drop_nil, List.append_nil, unB] at st); (try clear hc); have hc := st.facts; (try simp only [factsOf, blkI, blkFacts, rowI, byI, datI, nullI, oldI, penI, rdI, rdAnyI, rdOverI, Nat.zero_add, Nat.reduceAdd, and_true, true_and, and_self] at hc))
          (try simp only [Exit.inBlock, Exit.then])
          refine bodyPost_cell rfl rfl (st.blk (i := 1) get1) Try.underlying66 rfl (by kernel_rfl) rfl ?_
          unfold RefTickC
          rw [H1.out]
          have st2 := (st.refMkE (i := 0) (t := tp) (xs := zq) (er := e) rfl he).keep [0] (by decide) (by simp)
          exact ⟨rfl, by simpa [pick] using st2⟩
        | ok p =>
          obtain ⟨tg, vs⟩ := p
          rw [hr] at hen
          obtain ⟨rfl, st'⟩ := hen
          replace st := back _ _ (by simp) st'
          clear back st'
          (try simp only [Value.cells, List.cons_append, List.nil_append, List.set, spl, putIt, pick, List.map_cons, List.map_nil, List.getElem?_cons_zero, List.getElem?_cons_succ, Option.getD_some, List.drop_succ_cons, List.drop_zero, List.drop_nil, List.append_nil, unB] at st)
          (try clear hc); have hc := st.facts; (try simp only [factsOf, blkI, blkFacts, rowI, byI, datI, nullI, oldI, penI, rdI, rdAnyI, rdOverI, Nat.zero_add, Nat.reduceAdd, and_true, true_and, and_self] at hc)
          have hl4 := rdText_le hr
          have HR4 := Lib.hid hr
          clear hr
          replace st := st.refOk (i := 0) get0
          (try unfold S at st)
          (try unfold S)
          (try simp only [Value.cells, List.cons_append, List.nil_append, List.set, spl, putIt, pick, List.map_cons, List.map_nil, List.getElem?_cons_zero, List.getElem?_cons_succ, Option.getD_some, List.drop_succ_cons, List.drop_zero, List.drop_nil, List.append_nil, unB] at st)
          (try clear hc); have hc := st.facts; (try simp only [factsOf, blkI, blkFacts, rowI, byI, datI, nullI, oldI, penI, rdI, rdAnyI, rdOverI, Nat.zero_add, Nat.reduceAdd, and_true, true_and, and_self] at hc)
          have hsz : (⟨tg.toArray⟩ : ByteArray).size = tg.length := by simp [ByteArray.size]
          obtain ⟨tl, htl⟩ : ∃ m, tg.length = m := ⟨_, rfl⟩
          have HTL := Lib.hid htl
          rw [htl] at hsz
          clear htl
          by_cases h8 : tl = 8
          · subst h8
            have H1 : Hid (rdTick xs = .ok ((o, cl, tn, tg), vs)) := Lib.hid (by simp [rdTick, HR1.out, HR2.out, HR3.out, HR4.out, bdm, HTL.out])
            have hl5 : tg.length ≤ 100 := by have := HTL.out; omega
            go_wp2_with ((first
                  | ((with_reducible refine wl_alloc ?_ (fun K hK => ?_)); rfl; refine owp_alloc (o := ⟨some 2, _, _, _, _, _⟩) rfl st ?_; apply Exists.intro; apply Exists.intro; refine ⟨?_, ?_⟩; (focus (first | (go_simp; done) | (go_simp; rfl))); (clear st; intro b2 w hb st; clear hb))
                  | ((with_reducible refine wl_store ?_ (fun K hK => ?_)); rfl; refine owp_store rfl st ?_; apply Exists.intro; apply Exists.intro; refine ⟨?_, ?_, ?_⟩; (focus (go_simp; try rfl)); (focus (go_simp; try rfl)); (first | (with_reducible refine ⟨0, _, _, _, _, get0, rfl, rfl, ?_, ?_, ?_, ?_⟩) | (with_reducible refine ⟨1, _, _, _, _, get1, rfl, rfl, ?_, ?_, ?_, ?_⟩) | (with_reducible refine ⟨2, _, _, _, _, get2, rfl, rfl, ?_, ?_, ?_, ?_⟩) | (with_reducible refine ⟨3, _, _, _, _, get3, rfl, rfl, ?_, ?_, ?_, ?_⟩)); (kernel_rfl); (simp [Value.cells]); (rfl); (clear st; intro w st))
                  | ((with_reducible refine wl_convert ?_ (fun K hK => ?_)); rfl; refine owp_sb (o := ⟨some 38, _, _, _, _, _⟩) rfl st rfl Try.underlying9 Try.underlying30 Try.underlying5 ?_ ?_; (simp only [maxLen]; omega); (clear st; intro A38 c38 w hc38 st))); (try simp only [Value.cells, List.cons_append, List.nil_append, List.set, spl, putIt, pick, List.map_cons, List.map_nil, List.getElem?_cons_zero, List.getElem?_cons_succ, Option.getD_some, List.drop_succ_cons, List.drop_zero, List.drop_nil, List.append_nil, unB] at st); (try clear hc); have hc := st.facts; (try simp only [factsOf, blkI, blkFacts, rowI, byI, datI, nullI, oldI, penI, rdI, rdAnyI, rdOverI, Nat.zero_add, Nat.reduceAdd, and_true, true_and, and_self] at hc))
            (try simp only [Exit.inBlock, Exit.then])
            refine bodyPost_cell rfl rfl (st.blk (i := 1) get1) Try.underlying66 rfl (by kernel_rfl) rfl ?_
            unfold RefTickC
            rw [H1.out]
            rw [HTL.out] at hc38 st ⊢
            have st2 := (st.refMk (i := 0) (t := tp) (xs := vs) rfl).keep [0, 2] (by decide) (by simp)
            exact ⟨_, _, rfl, hc38, by simpa [pick] using st2⟩
          · have H1 : Hid (rdTick xs = .error 11) := Lib.hid (by simp [rdTick, HR1.out, HR2.out, HR3.out, HR4.out, bdm, HTL.out, h8])
            have h8b : ((tl : Int) != 8) = true := by
              have : (tl : Int) ≠ 8 := by omega
              simpa using this
            have H8 := Lib.hid h8
            clear h8
            go_wp2_with ((first
                  | ((with_reducible refine wl_alloc ?_ (fun K hK => ?_)); rfl; refine owp_alloc (o := ⟨some 2, _, _, _, _, _⟩) rfl st ?_; apply Exists.intro; apply Exists.intro; refine ⟨?_, ?_⟩; (focus (first | (go_simp; done) | (go_simp; rfl))); (clear st; intro b2 w hb st; clear hb))
                  | ((with_reducible refine wl_store ?_ (fun K hK => ?_)); rfl; refine owp_store rfl st ?_; apply Exists.intro; apply Exists.intro; refine ⟨?_, ?_, ?_⟩; (focus (go_simp; try rfl)); (focus (go_simp; try rfl)); (first | (with_reducible refine ⟨0, _, _, _, _, get0, rfl, rfl, ?_, ?_, ?_, ?_⟩) | (with_reducible refine ⟨1, _, _, _, _, get1, rfl, rfl, ?_, ?_, ?_, ?_⟩) | (with_reducible refine ⟨2, _, _, _, _, get2, rfl, rfl, ?_, ?_, ?_, ?_⟩) | (with_reducible refine ⟨3, _, _, _, _, get3, rfl, rfl, ?_, ?_, ?_, ?_⟩)); (kernel_rfl); (simp [Value.cells]); (rfl); (clear st; intro w st))
                  | ((with_reducible refine wl_convert ?_ (fun K hK => ?_)); rfl; refine owp_sb (o := ⟨some 38, _, _, _, _, _⟩) rfl st rfl Try.underlying9 Try.underlying30 Try.underlying5 ?_ ?_; (simp only [maxLen]; omega); (clear st; intro A38 c38 w hc38 st))); (try simp only [Value.cells, List.cons_append, List.nil_append, List.set, spl, putIt, pick, List.map_cons, List.map_nil, List.getElem?_cons_zero, List.getElem?_cons_succ, Option.getD_some, List.drop_succ_cons, List.drop_zero, List.drop_nil, List.append_nil, unB] at st); (try clear hc); have hc := st.facts; (try simp only [factsOf, blkI, blkFacts, rowI, byI, datI, nullI, oldI, penI, rdI, rdAnyI, rdOverI, Nat.zero_add, Nat.reduceAdd, and_true, true_and, and_self] at hc))
            (try simp only [Exit.inBlock, Exit.then])
            refine bodyPost_cell rfl rfl (st.blk (i := 1) get1) Try.underlying66 rfl (by kernel_rfl) rfl ?_
            unfold RefTickC
            rw [H1.out]
            have st2 := (st.refMkE (i := 0) (t := tp) (xs := vs) (er := 11) rfl (by decide)).keep [0] (by decide) (by simp)
            exact ⟨rfl, by simpa [pick] using st2⟩
end Go.Proofs.Ytdkemfimhdjdiaa
