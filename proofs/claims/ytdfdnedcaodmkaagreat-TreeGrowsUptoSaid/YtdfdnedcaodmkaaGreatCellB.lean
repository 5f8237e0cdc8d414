/- Follows, and the reference's. -/
import Derived.Test.YtdfdnedcaodmkaaGreatChkE
import Derived.Test.YtdfdnedcaodmkaaGreatRoleA
import Derived.Lib.IndexMore
import Derived.Lib.LastIndexLaws
namespace Go.Proofs.YtdfdnedcaodmkaaGreat
set_option linter.unusedSimpArgs false
set_option linter.unusedVariables false
open Go Go.RowKit
theorem credR_kind {x : CredT} (h : credR x = true) : x.k = 1 ∨ x.k = 2 ∨ x.k = 3 ∨ x.k = 4 := by
  unfold credR at h
  by_cases h1 : x.k = 1
  · exact .inl h1
  by_cases h2 : x.k = 2
  · exact .inr (.inl h2)
  by_cases h3 : x.k = 3
  · exact .inr (.inr (.inl h3))
  rw [if_neg h1, if_neg h2, if_neg h3] at h
  simp only [Bool.and_eq_true, decide_eq_true_eq] at h
  exact .inr (.inr (.inr h.2.2.1.1.1))
set_option maxRecDepth 100000 in
set_option maxHeartbeats 8000000 in
theorem chkFollows_any (x : StepT) (a : Option Addr) (n c : Nat) (l : List FactT) (W : World) (h : Fl W a n l) (hn : n ≤ 2000000) (hl : CLenS x.c) :
    Calls Tryz.prog 17 #[stV x, .slice a n c] W fun e w' => e = .returned (.bool (folB l x)) ∧ Ext W w' := by
  have H := Lib.hid h
  have HCR := Lib.hid (fun W => credRight_any x.c W hl)
  clear h hl
  have HIB := Lib.hid (fun W h => hadIn_any a n c l x.c.b x.f.w W h hn)
  have HIC := Lib.hid (fun W h => hadIn_any a n c l x.c.c x.f.w W h hn)
  have HLK := Lib.hid (fun W h => hadLinked_any a n c l x.c.b x.c.e x.f.w W h hn)
  obtain ⟨r, hr⟩ : ∃ r, folB l x = r := ⟨_, rfl⟩
  rw [hr]
  have HR : Hid (r = (credR x.c && roleEq x.f.r x.c.h && stepB l (l.map FactT.w) x.c x.f.w)) := Lib.hid (by rw [← hr]; rfl)
  have HK := Lib.hid (fun h => credR_kind (x := x.c) h)
  have HS : Hid (stepB l (l.map FactT.w) x.c x.f.w = if x.c.k = 1 then x.c.w == x.f.w else if x.c.k = 2 then decide ((⟨x.c.b, x.f.w⟩ : FactT) ∈ l) else if x.c.k = 4 then decide ((⟨x.c.b, x.f.w⟩ : FactT) ∈ l) && decide ((⟨x.c.c, x.f.w⟩ : FactT) ∈ l) else linkB l x.c.b x.c.e x.f.w) := Lib.hid (by rw [link_names]; rfl)
  clear hr
  obtain ⟨cr, hcr⟩ : ∃ b, credR x.c = b := ⟨_, rfl⟩
  rw [hcr] at HR HCR HK
  obtain ⟨sb, hsb⟩ : ∃ b, stepB l (l.map FactT.w) x.c x.f.w = b := ⟨_, rfl⟩
  rw [hsb] at HR HS
  clear hcr hsb
  obtain ⟨⟨k, ⟨ho, hd⟩, nw, ⟨bo, bd⟩, ⟨co, cd⟩, we⟩, ⟨⟨ro, rd⟩, fw⟩⟩ := x
  simp only at HR HCR HIB HIC HLK HK HS
  unfold rV at HIB HIC HLK
  unfold cV at HCR
  have st := Own.startOld W
  unfold stV
  unfold S at *
  (try simp only [nsl, Value.cells, unB] at st)
  (try clear hc); have hc := st.facts; (try simp only [nfl, nft, Nat.reduceAdd] at hc)
  cases cr with
  | false =>
    have HF : Hid (r = false) := Lib.hid (by rw [HR.out]; rfl)
    go_enter Tryz.func17, Tryz.ntmps17
    go_wp2_with ((first
          | ((with_reducible refine wl_box ?_ (fun K hK => ?_)); rfl; refine owp_box (o := ⟨some 2, _, _, _, _, _⟩) rfl st ?_; apply Exists.intro; refine ⟨?_, ?_⟩; (focus (go_simp; try rfl)); (clear st; intro b2 w hb st; clear hb))
          | ((with_reducible refine wl_alloc ?_ (fun K hK => ?_)); rfl; refine owp_alloc (o := ⟨some 6, _, _, _, _, _⟩) rfl st ?_; apply Exists.intro; apply Exists.intro; refine ⟨?_, ?_⟩; (focus (first | (go_simp; done) | (go_simp; rfl))); (clear st; intro b6 w hb st; clear hb))
          | ((with_reducible refine wl_store ?_ (fun K hK => ?_)); rfl; refine owp_store rfl st ?_; apply Exists.intro; apply Exists.intro; refine ⟨?_, ?_, ?_⟩; (focus (go_simp; try rfl)); (focus (go_simp; try rfl)); (first | (with_reducible refine ⟨0, _, _, _, _, get0, rfl, rfl, ?_, ?_, ?_, ?_⟩) | (with_reducible refine ⟨1, _, _, _, _, get1, rfl, rfl, ?_, ?_, ?_, ?_⟩) | (with_reducible refine ⟨2, _, _, _, _, get2, rfl, rfl, ?_, ?_, ?_, ?_⟩) | (with_reducible refine ⟨3, _, _, _, _, get3, rfl, rfl, ?_, ?_, ?_, ?_⟩) | (with_reducible refine ⟨4, _, _, _, _, get4, rfl, rfl, ?_, ?_, ?_, ?_⟩) | (with_reducible refine ⟨5, _, _, _, _, get5, rfl, rfl, ?_, ?_, ?_, ?_⟩)); (kernel_rfl); (simp [Value.cells]); (rfl); (clear st; intro w st))); (try simp only [nsl, Value.cells, unB] at st); (try clear hc); have hc := st.facts; (try simp only [nfl, nft, Nat.reduceAdd] at hc))
    refine Rg4.wp_region4_eq #[0, 0, 2, 0, 9, 31] [3, 5] [] (fun W' => Blk W' b2 [.int .i64 k, .string ⟨ho.toArray⟩, .string ⟨hd.toArray⟩, .string ⟨nw.toArray⟩, .string ⟨bo.toArray⟩, .string ⟨bd.toArray⟩, .string ⟨co.toArray⟩, .string ⟨cd.toArray⟩, .string ⟨we.toArray⟩, .string ⟨ro.toArray⟩, .string ⟨rd.toArray⟩, .string ⟨fw.toArray⟩]) [0, 1, 2, 3, 4, 5] (by kernel_rfl) (by kernel_rfl) (by kernel_rfl) (by kernel_rfl) (show Rg4.PB _ by repeat (first | with_reducible exact Rg4.pb_body | with_reducible exact Rg4.pb_bodyD rfl | with_reducible refine Rg4.pb_then ?_ | with_reducible refine Rg4.pb_inBlock ?_ | with_reducible refine Rg4.pb_noGoto ?_ | with_reducible assumption)) (st.drew.blk (i := 1) get1) ?_
    replace st := st.drew
    change Rg4.wp4 _ _ _ _ _ _ _ _ _ (World.drew _) _ _
    generalize World.drew _ = w at st ⊢
    (try clear hc); have hc := st.facts; (try simp only [nfl, nft, Nat.reduceAdd] at hc)
    iterate 2 (refine Rg4.w4_any (Rg4.want_none rfl) rfl ?_; apply Exists.intro; refine ⟨fun w' => ?_, ?_⟩; (focus (first | (go_simp; done) | (go_simp; first | rfl | (rw [if_neg] <;> first | rfl | omega) | (rw [if_pos] <;> first | rfl | omega)))); (try simp only [Rg4.nrm]))
    (refine Rg4.w4_cl (Rg4.want_none rfl) rfl ?_; apply Exists.intro; refine ⟨fun w' hcl => ?_, ?_⟩; (focus (have q0 := Blk.cell hcl 0; have q1 := Blk.cell hcl 1; have q2 := Blk.cell hcl 2; have q3 := Blk.cell hcl 3; have q4 := Blk.cell hcl 4; have q5 := Blk.cell hcl 5; have q6 := Blk.cell hcl 6; have q7 := Blk.cell hcl 7; have q8 := Blk.cell hcl 8; (try simp at q0 q1 q2 q3 q4 q5 q6 q7 q8); (focus (first | (go_simp; done) | (go_simp; first | rfl | (rw [if_neg] <;> first | rfl | omega) | (rw [if_pos] <;> first | rfl | omega)))))); (try simp only [Rg4.nrm]))
    (refine Rg4.w4_bar (Rg4.want_none rfl) rfl (fun w' hw' hcl' _ K hK => ?_); subst hw'; (refine owp_alloc (o := ⟨some 6, _, _, _, _, _⟩) rfl st ?_; apply Exists.intro; apply Exists.intro; refine ⟨?_, ?_⟩; (focus (first | (go_simp; done) | (go_simp; rfl))); (clear st; intro b6 w hb st; clear hb); (try simp only [nsl, Value.cells, unB] at st); (try clear hc); have hc := st.facts; (try simp only [nfl, nft, Nat.reduceAdd] at hc)); refine hK _ _ ⟨st.blk (i := 1) get1, ?_⟩; (try simp only [Rg4.nrm]))
    (refine Rg4.w4_any (Rg4.want_none rfl) rfl ?_; apply Exists.intro; refine ⟨fun w' => ?_, ?_⟩; (focus (first | (go_simp; done) | (go_simp; first | rfl | (rw [if_neg] <;> first | rfl | omega) | (rw [if_pos] <;> first | rfl | omega)))); (try simp only [Rg4.nrm]))
    (refine Rg4.w4_bar (Rg4.want_none rfl) rfl (fun w' hw' hcl' _ K hK => ?_); subst hw'; (refine owp_store rfl st ?_; apply Exists.intro; apply Exists.intro; refine ⟨?_, ?_, ?_⟩; (focus (go_simp; try rfl)); (focus (go_simp; try rfl)); (first | (with_reducible refine ⟨0, _, _, _, _, get0, rfl, rfl, ?_, ?_, ?_, ?_⟩) | (with_reducible refine ⟨1, _, _, _, _, get1, rfl, rfl, ?_, ?_, ?_, ?_⟩) | (with_reducible refine ⟨2, _, _, _, _, get2, rfl, rfl, ?_, ?_, ?_, ?_⟩) | (with_reducible refine ⟨3, _, _, _, _, get3, rfl, rfl, ?_, ?_, ?_, ?_⟩) | (with_reducible refine ⟨4, _, _, _, _, get4, rfl, rfl, ?_, ?_, ?_, ?_⟩) | (with_reducible refine ⟨5, _, _, _, _, get5, rfl, rfl, ?_, ?_, ?_, ?_⟩)); (kernel_rfl); (simp [Value.cells]); (rfl); (clear st; intro w st); (try simp only [nsl, Value.cells, unB] at st); (try clear hc); have hc := st.facts; (try simp only [nfl, nft, Nat.reduceAdd] at hc)); refine hK _ _ ⟨st.blk (i := 1) get1, ?_⟩; (try simp only [Rg4.nrm]))
    refine Rg4.w4_nil (fun w' hw' hcl' _ => ?_); subst hw'; clear hcl'
    go_wp2_with ((first
          | ((with_reducible refine wl_box ?_ (fun K hK => ?_)); rfl; refine owp_box (o := ⟨some 2, _, _, _, _, _⟩) rfl st ?_; apply Exists.intro; refine ⟨?_, ?_⟩; (focus (go_simp; try rfl)); (clear st; intro b2 w hb st; clear hb))
          | ((with_reducible refine wl_alloc ?_ (fun K hK => ?_)); rfl; refine owp_alloc (o := ⟨some 6, _, _, _, _, _⟩) rfl st ?_; apply Exists.intro; apply Exists.intro; refine ⟨?_, ?_⟩; (focus (first | (go_simp; done) | (go_simp; rfl))); (clear st; intro b6 w hb st; clear hb))
          | ((with_reducible refine wl_store ?_ (fun K hK => ?_)); rfl; refine owp_store rfl st ?_; apply Exists.intro; apply Exists.intro; refine ⟨?_, ?_, ?_⟩; (focus (go_simp; try rfl)); (focus (go_simp; try rfl)); (first | (with_reducible refine ⟨0, _, _, _, _, get0, rfl, rfl, ?_, ?_, ?_, ?_⟩) | (with_reducible refine ⟨1, _, _, _, _, get1, rfl, rfl, ?_, ?_, ?_, ?_⟩) | (with_reducible refine ⟨2, _, _, _, _, get2, rfl, rfl, ?_, ?_, ?_, ?_⟩) | (with_reducible refine ⟨3, _, _, _, _, get3, rfl, rfl, ?_, ?_, ?_, ?_⟩) | (with_reducible refine ⟨4, _, _, _, _, get4, rfl, rfl, ?_, ?_, ?_, ?_⟩) | (with_reducible refine ⟨5, _, _, _, _, get5, rfl, rfl, ?_, ?_, ?_, ?_⟩)); (kernel_rfl); (simp [Value.cells]); (rfl); (clear st; intro w st))); (try simp only [nsl, Value.cells, unB] at st); (try clear hc); have hc := st.facts; (try simp only [nfl, nft, Nat.reduceAdd] at hc))
    refine (HCR.out _).mono ?_
    rintro en w ⟨rfl, hx⟩
    replace st := st.ext hx
    clear hx
    (try clear hc); have hc := st.facts; (try simp only [nfl, nft, Nat.reduceAdd] at hc)
    go_wp2_with ((first
          | ((with_reducible refine wl_box ?_ (fun K hK => ?_)); rfl; refine owp_box (o := ⟨some 2, _, _, _, _, _⟩) rfl st ?_; apply Exists.intro; refine ⟨?_, ?_⟩; (focus (go_simp; try rfl)); (clear st; intro b2 w hb st; clear hb))
          | ((with_reducible refine wl_alloc ?_ (fun K hK => ?_)); rfl; refine owp_alloc (o := ⟨some 6, _, _, _, _, _⟩) rfl st ?_; apply Exists.intro; apply Exists.intro; refine ⟨?_, ?_⟩; (focus (first | (go_simp; done) | (go_simp; rfl))); (clear st; intro b6 w hb st; clear hb))
          | ((with_reducible refine wl_store ?_ (fun K hK => ?_)); rfl; refine owp_store rfl st ?_; apply Exists.intro; apply Exists.intro; refine ⟨?_, ?_, ?_⟩; (focus (go_simp; try rfl)); (focus (go_simp; try rfl)); (first | (with_reducible refine ⟨0, _, _, _, _, get0, rfl, rfl, ?_, ?_, ?_, ?_⟩) | (with_reducible refine ⟨1, _, _, _, _, get1, rfl, rfl, ?_, ?_, ?_, ?_⟩) | (with_reducible refine ⟨2, _, _, _, _, get2, rfl, rfl, ?_, ?_, ?_, ?_⟩) | (with_reducible refine ⟨3, _, _, _, _, get3, rfl, rfl, ?_, ?_, ?_, ?_⟩) | (with_reducible refine ⟨4, _, _, _, _, get4, rfl, rfl, ?_, ?_, ?_, ?_⟩) | (with_reducible refine ⟨5, _, _, _, _, get5, rfl, rfl, ?_, ?_, ?_, ?_⟩)); (kernel_rfl); (simp [Value.cells]); (rfl); (clear st; intro w st))); (try simp only [nsl, Value.cells, unB] at st); (try clear hc); have hc := st.facts; (try simp only [nfl, nft, Nat.reduceAdd] at hc))
    go_ret
    exact ⟨by rw [HF.out]; rfl, st.ext0⟩
  | true =>
    cases hre : roleEq (ro, rd) (ho, hd) with
    | false =>
      have HF : Hid (r = false) := Lib.hid (by rw [HR.out, hre]; rfl)
      go_enter Tryz.func17, Tryz.ntmps17
      go_wp2_with ((first
            | ((with_reducible refine wl_box ?_ (fun K hK => ?_)); rfl; refine owp_box (o := ⟨some 2, _, _, _, _, _⟩) rfl st ?_; apply Exists.intro; refine ⟨?_, ?_⟩; (focus (go_simp; try rfl)); (clear st; intro b2 w hb st; clear hb))
            | ((with_reducible refine wl_alloc ?_ (fun K hK => ?_)); rfl; refine owp_alloc (o := ⟨some 6, _, _, _, _, _⟩) rfl st ?_; apply Exists.intro; apply Exists.intro; refine ⟨?_, ?_⟩; (focus (first | (go_simp; done) | (go_simp; rfl))); (clear st; intro b6 w hb st; clear hb))
            | ((with_reducible refine wl_store ?_ (fun K hK => ?_)); rfl; refine owp_store rfl st ?_; apply Exists.intro; apply Exists.intro; refine ⟨?_, ?_, ?_⟩; (focus (go_simp; try rfl)); (focus (go_simp; try rfl)); (first | (with_reducible refine ⟨0, _, _, _, _, get0, rfl, rfl, ?_, ?_, ?_, ?_⟩) | (with_reducible refine ⟨1, _, _, _, _, get1, rfl, rfl, ?_, ?_, ?_, ?_⟩) | (with_reducible refine ⟨2, _, _, _, _, get2, rfl, rfl, ?_, ?_, ?_, ?_⟩) | (with_reducible refine ⟨3, _, _, _, _, get3, rfl, rfl, ?_, ?_, ?_, ?_⟩) | (with_reducible refine ⟨4, _, _, _, _, get4, rfl, rfl, ?_, ?_, ?_, ?_⟩) | (with_reducible refine ⟨5, _, _, _, _, get5, rfl, rfl, ?_, ?_, ?_, ?_⟩)); (kernel_rfl); (simp [Value.cells]); (rfl); (clear st; intro w st))); (try simp only [nsl, Value.cells, unB] at st); (try clear hc); have hc := st.facts; (try simp only [nfl, nft, Nat.reduceAdd] at hc))
      refine Rg4.wp_region4_eq #[0, 0, 2, 0, 9, 31] [3, 5] [] (fun W' => Blk W' b2 [.int .i64 k, .string ⟨ho.toArray⟩, .string ⟨hd.toArray⟩, .string ⟨nw.toArray⟩, .string ⟨bo.toArray⟩, .string ⟨bd.toArray⟩, .string ⟨co.toArray⟩, .string ⟨cd.toArray⟩, .string ⟨we.toArray⟩, .string ⟨ro.toArray⟩, .string ⟨rd.toArray⟩, .string ⟨fw.toArray⟩]) [0, 1, 2, 3, 4, 5] (by kernel_rfl) (by kernel_rfl) (by kernel_rfl) (by kernel_rfl) (show Rg4.PB _ by repeat (first | with_reducible exact Rg4.pb_body | with_reducible exact Rg4.pb_bodyD rfl | with_reducible refine Rg4.pb_then ?_ | with_reducible refine Rg4.pb_inBlock ?_ | with_reducible refine Rg4.pb_noGoto ?_ | with_reducible assumption)) (st.drew.blk (i := 1) get1) ?_
      replace st := st.drew
      change Rg4.wp4 _ _ _ _ _ _ _ _ _ (World.drew _) _ _
      generalize World.drew _ = w at st ⊢
      (try clear hc); have hc := st.facts; (try simp only [nfl, nft, Nat.reduceAdd] at hc)
      iterate 2 (refine Rg4.w4_any (Rg4.want_none rfl) rfl ?_; apply Exists.intro; refine ⟨fun w' => ?_, ?_⟩; (focus (first | (go_simp; done) | (go_simp; first | rfl | (rw [if_neg] <;> first | rfl | omega) | (rw [if_pos] <;> first | rfl | omega)))); (try simp only [Rg4.nrm]))
      (refine Rg4.w4_cl (Rg4.want_none rfl) rfl ?_; apply Exists.intro; refine ⟨fun w' hcl => ?_, ?_⟩; (focus (have q0 := Blk.cell hcl 0; have q1 := Blk.cell hcl 1; have q2 := Blk.cell hcl 2; have q3 := Blk.cell hcl 3; have q4 := Blk.cell hcl 4; have q5 := Blk.cell hcl 5; have q6 := Blk.cell hcl 6; have q7 := Blk.cell hcl 7; have q8 := Blk.cell hcl 8; (try simp at q0 q1 q2 q3 q4 q5 q6 q7 q8); (focus (first | (go_simp; done) | (go_simp; first | rfl | (rw [if_neg] <;> first | rfl | omega) | (rw [if_pos] <;> first | rfl | omega)))))); (try simp only [Rg4.nrm]))
      (refine Rg4.w4_bar (Rg4.want_none rfl) rfl (fun w' hw' hcl' _ K hK => ?_); subst hw'; (refine owp_alloc (o := ⟨some 6, _, _, _, _, _⟩) rfl st ?_; apply Exists.intro; apply Exists.intro; refine ⟨?_, ?_⟩; (focus (first | (go_simp; done) | (go_simp; rfl))); (clear st; intro b6 w hb st; clear hb); (try simp only [nsl, Value.cells, unB] at st); (try clear hc); have hc := st.facts; (try simp only [nfl, nft, Nat.reduceAdd] at hc)); refine hK _ _ ⟨st.blk (i := 1) get1, ?_⟩; (try simp only [Rg4.nrm]))
      (refine Rg4.w4_any (Rg4.want_none rfl) rfl ?_; apply Exists.intro; refine ⟨fun w' => ?_, ?_⟩; (focus (first | (go_simp; done) | (go_simp; first | rfl | (rw [if_neg] <;> first | rfl | omega) | (rw [if_pos] <;> first | rfl | omega)))); (try simp only [Rg4.nrm]))
      (refine Rg4.w4_bar (Rg4.want_none rfl) rfl (fun w' hw' hcl' _ K hK => ?_); subst hw'; (refine owp_store rfl st ?_; apply Exists.intro; apply Exists.intro; refine ⟨?_, ?_, ?_⟩; (focus (go_simp; try rfl)); (focus (go_simp; try rfl)); (first | (with_reducible refine ⟨0, _, _, _, _, get0, rfl, rfl, ?_, ?_, ?_, ?_⟩) | (with_reducible refine ⟨1, _, _, _, _, get1, rfl, rfl, ?_, ?_, ?_, ?_⟩) | (with_reducible refine ⟨2, _, _, _, _, get2, rfl, rfl, ?_, ?_, ?_, ?_⟩) | (with_reducible refine ⟨3, _, _, _, _, get3, rfl, rfl, ?_, ?_, ?_, ?_⟩) | (with_reducible refine ⟨4, _, _, _, _, get4, rfl, rfl, ?_, ?_, ?_, ?_⟩) | (with_reducible refine ⟨5, _, _, _, _, get5, rfl, rfl, ?_, ?_, ?_, ?_⟩)); (kernel_rfl); (simp [Value.cells]); (rfl); (clear st; intro w st); (try simp only [nsl, Value.cells, unB] at st); (try clear hc); have hc := st.facts; (try simp only [nfl, nft, Nat.reduceAdd] at hc)); refine hK _ _ ⟨st.blk (i := 1) get1, ?_⟩; (try simp only [Rg4.nrm]))
      refine Rg4.w4_nil (fun w' hw' hcl' _ => ?_); subst hw'; clear hcl'
      go_wp2_with ((first
            | ((with_reducible refine wl_box ?_ (fun K hK => ?_)); rfl; refine owp_box (o := ⟨some 2, _, _, _, _, _⟩) rfl st ?_; apply Exists.intro; refine ⟨?_, ?_⟩; (focus (go_simp; try rfl)); (clear st; intro b2 w hb st; clear hb))
            | ((with_reducible refine wl_alloc ?_ (fun K hK => ?_)); rfl; refine owp_alloc (o := ⟨some 6, _, _, _, _, _⟩) rfl st ?_; apply Exists.intro; apply Exists.intro; refine ⟨?_, ?_⟩; (focus (first | (go_simp; done) | (go_simp; rfl))); (clear st; intro b6 w hb st; clear hb))
            | ((with_reducible refine wl_store ?_ (fun K hK => ?_)); rfl; refine owp_store rfl st ?_; apply Exists.intro; apply Exists.intro; refine ⟨?_, ?_, ?_⟩; (focus (go_simp; try rfl)); (focus (go_simp; try rfl)); (first | (with_reducible refine ⟨0, _, _, _, _, get0, rfl, rfl, ?_, ?_, ?_, ?_⟩) | (with_reducible refine ⟨1, _, _, _, _, get1, rfl, rfl, ?_, ?_, ?_, ?_⟩) | (with_reducible refine ⟨2, _, _, _, _, get2, rfl, rfl, ?_, ?_, ?_, ?_⟩) | (with_reducible refine ⟨3, _, _, _, _, get3, rfl, rfl, ?_, ?_, ?_, ?_⟩) | (with_reducible refine ⟨4, _, _, _, _, get4, rfl, rfl, ?_, ?_, ?_, ?_⟩) | (with_reducible refine ⟨5, _, _, _, _, get5, rfl, rfl, ?_, ?_, ?_, ?_⟩)); (kernel_rfl); (simp [Value.cells]); (rfl); (clear st; intro w st))); (try simp only [nsl, Value.cells, unB] at st); (try clear hc); have hc := st.facts; (try simp only [nfl, nft, Nat.reduceAdd] at hc))
      refine (HCR.out _).mono ?_
      rintro en w ⟨rfl, hx⟩
      replace st := st.ext hx
      clear hx
      (try clear hc); have hc := st.facts; (try simp only [nfl, nft, Nat.reduceAdd] at hc)
      go_wp2_with ((first
            | ((with_reducible refine wl_box ?_ (fun K hK => ?_)); rfl; refine owp_box (o := ⟨some 2, _, _, _, _, _⟩) rfl st ?_; apply Exists.intro; refine ⟨?_, ?_⟩; (focus (go_simp; try rfl)); (clear st; intro b2 w hb st; clear hb))
            | ((with_reducible refine wl_alloc ?_ (fun K hK => ?_)); rfl; refine owp_alloc (o := ⟨some 6, _, _, _, _, _⟩) rfl st ?_; apply Exists.intro; apply Exists.intro; refine ⟨?_, ?_⟩; (focus (first | (go_simp; done) | (go_simp; rfl))); (clear st; intro b6 w hb st; clear hb))
            | ((with_reducible refine wl_store ?_ (fun K hK => ?_)); rfl; refine owp_store rfl st ?_; apply Exists.intro; apply Exists.intro; refine ⟨?_, ?_, ?_⟩; (focus (go_simp; try rfl)); (focus (go_simp; try rfl)); (first | (with_reducible refine ⟨0, _, _, _, _, get0, rfl, rfl, ?_, ?_, ?_, ?_⟩) | (with_reducible refine ⟨1, _, _, _, _, get1, rfl, rfl, ?_, ?_, ?_, ?_⟩) | (with_reducible refine ⟨2, _, _, _, _, get2, rfl, rfl, ?_, ?_, ?_, ?_⟩) | (with_reducible refine ⟨3, _, _, _, _, get3, rfl, rfl, ?_, ?_, ?_, ?_⟩) | (with_reducible refine ⟨4, _, _, _, _, get4, rfl, rfl, ?_, ?_, ?_, ?_⟩) | (with_reducible refine ⟨5, _, _, _, _, get5, rfl, rfl, ?_, ?_, ?_, ?_⟩)); (kernel_rfl); (simp [Value.cells]); (rfl); (clear st; intro w st))); (try simp only [nsl, Value.cells, unB] at st); (try clear hc); have hc := st.facts; (try simp only [nfl, nft, Nat.reduceAdd] at hc))
      go_ret
      exact ⟨by rw [HF.out]; rfl, st.ext0⟩
    | true =>
      have HF : Hid (r = sb) := Lib.hid (by rw [HR.out, hre]; rfl)
      rcases HK.out rfl with rfl | rfl | rfl | rfl
      · have HF2 : Hid (r = (nw == fw)) := Lib.hid (by rw [HF.out, HS.out, if_pos rfl])
        go_enter Tryz.func17, Tryz.ntmps17
        go_wp2_with ((first
              | ((with_reducible refine wl_box ?_ (fun K hK => ?_)); rfl; refine owp_box (o := ⟨some 2, _, _, _, _, _⟩) rfl st ?_; apply Exists.intro; refine ⟨?_, ?_⟩; (focus (go_simp; try rfl)); (clear st; intro b2 w hb st; clear hb))
              | ((with_reducible refine wl_alloc ?_ (fun K hK => ?_)); rfl; refine owp_alloc (o := ⟨some 6, _, _, _, _, _⟩) rfl st ?_; apply Exists.intro; apply Exists.intro; refine ⟨?_, ?_⟩; (focus (first | (go_simp; done) | (go_simp; rfl))); (clear st; intro b6 w hb st; clear hb))
              | ((with_reducible refine wl_store ?_ (fun K hK => ?_)); rfl; refine owp_store rfl st ?_; apply Exists.intro; apply Exists.intro; refine ⟨?_, ?_, ?_⟩; (focus (go_simp; try rfl)); (focus (go_simp; try rfl)); (first | (with_reducible refine ⟨0, _, _, _, _, get0, rfl, rfl, ?_, ?_, ?_, ?_⟩) | (with_reducible refine ⟨1, _, _, _, _, get1, rfl, rfl, ?_, ?_, ?_, ?_⟩) | (with_reducible refine ⟨2, _, _, _, _, get2, rfl, rfl, ?_, ?_, ?_, ?_⟩) | (with_reducible refine ⟨3, _, _, _, _, get3, rfl, rfl, ?_, ?_, ?_, ?_⟩) | (with_reducible refine ⟨4, _, _, _, _, get4, rfl, rfl, ?_, ?_, ?_, ?_⟩) | (with_reducible refine ⟨5, _, _, _, _, get5, rfl, rfl, ?_, ?_, ?_, ?_⟩)); (kernel_rfl); (simp [Value.cells]); (rfl); (clear st; intro w st))); (try simp only [nsl, Value.cells, unB] at st); (try clear hc); have hc := st.facts; (try simp only [nfl, nft, Nat.reduceAdd] at hc))
        refine Rg4.wp_region4_eq #[0, 0, 2, 0, 9, 31] [3, 5] [] (fun W' => Blk W' b2 [.int .i64 1, .string ⟨ho.toArray⟩, .string ⟨hd.toArray⟩, .string ⟨nw.toArray⟩, .string ⟨bo.toArray⟩, .string ⟨bd.toArray⟩, .string ⟨co.toArray⟩, .string ⟨cd.toArray⟩, .string ⟨we.toArray⟩, .string ⟨ro.toArray⟩, .string ⟨rd.toArray⟩, .string ⟨fw.toArray⟩]) [0, 1, 2, 3, 4, 5] (by kernel_rfl) (by kernel_rfl) (by kernel_rfl) (by kernel_rfl) (show Rg4.PB _ by repeat (first | with_reducible exact Rg4.pb_body | with_reducible exact Rg4.pb_bodyD rfl | with_reducible refine Rg4.pb_then ?_ | with_reducible refine Rg4.pb_inBlock ?_ | with_reducible refine Rg4.pb_noGoto ?_ | with_reducible assumption)) (st.drew.blk (i := 1) get1) ?_
        replace st := st.drew
        change Rg4.wp4 _ _ _ _ _ _ _ _ _ (World.drew _) _ _
        generalize World.drew _ = w at st ⊢
        (try clear hc); have hc := st.facts; (try simp only [nfl, nft, Nat.reduceAdd] at hc)
        iterate 2 (refine Rg4.w4_any (Rg4.want_none rfl) rfl ?_; apply Exists.intro; refine ⟨fun w' => ?_, ?_⟩; (focus (first | (go_simp; done) | (go_simp; first | rfl | (rw [if_neg] <;> first | rfl | omega) | (rw [if_pos] <;> first | rfl | omega)))); (try simp only [Rg4.nrm]))
        (refine Rg4.w4_cl (Rg4.want_none rfl) rfl ?_; apply Exists.intro; refine ⟨fun w' hcl => ?_, ?_⟩; (focus (have q0 := Blk.cell hcl 0; have q1 := Blk.cell hcl 1; have q2 := Blk.cell hcl 2; have q3 := Blk.cell hcl 3; have q4 := Blk.cell hcl 4; have q5 := Blk.cell hcl 5; have q6 := Blk.cell hcl 6; have q7 := Blk.cell hcl 7; have q8 := Blk.cell hcl 8; (try simp at q0 q1 q2 q3 q4 q5 q6 q7 q8); (focus (first | (go_simp; done) | (go_simp; first | rfl | (rw [if_neg] <;> first | rfl | omega) | (rw [if_pos] <;> first | rfl | omega)))))); (try simp only [Rg4.nrm]))
        (refine Rg4.w4_bar (Rg4.want_none rfl) rfl (fun w' hw' hcl' _ K hK => ?_); subst hw'; (refine owp_alloc (o := ⟨some 6, _, _, _, _, _⟩) rfl st ?_; apply Exists.intro; apply Exists.intro; refine ⟨?_, ?_⟩; (focus (first | (go_simp; done) | (go_simp; rfl))); (clear st; intro b6 w hb st; clear hb); (try simp only [nsl, Value.cells, unB] at st); (try clear hc); have hc := st.facts; (try simp only [nfl, nft, Nat.reduceAdd] at hc)); refine hK _ _ ⟨st.blk (i := 1) get1, ?_⟩; (try simp only [Rg4.nrm]))
        (refine Rg4.w4_any (Rg4.want_none rfl) rfl ?_; apply Exists.intro; refine ⟨fun w' => ?_, ?_⟩; (focus (first | (go_simp; done) | (go_simp; first | rfl | (rw [if_neg] <;> first | rfl | omega) | (rw [if_pos] <;> first | rfl | omega)))); (try simp only [Rg4.nrm]))
        (refine Rg4.w4_bar (Rg4.want_none rfl) rfl (fun w' hw' hcl' _ K hK => ?_); subst hw'; (refine owp_store rfl st ?_; apply Exists.intro; apply Exists.intro; refine ⟨?_, ?_, ?_⟩; (focus (go_simp; try rfl)); (focus (go_simp; try rfl)); (first | (with_reducible refine ⟨0, _, _, _, _, get0, rfl, rfl, ?_, ?_, ?_, ?_⟩) | (with_reducible refine ⟨1, _, _, _, _, get1, rfl, rfl, ?_, ?_, ?_, ?_⟩) | (with_reducible refine ⟨2, _, _, _, _, get2, rfl, rfl, ?_, ?_, ?_, ?_⟩) | (with_reducible refine ⟨3, _, _, _, _, get3, rfl, rfl, ?_, ?_, ?_, ?_⟩) | (with_reducible refine ⟨4, _, _, _, _, get4, rfl, rfl, ?_, ?_, ?_, ?_⟩) | (with_reducible refine ⟨5, _, _, _, _, get5, rfl, rfl, ?_, ?_, ?_, ?_⟩)); (kernel_rfl); (simp [Value.cells]); (rfl); (clear st; intro w st); (try simp only [nsl, Value.cells, unB] at st); (try clear hc); have hc := st.facts; (try simp only [nfl, nft, Nat.reduceAdd] at hc)); refine hK _ _ ⟨st.blk (i := 1) get1, ?_⟩; (try simp only [Rg4.nrm]))
        refine Rg4.w4_nil (fun w' hw' hcl' _ => ?_); subst hw'; clear hcl'
        go_wp2_with ((first
              | ((with_reducible refine wl_box ?_ (fun K hK => ?_)); rfl; refine owp_box (o := ⟨some 2, _, _, _, _, _⟩) rfl st ?_; apply Exists.intro; refine ⟨?_, ?_⟩; (focus (go_simp; try rfl)); (clear st; intro b2 w hb st; clear hb))
              | ((with_reducible refine wl_alloc ?_ (fun K hK => ?_)); rfl; refine owp_alloc (o := ⟨some 6, _, _, _, _, _⟩) rfl st ?_; apply Exists.intro; apply Exists.intro; refine ⟨?_, ?_⟩; (focus (first | (go_simp; done) | (go_simp; rfl))); (clear st; intro b6 w hb st; clear hb))
              | ((with_reducible refine wl_store ?_ (fun K hK => ?_)); rfl; refine owp_store rfl st ?_; apply Exists.intro; apply Exists.intro; refine ⟨?_, ?_, ?_⟩; (focus (go_simp; try rfl)); (focus (go_simp; try rfl)); (first | (with_reducible refine ⟨0, _, _, _, _, get0, rfl, rfl, ?_, ?_, ?_, ?_⟩) | (with_reducible refine ⟨1, _, _, _, _, get1, rfl, rfl, ?_, ?_, ?_, ?_⟩) | (with_reducible refine ⟨2, _, _, _, _, get2, rfl, rfl, ?_, ?_, ?_, ?_⟩) | (with_reducible refine ⟨3, _, _, _, _, get3, rfl, rfl, ?_, ?_, ?_, ?_⟩) | (with_reducible refine ⟨4, _, _, _, _, get4, rfl, rfl, ?_, ?_, ?_, ?_⟩) | (with_reducible refine ⟨5, _, _, _, _, get5, rfl, rfl, ?_, ?_, ?_, ?_⟩)); (kernel_rfl); (simp [Value.cells]); (rfl); (clear st; intro w st))); (try simp only [nsl, Value.cells, unB] at st); (try clear hc); have hc := st.facts; (try simp only [nfl, nft, Nat.reduceAdd] at hc))
        refine (HCR.out _).mono ?_
        rintro en w ⟨rfl, hx⟩
        replace st := st.ext hx
        clear hx
        (try clear hc); have hc := st.facts; (try simp only [nfl, nft, Nat.reduceAdd] at hc)
        go_wp2_with ((first
              | ((with_reducible refine wl_box ?_ (fun K hK => ?_)); rfl; refine owp_box (o := ⟨some 2, _, _, _, _, _⟩) rfl st ?_; apply Exists.intro; refine ⟨?_, ?_⟩; (focus (go_simp; try rfl)); (clear st; intro b2 w hb st; clear hb))
              | ((with_reducible refine wl_alloc ?_ (fun K hK => ?_)); rfl; refine owp_alloc (o := ⟨some 6, _, _, _, _, _⟩) rfl st ?_; apply Exists.intro; apply Exists.intro; refine ⟨?_, ?_⟩; (focus (first | (go_simp; done) | (go_simp; rfl))); (clear st; intro b6 w hb st; clear hb))
              | ((with_reducible refine wl_store ?_ (fun K hK => ?_)); rfl; refine owp_store rfl st ?_; apply Exists.intro; apply Exists.intro; refine ⟨?_, ?_, ?_⟩; (focus (go_simp; try rfl)); (focus (go_simp; try rfl)); (first | (with_reducible refine ⟨0, _, _, _, _, get0, rfl, rfl, ?_, ?_, ?_, ?_⟩) | (with_reducible refine ⟨1, _, _, _, _, get1, rfl, rfl, ?_, ?_, ?_, ?_⟩) | (with_reducible refine ⟨2, _, _, _, _, get2, rfl, rfl, ?_, ?_, ?_, ?_⟩) | (with_reducible refine ⟨3, _, _, _, _, get3, rfl, rfl, ?_, ?_, ?_, ?_⟩) | (with_reducible refine ⟨4, _, _, _, _, get4, rfl, rfl, ?_, ?_, ?_, ?_⟩) | (with_reducible refine ⟨5, _, _, _, _, get5, rfl, rfl, ?_, ?_, ?_, ?_⟩)); (kernel_rfl); (simp [Value.cells]); (rfl); (clear st; intro w st))); (try simp only [nsl, Value.cells, unB] at st); (try clear hc); have hc := st.facts; (try simp only [nfl, nft, Nat.reduceAdd] at hc))
        go_ret
        exact ⟨by rw [HF2.out]; rfl, st.ext0⟩
      · have HF2 : Hid (r = decide ((⟨(bo, bd), fw⟩ : FactT) ∈ l)) := Lib.hid (by rw [HF.out, HS.out, if_neg (by decide), if_pos rfl])
        go_enter Tryz.func17, Tryz.ntmps17
        go_wp2_with ((first
              | ((with_reducible refine wl_box ?_ (fun K hK => ?_)); rfl; refine owp_box (o := ⟨some 2, _, _, _, _, _⟩) rfl st ?_; apply Exists.intro; refine ⟨?_, ?_⟩; (focus (go_simp; try rfl)); (clear st; intro b2 w hb st; clear hb))
              | ((with_reducible refine wl_alloc ?_ (fun K hK => ?_)); rfl; refine owp_alloc (o := ⟨some 6, _, _, _, _, _⟩) rfl st ?_; apply Exists.intro; apply Exists.intro; refine ⟨?_, ?_⟩; (focus (first | (go_simp; done) | (go_simp; rfl))); (clear st; intro b6 w hb st; clear hb))
              | ((with_reducible refine wl_store ?_ (fun K hK => ?_)); rfl; refine owp_store rfl st ?_; apply Exists.intro; apply Exists.intro; refine ⟨?_, ?_, ?_⟩; (focus (go_simp; try rfl)); (focus (go_simp; try rfl)); (first | (with_reducible refine ⟨0, _, _, _, _, get0, rfl, rfl, ?_, ?_, ?_, ?_⟩) | (with_reducible refine ⟨1, _, _, _, _, get1, rfl, rfl, ?_, ?_, ?_, ?_⟩) | (with_reducible refine ⟨2, _, _, _, _, get2, rfl, rfl, ?_, ?_, ?_, ?_⟩) | (with_reducible refine ⟨3, _, _, _, _, get3, rfl, rfl, ?_, ?_, ?_, ?_⟩) | (with_reducible refine ⟨4, _, _, _, _, get4, rfl, rfl, ?_, ?_, ?_, ?_⟩) | (with_reducible refine ⟨5, _, _, _, _, get5, rfl, rfl, ?_, ?_, ?_, ?_⟩)); (kernel_rfl); (simp [Value.cells]); (rfl); (clear st; intro w st))); (try simp only [nsl, Value.cells, unB] at st); (try clear hc); have hc := st.facts; (try simp only [nfl, nft, Nat.reduceAdd] at hc))
        refine Rg4.wp_region4_eq #[0, 0, 2, 0, 9, 31] [3, 5] [] (fun W' => Blk W' b2 [.int .i64 2, .string ⟨ho.toArray⟩, .string ⟨hd.toArray⟩, .string ⟨nw.toArray⟩, .string ⟨bo.toArray⟩, .string ⟨bd.toArray⟩, .string ⟨co.toArray⟩, .string ⟨cd.toArray⟩, .string ⟨we.toArray⟩, .string ⟨ro.toArray⟩, .string ⟨rd.toArray⟩, .string ⟨fw.toArray⟩]) [0, 1, 2, 3, 4, 5] (by kernel_rfl) (by kernel_rfl) (by kernel_rfl) (by kernel_rfl) (show Rg4.PB _ by repeat (first | with_reducible exact Rg4.pb_body | with_reducible exact Rg4.pb_bodyD rfl | with_reducible refine Rg4.pb_then ?_ | with_reducible refine Rg4.pb_inBlock ?_ | with_reducible refine Rg4.pb_noGoto ?_ | with_reducible assumption)) (st.drew.blk (i := 1) get1) ?_
        replace st := st.drew
        change Rg4.wp4 _ _ _ _ _ _ _ _ _ (World.drew _) _ _
        generalize World.drew _ = w at st ⊢
        (try clear hc); have hc := st.facts; (try simp only [nfl, nft, Nat.reduceAdd] at hc)
        iterate 2 (refine Rg4.w4_any (Rg4.want_none rfl) rfl ?_; apply Exists.intro; refine ⟨fun w' => ?_, ?_⟩; (focus (first | (go_simp; done) | (go_simp; first | rfl | (rw [if_neg] <;> first | rfl | omega) | (rw [if_pos] <;> first | rfl | omega)))); (try simp only [Rg4.nrm]))
        (refine Rg4.w4_cl (Rg4.want_none rfl) rfl ?_; apply Exists.intro; refine ⟨fun w' hcl => ?_, ?_⟩; (focus (have q0 := Blk.cell hcl 0; have q1 := Blk.cell hcl 1; have q2 := Blk.cell hcl 2; have q3 := Blk.cell hcl 3; have q4 := Blk.cell hcl 4; have q5 := Blk.cell hcl 5; have q6 := Blk.cell hcl 6; have q7 := Blk.cell hcl 7; have q8 := Blk.cell hcl 8; (try simp at q0 q1 q2 q3 q4 q5 q6 q7 q8); (focus (first | (go_simp; done) | (go_simp; first | rfl | (rw [if_neg] <;> first | rfl | omega) | (rw [if_pos] <;> first | rfl | omega)))))); (try simp only [Rg4.nrm]))
        (refine Rg4.w4_bar (Rg4.want_none rfl) rfl (fun w' hw' hcl' _ K hK => ?_); subst hw'; (refine owp_alloc (o := ⟨some 6, _, _, _, _, _⟩) rfl st ?_; apply Exists.intro; apply Exists.intro; refine ⟨?_, ?_⟩; (focus (first | (go_simp; done) | (go_simp; rfl))); (clear st; intro b6 w hb st; clear hb); (try simp only [nsl, Value.cells, unB] at st); (try clear hc); have hc := st.facts; (try simp only [nfl, nft, Nat.reduceAdd] at hc)); refine hK _ _ ⟨st.blk (i := 1) get1, ?_⟩; (try simp only [Rg4.nrm]))
        (refine Rg4.w4_any (Rg4.want_none rfl) rfl ?_; apply Exists.intro; refine ⟨fun w' => ?_, ?_⟩; (focus (first | (go_simp; done) | (go_simp; first | rfl | (rw [if_neg] <;> first | rfl | omega) | (rw [if_pos] <;> first | rfl | omega)))); (try simp only [Rg4.nrm]))
        (refine Rg4.w4_bar (Rg4.want_none rfl) rfl (fun w' hw' hcl' _ K hK => ?_); subst hw'; (refine owp_store rfl st ?_; apply Exists.intro; apply Exists.intro; refine ⟨?_, ?_, ?_⟩; (focus (go_simp; try rfl)); (focus (go_simp; try rfl)); (first | (with_reducible refine ⟨0, _, _, _, _, get0, rfl, rfl, ?_, ?_, ?_, ?_⟩) | (with_reducible refine ⟨1, _, _, _, _, get1, rfl, rfl, ?_, ?_, ?_, ?_⟩) | (with_reducible refine ⟨2, _, _, _, _, get2, rfl, rfl, ?_, ?_, ?_, ?_⟩) | (with_reducible refine ⟨3, _, _, _, _, get3, rfl, rfl, ?_, ?_, ?_, ?_⟩) | (with_reducible refine ⟨4, _, _, _, _, get4, rfl, rfl, ?_, ?_, ?_, ?_⟩) | (with_reducible refine ⟨5, _, _, _, _, get5, rfl, rfl, ?_, ?_, ?_, ?_⟩)); (kernel_rfl); (simp [Value.cells]); (rfl); (clear st; intro w st); (try simp only [nsl, Value.cells, unB] at st); (try clear hc); have hc := st.facts; (try simp only [nfl, nft, Nat.reduceAdd] at hc)); refine hK _ _ ⟨st.blk (i := 1) get1, ?_⟩; (try simp only [Rg4.nrm]))
        refine Rg4.w4_nil (fun w' hw' hcl' _ => ?_); subst hw'; clear hcl'
        go_wp2_with ((first
              | ((with_reducible refine wl_box ?_ (fun K hK => ?_)); rfl; refine owp_box (o := ⟨some 2, _, _, _, _, _⟩) rfl st ?_; apply Exists.intro; refine ⟨?_, ?_⟩; (focus (go_simp; try rfl)); (clear st; intro b2 w hb st; clear hb))
              | ((with_reducible refine wl_alloc ?_ (fun K hK => ?_)); rfl; refine owp_alloc (o := ⟨some 6, _, _, _, _, _⟩) rfl st ?_; apply Exists.intro; apply Exists.intro; refine ⟨?_, ?_⟩; (focus (first | (go_simp; done) | (go_simp; rfl))); (clear st; intro b6 w hb st; clear hb))
              | ((with_reducible refine wl_store ?_ (fun K hK => ?_)); rfl; refine owp_store rfl st ?_; apply Exists.intro; apply Exists.intro; refine ⟨?_, ?_, ?_⟩; (focus (go_simp; try rfl)); (focus (go_simp; try rfl)); (first | (with_reducible refine ⟨0, _, _, _, _, get0, rfl, rfl, ?_, ?_, ?_, ?_⟩) | (with_reducible refine ⟨1, _, _, _, _, get1, rfl, rfl, ?_, ?_, ?_, ?_⟩) | (with_reducible refine ⟨2, _, _, _, _, get2, rfl, rfl, ?_, ?_, ?_, ?_⟩) | (with_reducible refine ⟨3, _, _, _, _, get3, rfl, rfl, ?_, ?_, ?_, ?_⟩) | (with_reducible refine ⟨4, _, _, _, _, get4, rfl, rfl, ?_, ?_, ?_, ?_⟩) | (with_reducible refine ⟨5, _, _, _, _, get5, rfl, rfl, ?_, ?_, ?_, ?_⟩)); (kernel_rfl); (simp [Value.cells]); (rfl); (clear st; intro w st))); (try simp only [nsl, Value.cells, unB] at st); (try clear hc); have hc := st.facts; (try simp only [nfl, nft, Nat.reduceAdd] at hc))
        refine (HCR.out _).mono ?_
        rintro en w ⟨rfl, hx⟩
        replace st := st.ext hx
        clear hx
        (try clear hc); have hc := st.facts; (try simp only [nfl, nft, Nat.reduceAdd] at hc)
        go_wp2_with ((first
              | ((with_reducible refine wl_box ?_ (fun K hK => ?_)); rfl; refine owp_box (o := ⟨some 2, _, _, _, _, _⟩) rfl st ?_; apply Exists.intro; refine ⟨?_, ?_⟩; (focus (go_simp; try rfl)); (clear st; intro b2 w hb st; clear hb))
              | ((with_reducible refine wl_alloc ?_ (fun K hK => ?_)); rfl; refine owp_alloc (o := ⟨some 6, _, _, _, _, _⟩) rfl st ?_; apply Exists.intro; apply Exists.intro; refine ⟨?_, ?_⟩; (focus (first | (go_simp; done) | (go_simp; rfl))); (clear st; intro b6 w hb st; clear hb))
              | ((with_reducible refine wl_store ?_ (fun K hK => ?_)); rfl; refine owp_store rfl st ?_; apply Exists.intro; apply Exists.intro; refine ⟨?_, ?_, ?_⟩; (focus (go_simp; try rfl)); (focus (go_simp; try rfl)); (first | (with_reducible refine ⟨0, _, _, _, _, get0, rfl, rfl, ?_, ?_, ?_, ?_⟩) | (with_reducible refine ⟨1, _, _, _, _, get1, rfl, rfl, ?_, ?_, ?_, ?_⟩) | (with_reducible refine ⟨2, _, _, _, _, get2, rfl, rfl, ?_, ?_, ?_, ?_⟩) | (with_reducible refine ⟨3, _, _, _, _, get3, rfl, rfl, ?_, ?_, ?_, ?_⟩) | (with_reducible refine ⟨4, _, _, _, _, get4, rfl, rfl, ?_, ?_, ?_, ?_⟩) | (with_reducible refine ⟨5, _, _, _, _, get5, rfl, rfl, ?_, ?_, ?_, ?_⟩)); (kernel_rfl); (simp [Value.cells]); (rfl); (clear st; intro w st))); (try simp only [nsl, Value.cells, unB] at st); (try clear hc); have hc := st.facts; (try simp only [nfl, nft, Nat.reduceAdd] at hc))
        refine (HIB.out _ (st.oldFl (i := 0) get0 H.out)).mono ?_
        rintro en w ⟨rfl, hx⟩
        replace st := st.ext hx
        clear hx
        (try clear hc); have hc := st.facts; (try simp only [nfl, nft, Nat.reduceAdd] at hc)
        go_wp2_with ((first
              | ((with_reducible refine wl_box ?_ (fun K hK => ?_)); rfl; refine owp_box (o := ⟨some 2, _, _, _, _, _⟩) rfl st ?_; apply Exists.intro; refine ⟨?_, ?_⟩; (focus (go_simp; try rfl)); (clear st; intro b2 w hb st; clear hb))
              | ((with_reducible refine wl_alloc ?_ (fun K hK => ?_)); rfl; refine owp_alloc (o := ⟨some 6, _, _, _, _, _⟩) rfl st ?_; apply Exists.intro; apply Exists.intro; refine ⟨?_, ?_⟩; (focus (first | (go_simp; done) | (go_simp; rfl))); (clear st; intro b6 w hb st; clear hb))
              | ((with_reducible refine wl_store ?_ (fun K hK => ?_)); rfl; refine owp_store rfl st ?_; apply Exists.intro; apply Exists.intro; refine ⟨?_, ?_, ?_⟩; (focus (go_simp; try rfl)); (focus (go_simp; try rfl)); (first | (with_reducible refine ⟨0, _, _, _, _, get0, rfl, rfl, ?_, ?_, ?_, ?_⟩) | (with_reducible refine ⟨1, _, _, _, _, get1, rfl, rfl, ?_, ?_, ?_, ?_⟩) | (with_reducible refine ⟨2, _, _, _, _, get2, rfl, rfl, ?_, ?_, ?_, ?_⟩) | (with_reducible refine ⟨3, _, _, _, _, get3, rfl, rfl, ?_, ?_, ?_, ?_⟩) | (with_reducible refine ⟨4, _, _, _, _, get4, rfl, rfl, ?_, ?_, ?_, ?_⟩) | (with_reducible refine ⟨5, _, _, _, _, get5, rfl, rfl, ?_, ?_, ?_, ?_⟩)); (kernel_rfl); (simp [Value.cells]); (rfl); (clear st; intro w st))); (try simp only [nsl, Value.cells, unB] at st); (try clear hc); have hc := st.facts; (try simp only [nfl, nft, Nat.reduceAdd] at hc))
        go_ret
        exact ⟨by rw [HF2.out]; rfl, st.ext0⟩
      · have HF2 : Hid (r = linkB l (bo, bd) we fw) := Lib.hid (by rw [HF.out, HS.out, if_neg (by decide), if_neg (by decide), if_neg (by decide)])
        go_enter Tryz.func17, Tryz.ntmps17
        go_wp2_with ((first
              | ((with_reducible refine wl_box ?_ (fun K hK => ?_)); rfl; refine owp_box (o := ⟨some 2, _, _, _, _, _⟩) rfl st ?_; apply Exists.intro; refine ⟨?_, ?_⟩; (focus (go_simp; try rfl)); (clear st; intro b2 w hb st; clear hb))
              | ((with_reducible refine wl_alloc ?_ (fun K hK => ?_)); rfl; refine owp_alloc (o := ⟨some 6, _, _, _, _, _⟩) rfl st ?_; apply Exists.intro; apply Exists.intro; refine ⟨?_, ?_⟩; (focus (first | (go_simp; done) | (go_simp; rfl))); (clear st; intro b6 w hb st; clear hb))
              | ((with_reducible refine wl_store ?_ (fun K hK => ?_)); rfl; refine owp_store rfl st ?_; apply Exists.intro; apply Exists.intro; refine ⟨?_, ?_, ?_⟩; (focus (go_simp; try rfl)); (focus (go_simp; try rfl)); (first | (with_reducible refine ⟨0, _, _, _, _, get0, rfl, rfl, ?_, ?_, ?_, ?_⟩) | (with_reducible refine ⟨1, _, _, _, _, get1, rfl, rfl, ?_, ?_, ?_, ?_⟩) | (with_reducible refine ⟨2, _, _, _, _, get2, rfl, rfl, ?_, ?_, ?_, ?_⟩) | (with_reducible refine ⟨3, _, _, _, _, get3, rfl, rfl, ?_, ?_, ?_, ?_⟩) | (with_reducible refine ⟨4, _, _, _, _, get4, rfl, rfl, ?_, ?_, ?_, ?_⟩) | (with_reducible refine ⟨5, _, _, _, _, get5, rfl, rfl, ?_, ?_, ?_, ?_⟩)); (kernel_rfl); (simp [Value.cells]); (rfl); (clear st; intro w st))); (try simp only [nsl, Value.cells, unB] at st); (try clear hc); have hc := st.facts; (try simp only [nfl, nft, Nat.reduceAdd] at hc))
        refine Rg4.wp_region4_eq #[0, 0, 2, 0, 9, 31] [3, 5] [] (fun W' => Blk W' b2 [.int .i64 3, .string ⟨ho.toArray⟩, .string ⟨hd.toArray⟩, .string ⟨nw.toArray⟩, .string ⟨bo.toArray⟩, .string ⟨bd.toArray⟩, .string ⟨co.toArray⟩, .string ⟨cd.toArray⟩, .string ⟨we.toArray⟩, .string ⟨ro.toArray⟩, .string ⟨rd.toArray⟩, .string ⟨fw.toArray⟩]) [0, 1, 2, 3, 4, 5] (by kernel_rfl) (by kernel_rfl) (by kernel_rfl) (by kernel_rfl) (show Rg4.PB _ by repeat (first | with_reducible exact Rg4.pb_body | with_reducible exact Rg4.pb_bodyD rfl | with_reducible refine Rg4.pb_then ?_ | with_reducible refine Rg4.pb_inBlock ?_ | with_reducible refine Rg4.pb_noGoto ?_ | with_reducible assumption)) (st.drew.blk (i := 1) get1) ?_
        replace st := st.drew
        change Rg4.wp4 _ _ _ _ _ _ _ _ _ (World.drew _) _ _
        generalize World.drew _ = w at st ⊢
        (try clear hc); have hc := st.facts; (try simp only [nfl, nft, Nat.reduceAdd] at hc)
        iterate 2 (refine Rg4.w4_any (Rg4.want_none rfl) rfl ?_; apply Exists.intro; refine ⟨fun w' => ?_, ?_⟩; (focus (first | (go_simp; done) | (go_simp; first | rfl | (rw [if_neg] <;> first | rfl | omega) | (rw [if_pos] <;> first | rfl | omega)))); (try simp only [Rg4.nrm]))
        (refine Rg4.w4_cl (Rg4.want_none rfl) rfl ?_; apply Exists.intro; refine ⟨fun w' hcl => ?_, ?_⟩; (focus (have q0 := Blk.cell hcl 0; have q1 := Blk.cell hcl 1; have q2 := Blk.cell hcl 2; have q3 := Blk.cell hcl 3; have q4 := Blk.cell hcl 4; have q5 := Blk.cell hcl 5; have q6 := Blk.cell hcl 6; have q7 := Blk.cell hcl 7; have q8 := Blk.cell hcl 8; (try simp at q0 q1 q2 q3 q4 q5 q6 q7 q8); (focus (first | (go_simp; done) | (go_simp; first | rfl | (rw [if_neg] <;> first | rfl | omega) | (rw [if_pos] <;> first | rfl | omega)))))); (try simp only [Rg4.nrm]))
        (refine Rg4.w4_bar (Rg4.want_none rfl) rfl (fun w' hw' hcl' _ K hK => ?_); subst hw'; (refine owp_alloc (o := ⟨some 6, _, _, _, _, _⟩) rfl st ?_; apply Exists.intro; apply Exists.intro; refine ⟨?_, ?_⟩; (focus (first | (go_simp; done) | (go_simp; rfl))); (clear st; intro b6 w hb st; clear hb); (try simp only [nsl, Value.cells, unB] at st); (try clear hc); have hc := st.facts; (try simp only [nfl, nft, Nat.reduceAdd] at hc)); refine hK _ _ ⟨st.blk (i := 1) get1, ?_⟩; (try simp only [Rg4.nrm]))
        (refine Rg4.w4_any (Rg4.want_none rfl) rfl ?_; apply Exists.intro; refine ⟨fun w' => ?_, ?_⟩; (focus (first | (go_simp; done) | (go_simp; first | rfl | (rw [if_neg] <;> first | rfl | omega) | (rw [if_pos] <;> first | rfl | omega)))); (try simp only [Rg4.nrm]))
        (refine Rg4.w4_bar (Rg4.want_none rfl) rfl (fun w' hw' hcl' _ K hK => ?_); subst hw'; (refine owp_store rfl st ?_; apply Exists.intro; apply Exists.intro; refine ⟨?_, ?_, ?_⟩; (focus (go_simp; try rfl)); (focus (go_simp; try rfl)); (first | (with_reducible refine ⟨0, _, _, _, _, get0, rfl, rfl, ?_, ?_, ?_, ?_⟩) | (with_reducible refine ⟨1, _, _, _, _, get1, rfl, rfl, ?_, ?_, ?_, ?_⟩) | (with_reducible refine ⟨2, _, _, _, _, get2, rfl, rfl, ?_, ?_, ?_, ?_⟩) | (with_reducible refine ⟨3, _, _, _, _, get3, rfl, rfl, ?_, ?_, ?_, ?_⟩) | (with_reducible refine ⟨4, _, _, _, _, get4, rfl, rfl, ?_, ?_, ?_, ?_⟩) | (with_reducible refine ⟨5, _, _, _, _, get5, rfl, rfl, ?_, ?_, ?_, ?_⟩)); (kernel_rfl); (simp [Value.cells]); (rfl); (clear st; intro w st); (try simp only [nsl, Value.cells, unB] at st); (try clear hc); have hc := st.facts; (try simp only [nfl, nft, Nat.reduceAdd] at hc)); refine hK _ _ ⟨st.blk (i := 1) get1, ?_⟩; (try simp only [Rg4.nrm]))
        refine Rg4.w4_nil (fun w' hw' hcl' _ => ?_); subst hw'; clear hcl'
        go_wp2_with ((first
              | ((with_reducible refine wl_box ?_ (fun K hK => ?_)); rfl; refine owp_box (o := ⟨some 2, _, _, _, _, _⟩) rfl st ?_; apply Exists.intro; refine ⟨?_, ?_⟩; (focus (go_simp; try rfl)); (clear st; intro b2 w hb st; clear hb))
              | ((with_reducible refine wl_alloc ?_ (fun K hK => ?_)); rfl; refine owp_alloc (o := ⟨some 6, _, _, _, _, _⟩) rfl st ?_; apply Exists.intro; apply Exists.intro; refine ⟨?_, ?_⟩; (focus (first | (go_simp; done) | (go_simp; rfl))); (clear st; intro b6 w hb st; clear hb))
              | ((with_reducible refine wl_store ?_ (fun K hK => ?_)); rfl; refine owp_store rfl st ?_; apply Exists.intro; apply Exists.intro; refine ⟨?_, ?_, ?_⟩; (focus (go_simp; try rfl)); (focus (go_simp; try rfl)); (first | (with_reducible refine ⟨0, _, _, _, _, get0, rfl, rfl, ?_, ?_, ?_, ?_⟩) | (with_reducible refine ⟨1, _, _, _, _, get1, rfl, rfl, ?_, ?_, ?_, ?_⟩) | (with_reducible refine ⟨2, _, _, _, _, get2, rfl, rfl, ?_, ?_, ?_, ?_⟩) | (with_reducible refine ⟨3, _, _, _, _, get3, rfl, rfl, ?_, ?_, ?_, ?_⟩) | (with_reducible refine ⟨4, _, _, _, _, get4, rfl, rfl, ?_, ?_, ?_, ?_⟩) | (with_reducible refine ⟨5, _, _, _, _, get5, rfl, rfl, ?_, ?_, ?_, ?_⟩)); (kernel_rfl); (simp [Value.cells]); (rfl); (clear st; intro w st))); (try simp only [nsl, Value.cells, unB] at st); (try clear hc); have hc := st.facts; (try simp only [nfl, nft, Nat.reduceAdd] at hc))
        refine (HCR.out _).mono ?_
        rintro en w ⟨rfl, hx⟩
        replace st := st.ext hx
        clear hx
        (try clear hc); have hc := st.facts; (try simp only [nfl, nft, Nat.reduceAdd] at hc)
        go_wp2_with ((first
              | ((with_reducible refine wl_box ?_ (fun K hK => ?_)); rfl; refine owp_box (o := ⟨some 2, _, _, _, _, _⟩) rfl st ?_; apply Exists.intro; refine ⟨?_, ?_⟩; (focus (go_simp; try rfl)); (clear st; intro b2 w hb st; clear hb))
              | ((with_reducible refine wl_alloc ?_ (fun K hK => ?_)); rfl; refine owp_alloc (o := ⟨some 6, _, _, _, _, _⟩) rfl st ?_; apply Exists.intro; apply Exists.intro; refine ⟨?_, ?_⟩; (focus (first | (go_simp; done) | (go_simp; rfl))); (clear st; intro b6 w hb st; clear hb))
              | ((with_reducible refine wl_store ?_ (fun K hK => ?_)); rfl; refine owp_store rfl st ?_; apply Exists.intro; apply Exists.intro; refine ⟨?_, ?_, ?_⟩; (focus (go_simp; try rfl)); (focus (go_simp; try rfl)); (first | (with_reducible refine ⟨0, _, _, _, _, get0, rfl, rfl, ?_, ?_, ?_, ?_⟩) | (with_reducible refine ⟨1, _, _, _, _, get1, rfl, rfl, ?_, ?_, ?_, ?_⟩) | (with_reducible refine ⟨2, _, _, _, _, get2, rfl, rfl, ?_, ?_, ?_, ?_⟩) | (with_reducible refine ⟨3, _, _, _, _, get3, rfl, rfl, ?_, ?_, ?_, ?_⟩) | (with_reducible refine ⟨4, _, _, _, _, get4, rfl, rfl, ?_, ?_, ?_, ?_⟩) | (with_reducible refine ⟨5, _, _, _, _, get5, rfl, rfl, ?_, ?_, ?_, ?_⟩)); (kernel_rfl); (simp [Value.cells]); (rfl); (clear st; intro w st))); (try simp only [nsl, Value.cells, unB] at st); (try clear hc); have hc := st.facts; (try simp only [nfl, nft, Nat.reduceAdd] at hc))
        refine (HLK.out _ (st.oldFl (i := 0) get0 H.out)).mono ?_
        rintro en w ⟨rfl, hx⟩
        replace st := st.ext hx
        clear hx
        (try clear hc); have hc := st.facts; (try simp only [nfl, nft, Nat.reduceAdd] at hc)
        go_wp2_with ((first
              | ((with_reducible refine wl_box ?_ (fun K hK => ?_)); rfl; refine owp_box (o := ⟨some 2, _, _, _, _, _⟩) rfl st ?_; apply Exists.intro; refine ⟨?_, ?_⟩; (focus (go_simp; try rfl)); (clear st; intro b2 w hb st; clear hb))
              | ((with_reducible refine wl_alloc ?_ (fun K hK => ?_)); rfl; refine owp_alloc (o := ⟨some 6, _, _, _, _, _⟩) rfl st ?_; apply Exists.intro; apply Exists.intro; refine ⟨?_, ?_⟩; (focus (first | (go_simp; done) | (go_simp; rfl))); (clear st; intro b6 w hb st; clear hb))
              | ((with_reducible refine wl_store ?_ (fun K hK => ?_)); rfl; refine owp_store rfl st ?_; apply Exists.intro; apply Exists.intro; refine ⟨?_, ?_, ?_⟩; (focus (go_simp; try rfl)); (focus (go_simp; try rfl)); (first | (with_reducible refine ⟨0, _, _, _, _, get0, rfl, rfl, ?_, ?_, ?_, ?_⟩) | (with_reducible refine ⟨1, _, _, _, _, get1, rfl, rfl, ?_, ?_, ?_, ?_⟩) | (with_reducible refine ⟨2, _, _, _, _, get2, rfl, rfl, ?_, ?_, ?_, ?_⟩) | (with_reducible refine ⟨3, _, _, _, _, get3, rfl, rfl, ?_, ?_, ?_, ?_⟩) | (with_reducible refine ⟨4, _, _, _, _, get4, rfl, rfl, ?_, ?_, ?_, ?_⟩) | (with_reducible refine ⟨5, _, _, _, _, get5, rfl, rfl, ?_, ?_, ?_, ?_⟩)); (kernel_rfl); (simp [Value.cells]); (rfl); (clear st; intro w st))); (try simp only [nsl, Value.cells, unB] at st); (try clear hc); have hc := st.facts; (try simp only [nfl, nft, Nat.reduceAdd] at hc))
        go_ret
        exact ⟨by rw [HF2.out]; rfl, st.ext0⟩
      · have HF2 : Hid (r = (decide ((⟨(bo, bd), fw⟩ : FactT) ∈ l) && decide ((⟨(co, cd), fw⟩ : FactT) ∈ l))) := Lib.hid (by rw [HF.out, HS.out, if_neg (by decide), if_neg (by decide), if_pos rfl])
        obtain ⟨p1, hp1⟩ : ∃ p, decide ((⟨(bo, bd), fw⟩ : FactT) ∈ l) = p := ⟨_, rfl⟩
        rw [hp1] at HF2 HIB
        clear hp1
        go_enter Tryz.func17, Tryz.ntmps17
        go_wp2_with ((first
              | ((with_reducible refine wl_box ?_ (fun K hK => ?_)); rfl; refine owp_box (o := ⟨some 2, _, _, _, _, _⟩) rfl st ?_; apply Exists.intro; refine ⟨?_, ?_⟩; (focus (go_simp; try rfl)); (clear st; intro b2 w hb st; clear hb))
              | ((with_reducible refine wl_alloc ?_ (fun K hK => ?_)); rfl; refine owp_alloc (o := ⟨some 6, _, _, _, _, _⟩) rfl st ?_; apply Exists.intro; apply Exists.intro; refine ⟨?_, ?_⟩; (focus (first | (go_simp; done) | (go_simp; rfl))); (clear st; intro b6 w hb st; clear hb))
              | ((with_reducible refine wl_store ?_ (fun K hK => ?_)); rfl; refine owp_store rfl st ?_; apply Exists.intro; apply Exists.intro; refine ⟨?_, ?_, ?_⟩; (focus (go_simp; try rfl)); (focus (go_simp; try rfl)); (first | (with_reducible refine ⟨0, _, _, _, _, get0, rfl, rfl, ?_, ?_, ?_, ?_⟩) | (with_reducible refine ⟨1, _, _, _, _, get1, rfl, rfl, ?_, ?_, ?_, ?_⟩) | (with_reducible refine ⟨2, _, _, _, _, get2, rfl, rfl, ?_, ?_, ?_, ?_⟩) | (with_reducible refine ⟨3, _, _, _, _, get3, rfl, rfl, ?_, ?_, ?_, ?_⟩) | (with_reducible refine ⟨4, _, _, _, _, get4, rfl, rfl, ?_, ?_, ?_, ?_⟩) | (with_reducible refine ⟨5, _, _, _, _, get5, rfl, rfl, ?_, ?_, ?_, ?_⟩)); (kernel_rfl); (simp [Value.cells]); (rfl); (clear st; intro w st))); (try simp only [nsl, Value.cells, unB] at st); (try clear hc); have hc := st.facts; (try simp only [nfl, nft, Nat.reduceAdd] at hc))
        refine Rg4.wp_region4_eq #[0, 0, 2, 0, 9, 31] [3, 5] [] (fun W' => Blk W' b2 [.int .i64 4, .string ⟨ho.toArray⟩, .string ⟨hd.toArray⟩, .string ⟨nw.toArray⟩, .string ⟨bo.toArray⟩, .string ⟨bd.toArray⟩, .string ⟨co.toArray⟩, .string ⟨cd.toArray⟩, .string ⟨we.toArray⟩, .string ⟨ro.toArray⟩, .string ⟨rd.toArray⟩, .string ⟨fw.toArray⟩]) [0, 1, 2, 3, 4, 5] (by kernel_rfl) (by kernel_rfl) (by kernel_rfl) (by kernel_rfl) (show Rg4.PB _ by repeat (first | with_reducible exact Rg4.pb_body | with_reducible exact Rg4.pb_bodyD rfl | with_reducible refine Rg4.pb_then ?_ | with_reducible refine Rg4.pb_inBlock ?_ | with_reducible refine Rg4.pb_noGoto ?_ | with_reducible assumption)) (st.drew.blk (i := 1) get1) ?_
        replace st := st.drew
        change Rg4.wp4 _ _ _ _ _ _ _ _ _ (World.drew _) _ _
        generalize World.drew _ = w at st ⊢
        (try clear hc); have hc := st.facts; (try simp only [nfl, nft, Nat.reduceAdd] at hc)
        iterate 2 (refine Rg4.w4_any (Rg4.want_none rfl) rfl ?_; apply Exists.intro; refine ⟨fun w' => ?_, ?_⟩; (focus (first | (go_simp; done) | (go_simp; first | rfl | (rw [if_neg] <;> first | rfl | omega) | (rw [if_pos] <;> first | rfl | omega)))); (try simp only [Rg4.nrm]))
        (refine Rg4.w4_cl (Rg4.want_none rfl) rfl ?_; apply Exists.intro; refine ⟨fun w' hcl => ?_, ?_⟩; (focus (have q0 := Blk.cell hcl 0; have q1 := Blk.cell hcl 1; have q2 := Blk.cell hcl 2; have q3 := Blk.cell hcl 3; have q4 := Blk.cell hcl 4; have q5 := Blk.cell hcl 5; have q6 := Blk.cell hcl 6; have q7 := Blk.cell hcl 7; have q8 := Blk.cell hcl 8; (try simp at q0 q1 q2 q3 q4 q5 q6 q7 q8); (focus (first | (go_simp; done) | (go_simp; first | rfl | (rw [if_neg] <;> first | rfl | omega) | (rw [if_pos] <;> first | rfl | omega)))))); (try simp only [Rg4.nrm]))
        (refine Rg4.w4_bar (Rg4.want_none rfl) rfl (fun w' hw' hcl' _ K hK => ?_); subst hw'; (refine owp_alloc (o := ⟨some 6, _, _, _, _, _⟩) rfl st ?_; apply Exists.intro; apply Exists.intro; refine ⟨?_, ?_⟩; (focus (first | (go_simp; done) | (go_simp; rfl))); (clear st; intro b6 w hb st; clear hb); (try simp only [nsl, Value.cells, unB] at st); (try clear hc); have hc := st.facts; (try simp only [nfl, nft, Nat.reduceAdd] at hc)); refine hK _ _ ⟨st.blk (i := 1) get1, ?_⟩; (try simp only [Rg4.nrm]))
        (refine Rg4.w4_any (Rg4.want_none rfl) rfl ?_; apply Exists.intro; refine ⟨fun w' => ?_, ?_⟩; (focus (first | (go_simp; done) | (go_simp; first | rfl | (rw [if_neg] <;> first | rfl | omega) | (rw [if_pos] <;> first | rfl | omega)))); (try simp only [Rg4.nrm]))
        (refine Rg4.w4_bar (Rg4.want_none rfl) rfl (fun w' hw' hcl' _ K hK => ?_); subst hw'; (refine owp_store rfl st ?_; apply Exists.intro; apply Exists.intro; refine ⟨?_, ?_, ?_⟩; (focus (go_simp; try rfl)); (focus (go_simp; try rfl)); (first | (with_reducible refine ⟨0, _, _, _, _, get0, rfl, rfl, ?_, ?_, ?_, ?_⟩) | (with_reducible refine ⟨1, _, _, _, _, get1, rfl, rfl, ?_, ?_, ?_, ?_⟩) | (with_reducible refine ⟨2, _, _, _, _, get2, rfl, rfl, ?_, ?_, ?_, ?_⟩) | (with_reducible refine ⟨3, _, _, _, _, get3, rfl, rfl, ?_, ?_, ?_, ?_⟩) | (with_reducible refine ⟨4, _, _, _, _, get4, rfl, rfl, ?_, ?_, ?_, ?_⟩) | (with_reducible refine ⟨5, _, _, _, _, get5, rfl, rfl, ?_, ?_, ?_, ?_⟩)); (kernel_rfl); (simp [Value.cells]); (rfl); (clear st; intro w st); (try simp only [nsl, Value.cells, unB] at st); (try clear hc); have hc := st.facts; (try simp only [nfl, nft, Nat.reduceAdd] at hc)); refine hK _ _ ⟨st.blk (i := 1) get1, ?_⟩; (try simp only [Rg4.nrm]))
        refine Rg4.w4_nil (fun w' hw' hcl' _ => ?_); subst hw'; clear hcl'
        go_wp2_with ((first
              | ((with_reducible refine wl_box ?_ (fun K hK => ?_)); rfl; refine owp_box (o := ⟨some 2, _, _, _, _, _⟩) rfl st ?_; apply Exists.intro; refine ⟨?_, ?_⟩; (focus (go_simp; try rfl)); (clear st; intro b2 w hb st; clear hb))
              | ((with_reducible refine wl_alloc ?_ (fun K hK => ?_)); rfl; refine owp_alloc (o := ⟨some 6, _, _, _, _, _⟩) rfl st ?_; apply Exists.intro; apply Exists.intro; refine ⟨?_, ?_⟩; (focus (first | (go_simp; done) | (go_simp; rfl))); (clear st; intro b6 w hb st; clear hb))
              | ((with_reducible refine wl_store ?_ (fun K hK => ?_)); rfl; refine owp_store rfl st ?_; apply Exists.intro; apply Exists.intro; refine ⟨?_, ?_, ?_⟩; (focus (go_simp; try rfl)); (focus (go_simp; try rfl)); (first | (with_reducible refine ⟨0, _, _, _, _, get0, rfl, rfl, ?_, ?_, ?_, ?_⟩) | (with_reducible refine ⟨1, _, _, _, _, get1, rfl, rfl, ?_, ?_, ?_, ?_⟩) | (with_reducible refine ⟨2, _, _, _, _, get2, rfl, rfl, ?_, ?_, ?_, ?_⟩) | (with_reducible refine ⟨3, _, _, _, _, get3, rfl, rfl, ?_, ?_, ?_, ?_⟩) | (with_reducible refine ⟨4, _, _, _, _, get4, rfl, rfl, ?_, ?_, ?_, ?_⟩) | (with_reducible refine ⟨5, _, _, _, _, get5, rfl, rfl, ?_, ?_, ?_, ?_⟩)); (kernel_rfl); (simp [Value.cells]); (rfl); (clear st; intro w st))); (try simp only [nsl, Value.cells, unB] at st); (try clear hc); have hc := st.facts; (try simp only [nfl, nft, Nat.reduceAdd] at hc))
        refine (HCR.out _).mono ?_
        rintro en w ⟨rfl, hx⟩
        replace st := st.ext hx
        clear hx
        (try clear hc); have hc := st.facts; (try simp only [nfl, nft, Nat.reduceAdd] at hc)
        go_wp2_with ((first
              | ((with_reducible refine wl_box ?_ (fun K hK => ?_)); rfl; refine owp_box (o := ⟨some 2, _, _, _, _, _⟩) rfl st ?_; apply Exists.intro; refine ⟨?_, ?_⟩; (focus (go_simp; try rfl)); (clear st; intro b2 w hb st; clear hb))
              | ((with_reducible refine wl_alloc ?_ (fun K hK => ?_)); rfl; refine owp_alloc (o := ⟨some 6, _, _, _, _, _⟩) rfl st ?_; apply Exists.intro; apply Exists.intro; refine ⟨?_, ?_⟩; (focus (first | (go_simp; done) | (go_simp; rfl))); (clear st; intro b6 w hb st; clear hb))
              | ((with_reducible refine wl_store ?_ (fun K hK => ?_)); rfl; refine owp_store rfl st ?_; apply Exists.intro; apply Exists.intro; refine ⟨?_, ?_, ?_⟩; (focus (go_simp; try rfl)); (focus (go_simp; try rfl)); (first | (with_reducible refine ⟨0, _, _, _, _, get0, rfl, rfl, ?_, ?_, ?_, ?_⟩) | (with_reducible refine ⟨1, _, _, _, _, get1, rfl, rfl, ?_, ?_, ?_, ?_⟩) | (with_reducible refine ⟨2, _, _, _, _, get2, rfl, rfl, ?_, ?_, ?_, ?_⟩) | (with_reducible refine ⟨3, _, _, _, _, get3, rfl, rfl, ?_, ?_, ?_, ?_⟩) | (with_reducible refine ⟨4, _, _, _, _, get4, rfl, rfl, ?_, ?_, ?_, ?_⟩) | (with_reducible refine ⟨5, _, _, _, _, get5, rfl, rfl, ?_, ?_, ?_, ?_⟩)); (kernel_rfl); (simp [Value.cells]); (rfl); (clear st; intro w st))); (try simp only [nsl, Value.cells, unB] at st); (try clear hc); have hc := st.facts; (try simp only [nfl, nft, Nat.reduceAdd] at hc))
        refine (HIB.out _ (st.oldFl (i := 0) get0 H.out)).mono ?_
        rintro en w ⟨rfl, hx⟩
        replace st := st.ext hx
        clear hx
        (try clear hc); have hc := st.facts; (try simp only [nfl, nft, Nat.reduceAdd] at hc)
        cases p1 with
        | false =>
          go_wp2_with ((first
                | ((with_reducible refine wl_box ?_ (fun K hK => ?_)); rfl; refine owp_box (o := ⟨some 2, _, _, _, _, _⟩) rfl st ?_; apply Exists.intro; refine ⟨?_, ?_⟩; (focus (go_simp; try rfl)); (clear st; intro b2 w hb st; clear hb))
                | ((with_reducible refine wl_alloc ?_ (fun K hK => ?_)); rfl; refine owp_alloc (o := ⟨some 6, _, _, _, _, _⟩) rfl st ?_; apply Exists.intro; apply Exists.intro; refine ⟨?_, ?_⟩; (focus (first | (go_simp; done) | (go_simp; rfl))); (clear st; intro b6 w hb st; clear hb))
                | ((with_reducible refine wl_store ?_ (fun K hK => ?_)); rfl; refine owp_store rfl st ?_; apply Exists.intro; apply Exists.intro; refine ⟨?_, ?_, ?_⟩; (focus (go_simp; try rfl)); (focus (go_simp; try rfl)); (first | (with_reducible refine ⟨0, _, _, _, _, get0, rfl, rfl, ?_, ?_, ?_, ?_⟩) | (with_reducible refine ⟨1, _, _, _, _, get1, rfl, rfl, ?_, ?_, ?_, ?_⟩) | (with_reducible refine ⟨2, _, _, _, _, get2, rfl, rfl, ?_, ?_, ?_, ?_⟩) | (with_reducible refine ⟨3, _, _, _, _, get3, rfl, rfl, ?_, ?_, ?_, ?_⟩) | (with_reducible refine ⟨4, _, _, _, _, get4, rfl, rfl, ?_, ?_, ?_, ?_⟩) | (with_reducible refine ⟨5, _, _, _, _, get5, rfl, rfl, ?_, ?_, ?_, ?_⟩)); (kernel_rfl); (simp [Value.cells]); (rfl); (clear st; intro w st))); (try simp only [nsl, Value.cells, unB] at st); (try clear hc); have hc := st.facts; (try simp only [nfl, nft, Nat.reduceAdd] at hc))
          go_ret
          exact ⟨by rw [HF2.out]; rfl, st.ext0⟩
        | true =>
          go_wp2_with ((first
                | ((with_reducible refine wl_box ?_ (fun K hK => ?_)); rfl; refine owp_box (o := ⟨some 2, _, _, _, _, _⟩) rfl st ?_; apply Exists.intro; refine ⟨?_, ?_⟩; (focus (go_simp; try rfl)); (clear st; intro b2 w hb st; clear hb))
                | ((with_reducible refine wl_alloc ?_ (fun K hK => ?_)); rfl; refine owp_alloc (o := ⟨some 6, _, _, _, _, _⟩) rfl st ?_; apply Exists.intro; apply Exists.intro; refine ⟨?_, ?_⟩; (focus (first | (go_simp; done) | (go_simp; rfl))); (clear st; intro b6 w hb st; clear hb))
                | ((with_reducible refine wl_store ?_ (fun K hK => ?_)); rfl; refine owp_store rfl st ?_; apply Exists.intro; apply Exists.intro; refine ⟨?_, ?_, ?_⟩; (focus (go_simp; try rfl)); (focus (go_simp; try rfl)); (first | (with_reducible refine ⟨0, _, _, _, _, get0, rfl, rfl, ?_, ?_, ?_, ?_⟩) | (with_reducible refine ⟨1, _, _, _, _, get1, rfl, rfl, ?_, ?_, ?_, ?_⟩) | (with_reducible refine ⟨2, _, _, _, _, get2, rfl, rfl, ?_, ?_, ?_, ?_⟩) | (with_reducible refine ⟨3, _, _, _, _, get3, rfl, rfl, ?_, ?_, ?_, ?_⟩) | (with_reducible refine ⟨4, _, _, _, _, get4, rfl, rfl, ?_, ?_, ?_, ?_⟩) | (with_reducible refine ⟨5, _, _, _, _, get5, rfl, rfl, ?_, ?_, ?_, ?_⟩)); (kernel_rfl); (simp [Value.cells]); (rfl); (clear st; intro w st))); (try simp only [nsl, Value.cells, unB] at st); (try clear hc); have hc := st.facts; (try simp only [nfl, nft, Nat.reduceAdd] at hc))
          refine (HIC.out _ (st.oldFl (i := 0) get0 H.out)).mono ?_
          rintro en w ⟨rfl, hx⟩
          replace st := st.ext hx
          clear hx
          (try clear hc); have hc := st.facts; (try simp only [nfl, nft, Nat.reduceAdd] at hc)
          go_wp2_with ((first
                | ((with_reducible refine wl_box ?_ (fun K hK => ?_)); rfl; refine owp_box (o := ⟨some 2, _, _, _, _, _⟩) rfl st ?_; apply Exists.intro; refine ⟨?_, ?_⟩; (focus (go_simp; try rfl)); (clear st; intro b2 w hb st; clear hb))
                | ((with_reducible refine wl_alloc ?_ (fun K hK => ?_)); rfl; refine owp_alloc (o := ⟨some 6, _, _, _, _, _⟩) rfl st ?_; apply Exists.intro; apply Exists.intro; refine ⟨?_, ?_⟩; (focus (first | (go_simp; done) | (go_simp; rfl))); (clear st; intro b6 w hb st; clear hb))
                | ((with_reducible refine wl_store ?_ (fun K hK => ?_)); rfl; refine owp_store rfl st ?_; apply Exists.intro; apply Exists.intro; refine ⟨?_, ?_, ?_⟩; (focus (go_simp; try rfl)); (focus (go_simp; try rfl)); (first | (with_reducible refine ⟨0, _, _, _, _, get0, rfl, rfl, ?_, ?_, ?_, ?_⟩) | (with_reducible refine ⟨1, _, _, _, _, get1, rfl, rfl, ?_, ?_, ?_, ?_⟩) | (with_reducible refine ⟨2, _, _, _, _, get2, rfl, rfl, ?_, ?_, ?_, ?_⟩) | (with_reducible refine ⟨3, _, _, _, _, get3, rfl, rfl, ?_, ?_, ?_, ?_⟩) | (with_reducible refine ⟨4, _, _, _, _, get4, rfl, rfl, ?_, ?_, ?_, ?_⟩) | (with_reducible refine ⟨5, _, _, _, _, get5, rfl, rfl, ?_, ?_, ?_, ?_⟩)); (kernel_rfl); (simp [Value.cells]); (rfl); (clear st; intro w st))); (try simp only [nsl, Value.cells, unB] at st); (try clear hc); have hc := st.facts; (try simp only [nfl, nft, Nat.reduceAdd] at hc))
          go_ret
          exact ⟨by rw [HF2.out]; rfl, st.ext0⟩
set_option maxRecDepth 100000 in
set_option maxHeartbeats 8000000 in
theorem refFollows_any (x : StepT) (a : Option Addr) (n c : Nat) (l : List FactT) (W : World) (h : Fl W a n l) (hn : n ≤ 1000000) (hl : CLenS x.c) :
    Calls Tryz.prog 19 #[stV x, .slice a n c] W fun e w' => e = .returned (.bool (folB l x)) ∧ Ext W w' := by
  have H := Lib.hid h
  have HNL := Lib.hid h.1
  have HCR := Lib.hid (fun W => refCredRight_any x.c W hl.big)
  clear h hl
  have HNM := Lib.hid (fun W h => refNames_any a n c l W h hn)
  have HST := Lib.hid (fun fa fc W h h' => refStep_any a n c l x.c fa n fc (l.map FactT.w) x.f.w W h (by omega) h' (by omega))
  obtain ⟨r, hr⟩ : ∃ r, folB l x = r := ⟨_, rfl⟩
  rw [hr]
  have HR : Hid (r = (credR x.c && roleEq x.f.r x.c.h && stepB l (l.map FactT.w) x.c x.f.w)) := Lib.hid (by rw [← hr]; rfl)
  clear hr
  obtain ⟨cr, hcr⟩ : ∃ b, credR x.c = b := ⟨_, rfl⟩
  rw [hcr] at HR HCR
  obtain ⟨sb, hsb⟩ : ∃ b, stepB l (l.map FactT.w) x.c x.f.w = b := ⟨_, rfl⟩
  rw [hsb] at HR HST
  clear hcr hsb
  obtain ⟨ns, hns⟩ : ∃ ns, l.map FactT.w = ns := ⟨_, rfl⟩
  rw [hns] at HNM HST
  clear hns
  obtain ⟨⟨k, ⟨ho, hd⟩, nw, ⟨bo, bd⟩, ⟨co, cd⟩, we⟩, ⟨⟨ro, rd⟩, fw⟩⟩ := x
  simp only at HR HCR HST
  unfold cV at HCR HST
  have st := Own.startOld W
  unfold stV
  unfold S at *
  (try simp only [nsl, Value.cells, unB] at st)
  (try clear hc); have hc := st.facts; (try simp only [nfl, nft, Nat.reduceAdd] at hc)
  cases cr with
  | false =>
    have HF : Hid (r = false) := Lib.hid (by rw [HR.out]; rfl)
    go_enter Tryz.func19, Tryz.ntmps19
    go_wp2_with ((((with_reducible refine wl_box ?_ (fun K hK => ?_)); rfl; refine owp_box (o := ⟨some 2, _, _, _, _, _⟩) rfl st ?_; apply Exists.intro; refine ⟨?_, ?_⟩; (focus (go_simp; try rfl)); (clear st; intro b2 w hb st; clear hb))); (try simp only [nsl, Value.cells, unB] at st); (try clear hc); have hc := st.facts; (try simp only [nfl, nft, Nat.reduceAdd] at hc))
    refine Rg4.wp_region4 (Rel := Ext) #[0, 1, 3, 7, 15, 31, 63, 15, 143, 399, 1023, 2047, 4095, 8191, 8191, 24575, 8191, 73727, 8191, 270335, 794623, 2097151, 4194303, 8388607]
      [(2, .val (.bool false)), (17, ⟨fun v w => ∃ fa fc, v = .slice fa n fc ∧ Fl w fa n ns , fun _ _ _ hx ⟨fa, fc, h1, h2⟩ => ⟨fa, fc, h1, Arr.ext h2 hx⟩⟩)] [21] [1, 6, 9, 15, 20] (fun _ => True) [0, 1, 2, 3, 4, 5, 6, 7, 8, 9, 10, 11, 12, 13, 14, 15, 16, 17, 18, 19, 20, 21, 22, 23] (by kernel_rfl) (by kernel_rfl) (by kernel_rfl) (by kernel_rfl) Ext.refl (fun _ _ _ => Ext.trans) (show Rg4.PB _ by repeat (first | with_reducible exact Rg4.pb_body | with_reducible exact Rg4.pb_bodyD rfl | with_reducible refine Rg4.pb_then ?_ | with_reducible refine Rg4.pb_inBlock ?_ | with_reducible refine Rg4.pb_noGoto ?_ | with_reducible assumption)) (trivial) ?_
    replace st := st.drew
    change Rg4.wp4 _ _ _ _ _ _ _ _ _ (World.drew _) _ _
    generalize World.drew _ = w at st ⊢
    (try clear hc); have hc := st.facts; (try simp only [nfl, nft, Nat.reduceAdd] at hc)
    (refine Rg4.w4_any (Rg4.want_none rfl) rfl ?_; apply Exists.intro; refine ⟨fun w' => ?_, ?_⟩; (focus (first | (go_simp; done) | (go_simp; first | rfl | (rw [if_neg] <;> first | rfl | omega) | (rw [if_pos] <;> first | rfl | omega)))); (try simp only [Rg4.nrm]))
    (refine Rg4.w4_read (Rg4.want_none rfl) rfl rfl ?_; apply Exists.intro; refine ⟨fun w' hw' hcl' => ?_, ?_⟩; focus (have st' := st.ext hw'; have hc' := st'.facts; (try simp only [nfl, nft, Nat.reduceAdd] at hc'); (focus (first | (go_simp; done) | (go_simp; first | rfl | (rw [if_neg] <;> first | rfl | omega) | (rw [if_pos] <;> first | rfl | omega))))); (try simp only [Rg4.nrm]))
    refine Rg4.w4_some (Rg4.want_none rfl) rfl (fun w' hw' hcl' _ => ?_) ?_
    · refine Rg.relAt_call (by go_simp; exact ⟨rfl, rfl⟩) ?_
      refine (HCR.out _).mono ?_
      rintro en w'' ⟨rfl, hx⟩
      exact ⟨_, rfl, hx, trivial, rfl⟩
    rintro v ⟨_, _, _, rfl⟩
    (try simp only [Rg4.nrm])
    (refine Rg4.w4_any (Rg4.want_none rfl) rfl ?_; apply Exists.intro; refine ⟨fun w' => ?_, ?_⟩; (focus (first | (go_simp; done) | (go_simp; first | rfl | (rw [if_neg] <;> first | rfl | omega) | (rw [if_pos] <;> first | rfl | omega)))); (try simp only [Rg4.nrm]))
    iterate 2 (first | (refine Rg4.w4_any (Rg4.wt rfl rfl rfl) rfl ?_; apply Exists.intro; refine ⟨fun w' => ?_, ?_⟩; (focus (first | (go_simp; done) | (go_simp; first | rfl | (rw [if_neg] <;> first | rfl | omega) | (rw [if_pos] <;> first | rfl | omega)))); (try simp only [Rg4.nrm])) | (refine Rg4.w4_skip (Rg4.uw rfl rfl rfl) ?_; (try simp only [Rg4.nrm])) | (refine Rg4.w4_skip (Rg4.un rfl rfl rfl) ?_; (try simp only [Rg4.nrm])))
    (first | (refine Rg4.w4_read (Rg4.wt rfl rfl rfl) rfl rfl ?_; apply Exists.intro; refine ⟨fun w' hw' hcl' => ?_, ?_⟩; focus (have st' := st.ext hw'; have hc' := st'.facts; (try simp only [nfl, nft, Nat.reduceAdd] at hc'); (focus (first | (go_simp; done) | (go_simp; first | rfl | (rw [if_neg] <;> first | rfl | omega) | (rw [if_pos] <;> first | rfl | omega))))); (try simp only [Rg4.nrm])) | (refine Rg4.w4_skip (Rg4.uw rfl rfl rfl) ?_; (try simp only [Rg4.nrm])) | (refine Rg4.w4_skip (Rg4.un rfl rfl rfl) ?_; (try simp only [Rg4.nrm])))
    iterate 2 (first | (refine Rg4.w4_any (Rg4.wt rfl rfl rfl) rfl ?_; apply Exists.intro; refine ⟨fun w' => ?_, ?_⟩; (focus (first | (go_simp; done) | (go_simp; first | rfl | (rw [if_neg] <;> first | rfl | omega) | (rw [if_pos] <;> first | rfl | omega)))); (try simp only [Rg4.nrm])) | (refine Rg4.w4_skip (Rg4.uw rfl rfl rfl) ?_; (try simp only [Rg4.nrm])) | (refine Rg4.w4_skip (Rg4.un rfl rfl rfl) ?_; (try simp only [Rg4.nrm])))
    (first | (refine Rg4.w4_read (Rg4.wt rfl rfl rfl) rfl rfl ?_; apply Exists.intro; refine ⟨fun w' hw' hcl' => ?_, ?_⟩; focus (have st' := st.ext hw'; have hc' := st'.facts; (try simp only [nfl, nft, Nat.reduceAdd] at hc'); (focus (first | (go_simp; done) | (go_simp; first | rfl | (rw [if_neg] <;> first | rfl | omega) | (rw [if_pos] <;> first | rfl | omega))))); (try simp only [Rg4.nrm])) | (refine Rg4.w4_skip (Rg4.uw rfl rfl rfl) ?_; (try simp only [Rg4.nrm])) | (refine Rg4.w4_skip (Rg4.un rfl rfl rfl) ?_; (try simp only [Rg4.nrm])))
    (first | (refine Rg4.w4_any (Rg4.wt rfl rfl rfl) rfl ?_; apply Exists.intro; refine ⟨fun w' => ?_, ?_⟩; (focus (first | (go_simp; done) | (go_simp; first | rfl | (rw [if_neg] <;> first | rfl | omega) | (rw [if_pos] <;> first | rfl | omega)))); (try simp only [Rg4.nrm])) | (refine Rg4.w4_skip (Rg4.uw rfl rfl rfl) ?_; (try simp only [Rg4.nrm])) | (refine Rg4.w4_skip (Rg4.un rfl rfl rfl) ?_; (try simp only [Rg4.nrm])))
    iterate 2 (refine Rg4.w4_any (Rg4.want_none rfl) rfl ?_; apply Exists.intro; refine ⟨fun w' => ?_, ?_⟩; (focus (first | (go_simp; done) | (go_simp; first | rfl | (rw [if_neg] <;> first | rfl | omega) | (rw [if_pos] <;> first | rfl | omega)))); (try simp only [Rg4.nrm]))
    iterate 2 (first | (refine Rg4.w4_any (Rg4.wt rfl rfl rfl) rfl ?_; apply Exists.intro; refine ⟨fun w' => ?_, ?_⟩; (focus (first | (go_simp; done) | (go_simp; first | rfl | (rw [if_neg] <;> first | rfl | omega) | (rw [if_pos] <;> first | rfl | omega)))); (try simp only [Rg4.nrm])) | (refine Rg4.w4_skip (Rg4.uw rfl rfl rfl) ?_; (try simp only [Rg4.nrm])) | (refine Rg4.w4_skip (Rg4.un rfl rfl rfl) ?_; (try simp only [Rg4.nrm])))
    (first | (refine Rg4.w4_read (Rg4.wt rfl rfl rfl) rfl rfl ?_; apply Exists.intro; refine ⟨fun w' hw' hcl' => ?_, ?_⟩; focus (have st' := st.ext hw'; have hc' := st'.facts; (try simp only [nfl, nft, Nat.reduceAdd] at hc'); (focus (first | (go_simp; done) | (go_simp; first | rfl | (rw [if_neg] <;> first | rfl | omega) | (rw [if_pos] <;> first | rfl | omega))))); (try simp only [Rg4.nrm])) | (refine Rg4.w4_skip (Rg4.uw rfl rfl rfl) ?_; (try simp only [Rg4.nrm])) | (refine Rg4.w4_skip (Rg4.un rfl rfl rfl) ?_; (try simp only [Rg4.nrm])))
    (first | (refine Rg4.w4_any (Rg4.wt rfl rfl rfl) rfl ?_; apply Exists.intro; refine ⟨fun w' => ?_, ?_⟩; (focus (first | (go_simp; done) | (go_simp; first | rfl | (rw [if_neg] <;> first | rfl | omega) | (rw [if_pos] <;> first | rfl | omega)))); (try simp only [Rg4.nrm])) | (refine Rg4.w4_skip (Rg4.uw rfl rfl rfl) ?_; (try simp only [Rg4.nrm])) | (refine Rg4.w4_skip (Rg4.un rfl rfl rfl) ?_; (try simp only [Rg4.nrm])))
    first | refine Rg4.w4_skip (Rg4.uw rfl rfl rfl) ?_ | refine Rg4.w4_skip (Rg4.un rfl rfl rfl) ?_
    (try simp only [Rg4.nrm])
    iterate 2 (first | (refine Rg4.w4_any (Rg4.wt rfl rfl rfl) rfl ?_; apply Exists.intro; refine ⟨fun w' => ?_, ?_⟩; (focus (first | (go_simp; done) | (go_simp; first | rfl | (rw [if_neg] <;> first | rfl | omega) | (rw [if_pos] <;> first | rfl | omega)))); (try simp only [Rg4.nrm])) | (refine Rg4.w4_skip (Rg4.uw rfl rfl rfl) ?_; (try simp only [Rg4.nrm])) | (refine Rg4.w4_skip (Rg4.un rfl rfl rfl) ?_; (try simp only [Rg4.nrm])))
    (first | (refine Rg4.w4_read (Rg4.wt rfl rfl rfl) rfl rfl ?_; apply Exists.intro; refine ⟨fun w' hw' hcl' => ?_, ?_⟩; focus (have st' := st.ext hw'; have hc' := st'.facts; (try simp only [nfl, nft, Nat.reduceAdd] at hc'); (focus (first | (go_simp; done) | (go_simp; first | rfl | (rw [if_neg] <;> first | rfl | omega) | (rw [if_pos] <;> first | rfl | omega))))); (try simp only [Rg4.nrm])) | (refine Rg4.w4_skip (Rg4.uw rfl rfl rfl) ?_; (try simp only [Rg4.nrm])) | (refine Rg4.w4_skip (Rg4.un rfl rfl rfl) ?_; (try simp only [Rg4.nrm])))
    first | refine Rg4.w4_skip (Rg4.uw rfl rfl rfl) ?_ | refine Rg4.w4_skip (Rg4.un rfl rfl rfl) ?_
    (try simp only [Rg4.nrm])
    iterate 2 (refine Rg4.w4_any (Rg4.want_none rfl) rfl ?_; apply Exists.intro; refine ⟨fun w' => ?_, ?_⟩; (focus (first | (go_simp; done) | (go_simp; first | rfl | (rw [if_neg] <;> first | rfl | omega) | (rw [if_pos] <;> first | rfl | omega)))); (try simp only [Rg4.nrm]))
    refine Rg4.w4_nil (fun w' hw' hcl' _ => ?_); replace st := st.ext hw'; clear hw' hcl'; (try clear hc); have hc := st.facts; (try simp only [nfl, nft, Nat.reduceAdd] at hc)
    go_wp2_with ((((with_reducible refine wl_box ?_ (fun K hK => ?_)); rfl; refine owp_box (o := ⟨some 2, _, _, _, _, _⟩) rfl st ?_; apply Exists.intro; refine ⟨?_, ?_⟩; (focus (go_simp; try rfl)); (clear st; intro b2 w hb st; clear hb))); (try simp only [nsl, Value.cells, unB] at st); (try clear hc); have hc := st.facts; (try simp only [nfl, nft, Nat.reduceAdd] at hc))
    go_ret
    exact ⟨by rw [HF.out]; rfl, st.ext0⟩
  | true =>
    cases hre : roleEq (ro, rd) (ho, hd) with
    | false =>
      have HF : Hid (r = false) := Lib.hid (by rw [HR.out, hre]; rfl)
      go_enter Tryz.func19, Tryz.ntmps19
      go_wp2_with ((((with_reducible refine wl_box ?_ (fun K hK => ?_)); rfl; refine owp_box (o := ⟨some 2, _, _, _, _, _⟩) rfl st ?_; apply Exists.intro; refine ⟨?_, ?_⟩; (focus (go_simp; try rfl)); (clear st; intro b2 w hb st; clear hb))); (try simp only [nsl, Value.cells, unB] at st); (try clear hc); have hc := st.facts; (try simp only [nfl, nft, Nat.reduceAdd] at hc))
      refine Rg4.wp_region4 (Rel := Ext) #[0, 1, 3, 7, 15, 31, 63, 15, 143, 399, 1023, 2047, 4095, 8191, 8191, 24575, 8191, 73727, 8191, 270335, 794623, 2097151, 4194303, 8388607]
        [(2, .val (.bool true)), (17, ⟨fun v w => ∃ fa fc, v = .slice fa n fc ∧ Fl w fa n ns , fun _ _ _ hx ⟨fa, fc, h1, h2⟩ => ⟨fa, fc, h1, Arr.ext h2 hx⟩⟩)] [21] [1, 6, 9, 15, 20] (fun _ => True) [0, 1, 2, 3, 4, 5, 6, 7, 8, 9, 10, 11, 12, 13, 14, 15, 16, 17, 18, 19, 20, 21, 22, 23] (by kernel_rfl) (by kernel_rfl) (by kernel_rfl) (by kernel_rfl) Ext.refl (fun _ _ _ => Ext.trans) (show Rg4.PB _ by repeat (first | with_reducible exact Rg4.pb_body | with_reducible exact Rg4.pb_bodyD rfl | with_reducible refine Rg4.pb_then ?_ | with_reducible refine Rg4.pb_inBlock ?_ | with_reducible refine Rg4.pb_noGoto ?_ | with_reducible assumption)) (trivial) ?_
      replace st := st.drew
      change Rg4.wp4 _ _ _ _ _ _ _ _ _ (World.drew _) _ _
      generalize World.drew _ = w at st ⊢
      (try clear hc); have hc := st.facts; (try simp only [nfl, nft, Nat.reduceAdd] at hc)
      (refine Rg4.w4_any (Rg4.want_none rfl) rfl ?_; apply Exists.intro; refine ⟨fun w' => ?_, ?_⟩; (focus (first | (go_simp; done) | (go_simp; first | rfl | (rw [if_neg] <;> first | rfl | omega) | (rw [if_pos] <;> first | rfl | omega)))); (try simp only [Rg4.nrm]))
      (refine Rg4.w4_read (Rg4.want_none rfl) rfl rfl ?_; apply Exists.intro; refine ⟨fun w' hw' hcl' => ?_, ?_⟩; focus (have st' := st.ext hw'; have hc' := st'.facts; (try simp only [nfl, nft, Nat.reduceAdd] at hc'); (focus (first | (go_simp; done) | (go_simp; first | rfl | (rw [if_neg] <;> first | rfl | omega) | (rw [if_pos] <;> first | rfl | omega))))); (try simp only [Rg4.nrm]))
      refine Rg4.w4_some (Rg4.want_none rfl) rfl (fun w' hw' hcl' _ => ?_) ?_
      · refine Rg.relAt_call (by go_simp; exact ⟨rfl, rfl⟩) ?_
        refine (HCR.out _).mono ?_
        rintro en w'' ⟨rfl, hx⟩
        exact ⟨_, rfl, hx, trivial, rfl⟩
      rintro v ⟨_, _, _, rfl⟩
      (try simp only [Rg4.nrm])
      (refine Rg4.w4_any (Rg4.want_none rfl) rfl ?_; apply Exists.intro; refine ⟨fun w' => ?_, ?_⟩; (focus (first | (go_simp; done) | (go_simp; first | rfl | (rw [if_neg] <;> first | rfl | omega) | (rw [if_pos] <;> first | rfl | omega)))); (try simp only [Rg4.nrm]))
      iterate 2 (first | (refine Rg4.w4_any (Rg4.wt rfl rfl rfl) rfl ?_; apply Exists.intro; refine ⟨fun w' => ?_, ?_⟩; (focus (first | (go_simp; done) | (go_simp; first | rfl | (rw [if_neg] <;> first | rfl | omega) | (rw [if_pos] <;> first | rfl | omega)))); (try simp only [Rg4.nrm])) | (refine Rg4.w4_skip (Rg4.uw rfl rfl rfl) ?_; (try simp only [Rg4.nrm])) | (refine Rg4.w4_skip (Rg4.un rfl rfl rfl) ?_; (try simp only [Rg4.nrm])))
      (first | (refine Rg4.w4_read (Rg4.wt rfl rfl rfl) rfl rfl ?_; apply Exists.intro; refine ⟨fun w' hw' hcl' => ?_, ?_⟩; focus (have st' := st.ext hw'; have hc' := st'.facts; (try simp only [nfl, nft, Nat.reduceAdd] at hc'); (focus (first | (go_simp; done) | (go_simp; first | rfl | (rw [if_neg] <;> first | rfl | omega) | (rw [if_pos] <;> first | rfl | omega))))); (try simp only [Rg4.nrm])) | (refine Rg4.w4_skip (Rg4.uw rfl rfl rfl) ?_; (try simp only [Rg4.nrm])) | (refine Rg4.w4_skip (Rg4.un rfl rfl rfl) ?_; (try simp only [Rg4.nrm])))
      iterate 2 (first | (refine Rg4.w4_any (Rg4.wt rfl rfl rfl) rfl ?_; apply Exists.intro; refine ⟨fun w' => ?_, ?_⟩; (focus (first | (go_simp; done) | (go_simp; first | rfl | (rw [if_neg] <;> first | rfl | omega) | (rw [if_pos] <;> first | rfl | omega)))); (try simp only [Rg4.nrm])) | (refine Rg4.w4_skip (Rg4.uw rfl rfl rfl) ?_; (try simp only [Rg4.nrm])) | (refine Rg4.w4_skip (Rg4.un rfl rfl rfl) ?_; (try simp only [Rg4.nrm])))
      (first | (refine Rg4.w4_read (Rg4.wt rfl rfl rfl) rfl rfl ?_; apply Exists.intro; refine ⟨fun w' hw' hcl' => ?_, ?_⟩; focus (have st' := st.ext hw'; have hc' := st'.facts; (try simp only [nfl, nft, Nat.reduceAdd] at hc'); (focus (first | (go_simp; done) | (go_simp; first | rfl | (rw [if_neg] <;> first | rfl | omega) | (rw [if_pos] <;> first | rfl | omega))))); (try simp only [Rg4.nrm])) | (refine Rg4.w4_skip (Rg4.uw rfl rfl rfl) ?_; (try simp only [Rg4.nrm])) | (refine Rg4.w4_skip (Rg4.un rfl rfl rfl) ?_; (try simp only [Rg4.nrm])))
      (first | (refine Rg4.w4_any (Rg4.wt rfl rfl rfl) rfl ?_; apply Exists.intro; refine ⟨fun w' => ?_, ?_⟩; (focus (first | (go_simp; done) | (go_simp; first | rfl | (rw [if_neg] <;> first | rfl | omega) | (rw [if_pos] <;> first | rfl | omega)))); (try simp only [Rg4.nrm])) | (refine Rg4.w4_skip (Rg4.uw rfl rfl rfl) ?_; (try simp only [Rg4.nrm])) | (refine Rg4.w4_skip (Rg4.un rfl rfl rfl) ?_; (try simp only [Rg4.nrm])))
      iterate 2 (refine Rg4.w4_any (Rg4.want_none rfl) rfl ?_; apply Exists.intro; refine ⟨fun w' => ?_, ?_⟩; (focus (first | (go_simp; done) | (go_simp; first | rfl | (rw [if_neg] <;> first | rfl | omega) | (rw [if_pos] <;> first | rfl | omega)))); (try simp only [Rg4.nrm]))
      iterate 2 (first | (refine Rg4.w4_any (Rg4.wt rfl rfl rfl) rfl ?_; apply Exists.intro; refine ⟨fun w' => ?_, ?_⟩; (focus (first | (go_simp; done) | (go_simp; first | rfl | (rw [if_neg] <;> first | rfl | omega) | (rw [if_pos] <;> first | rfl | omega)))); (try simp only [Rg4.nrm])) | (refine Rg4.w4_skip (Rg4.uw rfl rfl rfl) ?_; (try simp only [Rg4.nrm])) | (refine Rg4.w4_skip (Rg4.un rfl rfl rfl) ?_; (try simp only [Rg4.nrm])))
      (first | (refine Rg4.w4_read (Rg4.wt rfl rfl rfl) rfl rfl ?_; apply Exists.intro; refine ⟨fun w' hw' hcl' => ?_, ?_⟩; focus (have st' := st.ext hw'; have hc' := st'.facts; (try simp only [nfl, nft, Nat.reduceAdd] at hc'); (focus (first | (go_simp; done) | (go_simp; first | rfl | (rw [if_neg] <;> first | rfl | omega) | (rw [if_pos] <;> first | rfl | omega))))); (try simp only [Rg4.nrm])) | (refine Rg4.w4_skip (Rg4.uw rfl rfl rfl) ?_; (try simp only [Rg4.nrm])) | (refine Rg4.w4_skip (Rg4.un rfl rfl rfl) ?_; (try simp only [Rg4.nrm])))
      (first | (refine Rg4.w4_any (Rg4.wt rfl rfl rfl) rfl ?_; apply Exists.intro; refine ⟨fun w' => ?_, ?_⟩; (focus (first | (go_simp; done) | (go_simp; first | rfl | (rw [if_neg] <;> first | rfl | omega) | (rw [if_pos] <;> first | rfl | omega)))); (try simp only [Rg4.nrm])) | (refine Rg4.w4_skip (Rg4.uw rfl rfl rfl) ?_; (try simp only [Rg4.nrm])) | (refine Rg4.w4_skip (Rg4.un rfl rfl rfl) ?_; (try simp only [Rg4.nrm])))
      first | refine Rg4.w4_skip (Rg4.uw rfl rfl rfl) ?_ | refine Rg4.w4_skip (Rg4.un rfl rfl rfl) ?_
      (try simp only [Rg4.nrm])
      iterate 2 (first | (refine Rg4.w4_any (Rg4.wt rfl rfl rfl) rfl ?_; apply Exists.intro; refine ⟨fun w' => ?_, ?_⟩; (focus (first | (go_simp; done) | (go_simp; first | rfl | (rw [if_neg] <;> first | rfl | omega) | (rw [if_pos] <;> first | rfl | omega)))); (try simp only [Rg4.nrm])) | (refine Rg4.w4_skip (Rg4.uw rfl rfl rfl) ?_; (try simp only [Rg4.nrm])) | (refine Rg4.w4_skip (Rg4.un rfl rfl rfl) ?_; (try simp only [Rg4.nrm])))
      (first | (refine Rg4.w4_read (Rg4.wt rfl rfl rfl) rfl rfl ?_; apply Exists.intro; refine ⟨fun w' hw' hcl' => ?_, ?_⟩; focus (have st' := st.ext hw'; have hc' := st'.facts; (try simp only [nfl, nft, Nat.reduceAdd] at hc'); (focus (first | (go_simp; done) | (go_simp; first | rfl | (rw [if_neg] <;> first | rfl | omega) | (rw [if_pos] <;> first | rfl | omega))))); (try simp only [Rg4.nrm])) | (refine Rg4.w4_skip (Rg4.uw rfl rfl rfl) ?_; (try simp only [Rg4.nrm])) | (refine Rg4.w4_skip (Rg4.un rfl rfl rfl) ?_; (try simp only [Rg4.nrm])))
      first | refine Rg4.w4_skip (Rg4.uw rfl rfl rfl) ?_ | refine Rg4.w4_skip (Rg4.un rfl rfl rfl) ?_
      (try simp only [Rg4.nrm])
      iterate 2 (refine Rg4.w4_any (Rg4.want_none rfl) rfl ?_; apply Exists.intro; refine ⟨fun w' => ?_, ?_⟩; (focus (first | (go_simp; done) | (go_simp; first | rfl | (rw [if_neg] <;> first | rfl | omega) | (rw [if_pos] <;> first | rfl | omega)))); (try simp only [Rg4.nrm]))
      refine Rg4.w4_nil (fun w' hw' hcl' _ => ?_); replace st := st.ext hw'; clear hw' hcl'; (try clear hc); have hc := st.facts; (try simp only [nfl, nft, Nat.reduceAdd] at hc)
      go_wp2_with ((((with_reducible refine wl_box ?_ (fun K hK => ?_)); rfl; refine owp_box (o := ⟨some 2, _, _, _, _, _⟩) rfl st ?_; apply Exists.intro; refine ⟨?_, ?_⟩; (focus (go_simp; try rfl)); (clear st; intro b2 w hb st; clear hb))); (try simp only [nsl, Value.cells, unB] at st); (try clear hc); have hc := st.facts; (try simp only [nfl, nft, Nat.reduceAdd] at hc))
      go_ret
      exact ⟨by rw [HF.out]; rfl, st.ext0⟩
    | true =>
      have HF : Hid (r = sb) := Lib.hid (by rw [HR.out, hre]; rfl)
      go_enter Tryz.func19, Tryz.ntmps19
      go_wp2_with ((((with_reducible refine wl_box ?_ (fun K hK => ?_)); rfl; refine owp_box (o := ⟨some 2, _, _, _, _, _⟩) rfl st ?_; apply Exists.intro; refine ⟨?_, ?_⟩; (focus (go_simp; try rfl)); (clear st; intro b2 w hb st; clear hb))); (try simp only [nsl, Value.cells, unB] at st); (try clear hc); have hc := st.facts; (try simp only [nfl, nft, Nat.reduceAdd] at hc))
      refine Rg4.wp_region4 (Rel := Ext) #[0, 1, 3, 7, 15, 31, 63, 15, 143, 399, 1023, 2047, 4095, 8191, 8191, 24575, 8191, 73727, 8191, 270335, 794623, 2097151, 4194303, 8388607]
        [(2, .val (.bool true)), (17, ⟨fun v w => ∃ fa fc, v = .slice fa n fc ∧ Fl w fa n ns , fun _ _ _ hx ⟨fa, fc, h1, h2⟩ => ⟨fa, fc, h1, Arr.ext h2 hx⟩⟩)] [21] [1, 6, 9, 15, 20] (fun _ => True) [0, 1, 2, 3, 4, 5, 6, 7, 8, 9, 10, 11, 12, 13, 14, 15, 16, 17, 18, 19, 20, 21, 22, 23] (by kernel_rfl) (by kernel_rfl) (by kernel_rfl) (by kernel_rfl) Ext.refl (fun _ _ _ => Ext.trans) (show Rg4.PB _ by repeat (first | with_reducible exact Rg4.pb_body | with_reducible exact Rg4.pb_bodyD rfl | with_reducible refine Rg4.pb_then ?_ | with_reducible refine Rg4.pb_inBlock ?_ | with_reducible refine Rg4.pb_noGoto ?_ | with_reducible assumption)) (trivial) ?_
      replace st := st.drew
      change Rg4.wp4 _ _ _ _ _ _ _ _ _ (World.drew _) _ _
      generalize World.drew _ = w at st ⊢
      (try clear hc); have hc := st.facts; (try simp only [nfl, nft, Nat.reduceAdd] at hc)
      (refine Rg4.w4_any (Rg4.want_none rfl) rfl ?_; apply Exists.intro; refine ⟨fun w' => ?_, ?_⟩; (focus (first | (go_simp; done) | (go_simp; first | rfl | (rw [if_neg] <;> first | rfl | omega) | (rw [if_pos] <;> first | rfl | omega)))); (try simp only [Rg4.nrm]))
      (refine Rg4.w4_read (Rg4.want_none rfl) rfl rfl ?_; apply Exists.intro; refine ⟨fun w' hw' hcl' => ?_, ?_⟩; focus (have st' := st.ext hw'; have hc' := st'.facts; (try simp only [nfl, nft, Nat.reduceAdd] at hc'); (focus (first | (go_simp; done) | (go_simp; first | rfl | (rw [if_neg] <;> first | rfl | omega) | (rw [if_pos] <;> first | rfl | omega))))); (try simp only [Rg4.nrm]))
      refine Rg4.w4_some (Rg4.want_none rfl) rfl (fun w' hw' hcl' _ => ?_) ?_
      · refine Rg.relAt_call (by go_simp; exact ⟨rfl, rfl⟩) ?_
        refine (HCR.out _).mono ?_
        rintro en w'' ⟨rfl, hx⟩
        exact ⟨_, rfl, hx, trivial, rfl⟩
      rintro v ⟨_, _, _, rfl⟩
      (try simp only [Rg4.nrm])
      (refine Rg4.w4_any (Rg4.want_none rfl) rfl ?_; apply Exists.intro; refine ⟨fun w' => ?_, ?_⟩; (focus (first | (go_simp; done) | (go_simp; first | rfl | (rw [if_neg] <;> first | rfl | omega) | (rw [if_pos] <;> first | rfl | omega)))); (try simp only [Rg4.nrm]))
      iterate 2 (first | (refine Rg4.w4_any (Rg4.wt rfl rfl rfl) rfl ?_; apply Exists.intro; refine ⟨fun w' => ?_, ?_⟩; (focus (first | (go_simp; done) | (go_simp; first | rfl | (rw [if_neg] <;> first | rfl | omega) | (rw [if_pos] <;> first | rfl | omega)))); (try simp only [Rg4.nrm])) | (refine Rg4.w4_skip (Rg4.uw rfl rfl rfl) ?_; (try simp only [Rg4.nrm])) | (refine Rg4.w4_skip (Rg4.un rfl rfl rfl) ?_; (try simp only [Rg4.nrm])))
      (first | (refine Rg4.w4_read (Rg4.wt rfl rfl rfl) rfl rfl ?_; apply Exists.intro; refine ⟨fun w' hw' hcl' => ?_, ?_⟩; focus (have st' := st.ext hw'; have hc' := st'.facts; (try simp only [nfl, nft, Nat.reduceAdd] at hc'); (focus (first | (go_simp; done) | (go_simp; first | rfl | (rw [if_neg] <;> first | rfl | omega) | (rw [if_pos] <;> first | rfl | omega))))); (try simp only [Rg4.nrm])) | (refine Rg4.w4_skip (Rg4.uw rfl rfl rfl) ?_; (try simp only [Rg4.nrm])) | (refine Rg4.w4_skip (Rg4.un rfl rfl rfl) ?_; (try simp only [Rg4.nrm])))
      iterate 2 (first | (refine Rg4.w4_any (Rg4.wt rfl rfl rfl) rfl ?_; apply Exists.intro; refine ⟨fun w' => ?_, ?_⟩; (focus (first | (go_simp; done) | (go_simp; first | rfl | (rw [if_neg] <;> first | rfl | omega) | (rw [if_pos] <;> first | rfl | omega)))); (try simp only [Rg4.nrm])) | (refine Rg4.w4_skip (Rg4.uw rfl rfl rfl) ?_; (try simp only [Rg4.nrm])) | (refine Rg4.w4_skip (Rg4.un rfl rfl rfl) ?_; (try simp only [Rg4.nrm])))
      (first | (refine Rg4.w4_read (Rg4.wt rfl rfl rfl) rfl rfl ?_; apply Exists.intro; refine ⟨fun w' hw' hcl' => ?_, ?_⟩; focus (have st' := st.ext hw'; have hc' := st'.facts; (try simp only [nfl, nft, Nat.reduceAdd] at hc'); (focus (first | (go_simp; done) | (go_simp; first | rfl | (rw [if_neg] <;> first | rfl | omega) | (rw [if_pos] <;> first | rfl | omega))))); (try simp only [Rg4.nrm])) | (refine Rg4.w4_skip (Rg4.uw rfl rfl rfl) ?_; (try simp only [Rg4.nrm])) | (refine Rg4.w4_skip (Rg4.un rfl rfl rfl) ?_; (try simp only [Rg4.nrm])))
      (first | (refine Rg4.w4_any (Rg4.wt rfl rfl rfl) rfl ?_; apply Exists.intro; refine ⟨fun w' => ?_, ?_⟩; (focus (first | (go_simp; done) | (go_simp; first | rfl | (rw [if_neg] <;> first | rfl | omega) | (rw [if_pos] <;> first | rfl | omega)))); (try simp only [Rg4.nrm])) | (refine Rg4.w4_skip (Rg4.uw rfl rfl rfl) ?_; (try simp only [Rg4.nrm])) | (refine Rg4.w4_skip (Rg4.un rfl rfl rfl) ?_; (try simp only [Rg4.nrm])))
      iterate 2 (refine Rg4.w4_any (Rg4.want_none rfl) rfl ?_; apply Exists.intro; refine ⟨fun w' => ?_, ?_⟩; (focus (first | (go_simp; done) | (go_simp; first | rfl | (rw [if_neg] <;> first | rfl | omega) | (rw [if_pos] <;> first | rfl | omega)))); (try simp only [Rg4.nrm]))
      iterate 2 (first | (refine Rg4.w4_any (Rg4.wt rfl rfl rfl) rfl ?_; apply Exists.intro; refine ⟨fun w' => ?_, ?_⟩; (focus (first | (go_simp; done) | (go_simp; first | rfl | (rw [if_neg] <;> first | rfl | omega) | (rw [if_pos] <;> first | rfl | omega)))); (try simp only [Rg4.nrm])) | (refine Rg4.w4_skip (Rg4.uw rfl rfl rfl) ?_; (try simp only [Rg4.nrm])) | (refine Rg4.w4_skip (Rg4.un rfl rfl rfl) ?_; (try simp only [Rg4.nrm])))
      (first | (refine Rg4.w4_read (Rg4.wt rfl rfl rfl) rfl rfl ?_; apply Exists.intro; refine ⟨fun w' hw' hcl' => ?_, ?_⟩; focus (have st' := st.ext hw'; have hc' := st'.facts; (try simp only [nfl, nft, Nat.reduceAdd] at hc'); (focus (first | (go_simp; done) | (go_simp; first | rfl | (rw [if_neg] <;> first | rfl | omega) | (rw [if_pos] <;> first | rfl | omega))))); (try simp only [Rg4.nrm])) | (refine Rg4.w4_skip (Rg4.uw rfl rfl rfl) ?_; (try simp only [Rg4.nrm])) | (refine Rg4.w4_skip (Rg4.un rfl rfl rfl) ?_; (try simp only [Rg4.nrm])))
      (first | (refine Rg4.w4_any (Rg4.wt rfl rfl rfl) rfl ?_; apply Exists.intro; refine ⟨fun w' => ?_, ?_⟩; (focus (first | (go_simp; done) | (go_simp; first | rfl | (rw [if_neg] <;> first | rfl | omega) | (rw [if_pos] <;> first | rfl | omega)))); (try simp only [Rg4.nrm])) | (refine Rg4.w4_skip (Rg4.uw rfl rfl rfl) ?_; (try simp only [Rg4.nrm])) | (refine Rg4.w4_skip (Rg4.un rfl rfl rfl) ?_; (try simp only [Rg4.nrm])))
      refine Rg4.w4_some (Rg4.want_of 12 17 true rfl rfl rfl) rfl (fun w' hw' hcl' _ => ?_) ?_
      · refine Rg.relAt_call (by go_simp; exact ⟨rfl, rfl⟩) ?_
        have st' := st.ext hw'
        refine (HNM.out _ (st'.oldFl (i := 0) get0 H.out)).mono ?_
        rintro en w'' ⟨fa, fc, rfl, hfr⟩
        exact ⟨_, rfl, hfr.ext, trivial, fa, fc, rfl, (FreshI.fl (α := List UInt8) (E := 9) hfr).2⟩
      rintro v ⟨_, _, _, fa9, fc9, rfl, _⟩
      (try simp only [Rg4.nrm])
      iterate 2 (first | (refine Rg4.w4_any (Rg4.wt rfl rfl rfl) rfl ?_; apply Exists.intro; refine ⟨fun w' => ?_, ?_⟩; (focus (first | (go_simp; done) | (go_simp; first | rfl | (rw [if_neg] <;> first | rfl | omega) | (rw [if_pos] <;> first | rfl | omega)))); (try simp only [Rg4.nrm])) | (refine Rg4.w4_skip (Rg4.uw rfl rfl rfl) ?_; (try simp only [Rg4.nrm])) | (refine Rg4.w4_skip (Rg4.un rfl rfl rfl) ?_; (try simp only [Rg4.nrm])))
      (first | (refine Rg4.w4_read (Rg4.wt rfl rfl rfl) rfl rfl ?_; apply Exists.intro; refine ⟨fun w' hw' hcl' => ?_, ?_⟩; focus (have st' := st.ext hw'; have hc' := st'.facts; (try simp only [nfl, nft, Nat.reduceAdd] at hc'); (focus (first | (go_simp; done) | (go_simp; first | rfl | (rw [if_neg] <;> first | rfl | omega) | (rw [if_pos] <;> first | rfl | omega))))); (try simp only [Rg4.nrm])) | (refine Rg4.w4_skip (Rg4.uw rfl rfl rfl) ?_; (try simp only [Rg4.nrm])) | (refine Rg4.w4_skip (Rg4.un rfl rfl rfl) ?_; (try simp only [Rg4.nrm])))
      refine Rg4.w4_bar (Rg4.want_of 12 17 true rfl rfl rfl) rfl (fun w' hw' hcl hF K hK => ?_)
      obtain ⟨fa, fc, hv, hfl⟩ := (hF 17).2 rfl
      cases hv
      replace st := st.ext hw'
      clear hF hcl hw'
      (try simp only [nsl, Value.cells, unB] at st)
      (try clear hc); have hc := st.facts; (try simp only [nfl, nft, Nat.reduceAdd] at hc)
      go_wp2_with fail
      refine (HST.out _ _ _ (st.oldFl (i := 0) get0 H.out) hfl).mono ?_
      rintro en w ⟨rfl, hx⟩
      replace st := st.ext hx
      clear hx
      (try clear hc); have hc := st.facts; (try simp only [nfl, nft, Nat.reduceAdd] at hc)
      clear hfl
      refine hK _ _ ⟨trivial, ?_⟩
      clear hK
      (try simp only [Rg4.nrm])
      iterate 2 (refine Rg4.w4_any (Rg4.want_none rfl) rfl ?_; apply Exists.intro; refine ⟨fun w' => ?_, ?_⟩; (focus (first | (go_simp; done) | (go_simp; first | rfl | (rw [if_neg] <;> first | rfl | omega) | (rw [if_pos] <;> first | rfl | omega)))); (try simp only [Rg4.nrm]))
      refine Rg4.w4_nil (fun w' hw' hcl' _ => ?_); replace st := st.ext hw'; clear hw' hcl'; (try clear hc); have hc := st.facts; (try simp only [nfl, nft, Nat.reduceAdd] at hc)
      go_wp2_with ((((with_reducible refine wl_box ?_ (fun K hK => ?_)); rfl; refine owp_box (o := ⟨some 2, _, _, _, _, _⟩) rfl st ?_; apply Exists.intro; refine ⟨?_, ?_⟩; (focus (go_simp; try rfl)); (clear st; intro b2 w hb st; clear hb))); (try simp only [nsl, Value.cells, unB] at st); (try clear hc); have hc := st.facts; (try simp only [nfl, nft, Nat.reduceAdd] at hc))
      go_ret
      exact ⟨by rw [HF.out]; rfl, st.ext0⟩
end Go.Proofs.YtdfdnedcaodmkaaGreat

namespace Go.Proofs.YtdfdnedcaodmkaaGreat
set_option linter.unusedSimpArgs false
set_option linter.unusedVariables false
open Go Go.RowKit
def folAt (l : List StepT) (j : Nat) : Bool := match l[j]? with | some x => folB ((l.take j).map StepT.f) x | none => true
def standsB (l : List StepT) : Bool := (List.range l.length).all (folAt l)
theorem Fl.pre {α : Type} [Flt α] {w : World} {a : Option Addr} {n : Nat} {xs : List α} (h : Fl w a n xs) (j : Nat) (hj : j ≤ n) : Fl w a j (xs.take j) := by
  refine ⟨by have := h.1; simp; omega, fun h0 => ?_⟩
  obtain ⟨b, off, e, hc⟩ := h.2 (by omega)
  refine ⟨b, off, e, fun i x hi => hc i x ?_⟩
  have hij : i < j := by
    have := (List.getElem?_eq_some_iff.1 hi).1
    simp at this; omega
  rwa [List.getElem?_take_of_lt hij] at hi
theorem standsB_true (l : List StepT) (h : ∀ i, i < l.length → folAt l i = true) : standsB l = true := List.all_eq_true.2 fun i hi => h i (by simpa using hi)
theorem standsB_false (l : List StepT) (j : Nat) (hj : j < l.length) (h : folAt l j = false) : standsB l = false := by
  unfold standsB
  rw [List.all_eq_false]
  exact ⟨j, by simpa using hj, by rw [h]; decide⟩
end Go.Proofs.YtdfdnedcaodmkaaGreat

namespace Go.Proofs.YtdfdnedcaodmkaaGreat
set_option linter.unusedSimpArgs false
set_option linter.unusedVariables false
open Go Go.RowKit
theorem rdName_put (s ys : List UInt8) (h : nameR s = true) : rdName (numB s.length ++ s ++ ys) = .ok (s, ys) := by
  unfold rdName
  rw [show (16 : Int) = ((16 : Nat) : Int) from rfl, rdText_put 16 s ys (nameR_len h).2 (by decide)]
  simp [h]
theorem rdRole_puts (x : Role) (ys : List UInt8) (h : roleR x = true) : rdRole (roleB x ++ ys) = .ok (x, ys) := by
  obtain ⟨o, d⟩ := x
  have hr : nameR o = true ∧ nameR d = true := by simpa [roleR] using h
  unfold rdRole roleB
  simp only
  rw [show numB o.length ++ o ++ (numB d.length ++ d) ++ ys = numB o.length ++ o ++ (numB d.length ++ d ++ ys) by simp, rdName_put o _ hr.1]
  simp only
  rw [rdName_put d ys hr.2]
end Go.Proofs.YtdfdnedcaodmkaaGreat

namespace Go.Proofs.YtdfdnedcaodmkaaGreat
set_option linter.unusedSimpArgs false
set_option linter.unusedVariables false
open Go Go.RowKit
/-- A name behind which ys lies is read. -/
theorem roleB_inj {x y : Role} {p q : List UInt8} (hx : roleR x = true) (hy : roleR y = true) (h : roleB x ++ p = roleB y ++ q) : x = y ∧ p = q := by
  have h1 := rdRole_puts x p hx
  rw [h, rdRole_puts y q hy] at h1
  injection h1 with h1
  injection h1 with h2 h3
  exact ⟨h2.symm, h3.symm⟩
theorem textB_inj {s t p q : List UInt8} (hs : nameR s = true) (ht : nameR t = true) (h : numB s.length ++ s ++ p = numB t.length ++ t ++ q) : s = t ∧ p = q := by
  have h1 := rdName_put s p hs
  rw [h, rdName_put t q ht] at h1
  injection h1 with h1
  injection h1 with h2 h3
  exact ⟨h2.symm, h3.symm⟩
theorem numB_k (k : Int) (h : k = 1 ∨ k = 2 ∨ k = 3 ∨ k = 4) : numB k.toNat = [k.toNat.toUInt8] := by
  rcases h with rfl | rfl | rfl | rfl <;> decide +kernel
theorem k_inj (k k' : Int) (h : k = 1 ∨ k = 2 ∨ k = 3 ∨ k = 4) (h' : k' = 1 ∨ k' = 2 ∨ k' = 3 ∨ k' = 4) (e : k.toNat.toUInt8 = k'.toNat.toUInt8) : k = k' := by
  rcases h with rfl | rfl | rfl | rfl <;> rcases h' with rfl | rfl | rfl | rfl <;> first | rfl | (exact absurd e (by decide))
theorem credB_inj {x y : CredT} (hx : credR x = true) (hy : credR y = true) (h : credB x = credB y) : x = y := by
  obtain ⟨h1, hc⟩ := credR_cases hx
  obtain ⟨h2, hd⟩ := credR_cases hy
  obtain ⟨k, hh, w, b, c, e⟩ := x
  obtain ⟨k', hh', w', b', c', e'⟩ := y
  simp only at h1 h2 hc hd
  have hk : k = 1 ∨ k = 2 ∨ k = 3 ∨ k = 4 := by rcases hc with q | ⟨_, _, q | q | q⟩ <;> simp [q.1]
  have hk' : k' = 1 ∨ k' = 2 ∨ k' = 3 ∨ k' = 4 := by rcases hd with q | ⟨_, _, q | q | q⟩ <;> simp [q.1]
  unfold credB at h
  simp only at h
  rw [numB_k k hk, numB_k k' hk'] at h
  simp only [List.append_assoc, List.cons_append, List.nil_append, List.cons.injEq] at h
  obtain ⟨he, h⟩ := h
  have ek := k_inj k k' hk hk' he
  subst ek
  have tA := roleB_inj h1 h2 h
  clear h
  obtain ⟨e1, h⟩ := tA
  subst e1
  rcases hc with ⟨rfl, q1, q2, q3, q4⟩ | ⟨q1, q2, q3⟩
  · rcases hd with ⟨_, p1, p2, p3, p4⟩ | ⟨_, _, p | p | p⟩
    · simp only [if_true] at h
      have hw := textB_inj (p := []) (q := []) q1 p1 (by simpa using h)
      rw [hw.1, q2, q3, q4, p2, p3, p4]
    · exact absurd p.1 (by decide)
    · exact absurd p.1 (by decide)
    · exact absurd p.1 (by decide)
  · have hk1 : k ≠ 1 := by rcases q3 with q | q | q <;> rw [q.1] <;> decide
    rcases hd with ⟨rfl, _⟩ | ⟨p1, p2, p3⟩
    · exact absurd rfl hk1
    · rw [if_neg hk1, if_neg hk1] at h
      have tB := roleB_inj q2 p2 h
      clear h
      obtain ⟨e2, h⟩ := tB
      subst e2
      rw [q1, p1]
      rcases q3 with ⟨rfl, q4, q5⟩ | ⟨rfl, q4, _, q5⟩ | ⟨rfl, q4, q5, _⟩
      · rcases p3 with ⟨_, p4, p5⟩ | ⟨p, _⟩ | ⟨p, _⟩
        · rw [q4, q5, p4, p5]
        · exact absurd p (by decide)
        · exact absurd p (by decide)
      · rcases p3 with ⟨p, _⟩ | ⟨_, p4, _, p5⟩ | ⟨p, _⟩
        · exact absurd p (by decide)
        · simp only [if_true] at h
          have hw := textB_inj (p := []) (q := []) q5 p5 (by simpa using h)
          rw [hw.1, q4, p4]
        · exact absurd p (by decide)
      · rcases p3 with ⟨p, _⟩ | ⟨p, _⟩ | ⟨_, p4, p5, _⟩
        · exact absurd p (by decide)
        · exact absurd p (by decide)
        · simp only [if_true, show ((4 : Int) = 3) = False from by simp, if_false] at h
          have hw := roleB_inj (p := []) (q := []) q5 p5 (by simpa using h)
          rw [hw.1, q4, p4]
end Go.Proofs.YtdfdnedcaodmkaaGreat

namespace Go.Proofs.YtdfdnedcaodmkaaGreat
set_option linter.unusedSimpArgs false
set_option linter.unusedVariables false
open Go Go.RowKit
open Go.Lib (index occAt NoOcc index_hit index_none index_spec index_room index_ge)
/-! The texts. -/
def arrow : List UInt8 := [32, 60, 45, 32]
def ampS : List UInt8 := [32, 38, 32]
def bodyT (x : CredT) : List UInt8 := if x.k = 1 then x.w else if x.k = 2 then roleT x.b else if x.k = 3 then roleT x.b ++ [46] ++ x.e else roleT x.b ++ ampS ++ roleT x.c
def credTx (x : CredT) : List UInt8 := roleT x.h ++ arrow ++ bodyT x
def credTy (x : CredT) : List UInt8 := if credR x = true then credTx x else []
end Go.Proofs.YtdfdnedcaodmkaaGreat

namespace Go.Proofs.YtdfdnedcaodmkaaGreat
set_option linter.unusedSimpArgs false
set_option linter.unusedVariables false
open Go Go.RowKit
/-- A tree as what it says. -/
inductive To | mk (s : StepT) (kids : List To)
theorem To.ind {P : To → Prop} (h : ∀ s kids, (∀ x ∈ kids, P x) → P (.mk s kids)) (t : To) : P t :=
  To.rec (motive_1 := P) (motive_2 := fun l => ∀ x ∈ l, P x) (fun s kids ih => h s kids ih) (fun x hx => by simp at hx) (fun x l hx hl y hy => by
    rcases List.mem_cons.1 hy with e | e
    · exact e ▸ hx
    · exact hl y e) t
mutual
def To.size : To → Nat
  | .mk _ kids => 1 + sizeL kids
def sizeL : List To → Nat
  | [] => 0
  | x :: l => x.size + sizeL l
end
theorem sizeL_app : ∀ (l m : List To), sizeL (l ++ m) = sizeL l + sizeL m
  | [], m => by simp [sizeL]
  | y :: l, m => by rw [List.cons_append, sizeL, sizeL_app l m, sizeL]; omega
mutual
def To.deep : To → Nat
  | .mk _ kids => tdeepL kids + 1
def tdeepL : List To → Nat
  | [] => 0
  | x :: l => max x.deep (tdeepL l)
end
/-- A node: how deep, which step, a leaf? -/
abbrev NodeP := Nat × StepT × Bool
mutual
def To.pre : To → Nat → List NodeP
  | .mk s kids, d => (d, s, kids.isEmpty) :: preL kids (d + 1)
def preL : List To → Nat → List NodeP
  | [], _ => []
  | x :: l, d => x.pre d ++ preL l d
end
theorem pre_len (t : To) : ∀ d, (t.pre d).length = t.size := by
  refine To.ind (P := fun t => ∀ d, (t.pre d).length = t.size) (fun s kids ih d => ?_) t
  rw [To.pre, To.size, List.length_cons]
  have : ∀ d, (preL kids d).length = sizeL kids := by
    clear d
    induction kids with
    | nil => intro d; rfl
    | cons x l ihl =>
      intro d
      rw [preL, List.length_append, ih x (by simp), ihl (fun y hy => ih y (by simp [hy])), sizeL]
  rw [this]; omega
/-- Whom a linked one leans on. -/
def linkQ (F : List FactT) (b : Role) (e who : List UInt8) (f : FactT) : Bool := decide (f.r = b) && decide ((⟨(f.w, e), who⟩ : FactT) ∈ F)
def linkP (F : List FactT) (b : Role) (e who : List UInt8) : List Nat :=
  match F.findIdx? (linkQ F b e who) with
  | some i => [i, F.idxOf ⟨((F[i]?.map FactT.w).getD [], e), who⟩]
  | none => []
def leansF (F : List FactT) (x : StepT) : List Nat :=
  if x.c.k = 2 then [F.idxOf ⟨x.c.b, x.f.w⟩] else if x.c.k = 4 then [F.idxOf ⟨x.c.b, x.f.w⟩, F.idxOf ⟨x.c.c, x.f.w⟩] else if x.c.k = 3 then linkP F x.c.b x.c.e x.f.w else []
def stAt (l : List StepT) (i : Nat) : StepT := l[i]?.getD default
def leansP (l : List StepT) (i : Nat) : List Nat := leansF ((l.take i).map StepT.f) (stAt l i)
theorem linkP_len (F : List FactT) (b : Role) (e who : List UInt8) : (linkP F b e who).length ≤ 2 := by unfold linkP; split <;> simp
theorem leansP_len (l : List StepT) (i : Nat) : (leansP l i).length ≤ 2 := by
  unfold leansP leansF
  split
  · simp
  · split
    · simp
    · split
      · exact linkP_len _ _ _ _
      · simp
theorem folB_kind {F : List FactT} {x : StepT} (h : folB F x = true) : stepB F (F.map FactT.w) x.c x.f.w = true := by
  unfold folB at h
  rw [Bool.and_eq_true] at h
  exact h.2
/-- What a step leans on lies ahead of it. -/
theorem leansP_lt (l : List StepT) (i : Nat) (hi : i < l.length) (h : folAt l i = true) : ∀ k ∈ leansP l i, k < i := by
  have hx : l[i]? = some l[i] := List.getElem?_eq_getElem hi
  have hs : stAt l i = l[i] := by unfold stAt; rw [hx]; rfl
  unfold folAt at h
  rw [hx] at h
  have h := folB_kind h
  unfold leansP
  rw [hs]
  have hF : ((l.take i).map StepT.f).length = i := by simp; omega
  generalize (l.take i).map StepT.f = F at *
  generalize l[i] = x at *
  have hmem : ∀ y : FactT, y ∈ F → F.idxOf y < i := fun y hy => by rw [← hF]; exact List.idxOf_lt_length_of_mem hy
  intro k hk
  unfold leansF at hk
  unfold stepB at h
  by_cases k2 : x.c.k = 2
  · rw [if_pos k2] at hk
    rw [if_neg (by omega), if_pos k2, decide_eq_true_eq] at h
    rw [List.mem_singleton.1 hk]
    exact hmem _ h
  · rw [if_neg k2] at hk
    by_cases k4 : x.c.k = 4
    · rw [if_pos k4] at hk
      rw [if_neg (by omega), if_neg k2, if_pos k4, Bool.and_eq_true, decide_eq_true_eq, decide_eq_true_eq] at h
      rcases List.mem_cons.1 hk with e | e
      · rw [e]; exact hmem _ h.1
      · rw [List.mem_singleton.1 e]; exact hmem _ h.2
    · rw [if_neg k4] at hk
      by_cases k3 : x.c.k = 3
      · rw [if_pos k3] at hk
        unfold linkP at hk
        split at hk
        · rename_i j hj
          have hjl := List.findIdx?_eq_some_iff_getElem.1 hj
          obtain ⟨h1, h2, _⟩ := hjl
          unfold linkQ at h2
          rw [Bool.and_eq_true, decide_eq_true_eq, decide_eq_true_eq] at h2
          rcases List.mem_cons.1 hk with e | e
          · rw [e]; omega
          · rw [List.mem_singleton.1 e, List.getElem?_eq_getElem h1]
            exact hmem _ h2.2
        · simp at hk
      · rw [if_neg k3] at hk
        simp at hk
/-- The whole tree of a place. -/
def fullT (l : List StepT) : Nat → Nat → To
  | 0, i => .mk (stAt l i) []
  | f + 1, i => .mk (stAt l i) ((leansP l i).map (fullT l f))
def Chain (l : List StepT) : Prop := ∀ i, i < l.length → folAt l i = true
theorem fullT_fuel (l : List StepT) (hc : Chain l) : ∀ (i f g : Nat), i < l.length → i < f → i < g → fullT l f i = fullT l g i := by
  intro i
  induction i using Nat.strongRecOn with
  | _ i ih =>
    intro f g hi hf hg
    obtain ⟨f, rfl⟩ : ∃ f', f = f' + 1 := ⟨f - 1, by omega⟩
    obtain ⟨g, rfl⟩ : ∃ g', g = g' + 1 := ⟨g - 1, by omega⟩
    rw [fullT, fullT]
    congr 1
    refine List.map_congr_left fun k hk => ?_
    have := leansP_lt l i hi (hc i hi) k hk
    exact ih k this f g (by omega) (by omega) (by omega)
def treeP (l : List StepT) (i : Nat) : To := fullT l (i + 1) i
theorem treeP_eq (l : List StepT) (hc : Chain l) (i : Nat) (hi : i < l.length) : treeP l i = .mk (stAt l i) ((leansP l i).map (treeP l)) := by
  unfold treeP
  rw [fullT]
  congr 1
  refine List.map_congr_left fun k hk => ?_
  have := leansP_lt l i hi (hc i hi) k hk
  exact fullT_fuel l hc k i (k + 1) (by omega) this (by omega)
/-- As the program grows it: with a count. -/
def growN (l : List StepT) : Nat → Nat → Nat → To × Nat
  | 0, i, n => (.mk (stAt l i) [], n + 1)
  | f + 1, i, n => if 4096 < n + 1 then (.mk (stAt l i) [], n + 1) else
      let p := (leansP l i).foldl (fun (p : List To × Nat) k => (p.1 ++ [(growN l f k p.2).1], (growN l f k p.2).2)) ([], n + 1)
      (.mk (stAt l i) p.1, p.2)
def kidsN (l : List StepT) (f : Nat) (ks : List Nat) (p : List To × Nat) : List To × Nat := ks.foldl (fun (p : List To × Nat) k => (p.1 ++ [(growN l f k p.2).1], (growN l f k p.2).2)) p
theorem growN_succ (l : List StepT) (f i n : Nat) : growN l (f + 1) i n = if 4096 < n + 1 then (.mk (stAt l i) [], n + 1) else (.mk (stAt l i) (kidsN l f (leansP l i) ([], n + 1)).1, (kidsN l f (leansP l i) ([], n + 1)).2) := rfl
theorem kidsN_cons (l : List StepT) (f k : Nat) (ks : List Nat) (p : List To × Nat) : kidsN l f (k :: ks) p = kidsN l f ks (p.1 ++ [(growN l f k p.2).1], (growN l f k p.2).2) := rfl
theorem growN_fuel (l : List StepT) (hc : Chain l) : ∀ (i f g n : Nat), i < l.length → i < f → i < g → growN l f i n = growN l g i n := by
  intro i
  induction i using Nat.strongRecOn with
  | _ i ih =>
    intro f g n hi hf hg
    obtain ⟨f, rfl⟩ : ∃ f', f = f' + 1 := ⟨f - 1, by omega⟩
    obtain ⟨g, rfl⟩ : ∃ g', g = g' + 1 := ⟨g - 1, by omega⟩
    rw [growN_succ, growN_succ]
    have key : ∀ (ks : List Nat) (p : List To × Nat), (∀ k ∈ ks, k < i) → kidsN l f ks p = kidsN l g ks p := by
      intro ks
      induction ks with
      | nil => intro p _; rfl
      | cons k ks ihk =>
        intro p h
        rw [kidsN_cons, kidsN_cons, ih k (h k (by simp)) f g p.2 (by have := h k (by simp); omega) (by have := h k (by simp); omega) (by have := h k (by simp); omega)]
        exact ihk _ fun k' hk' => h k' (by simp [hk'])
    rw [key _ _ (leansP_lt l i hi (hc i hi))]
theorem growN_mono (l : List StepT) : ∀ (f i n : Nat), n < (growN l f i n).2 := by
  intro f
  induction f with
  | zero => intro i n; simp [growN]
  | succ f ih =>
    intro i n
    rw [growN_succ]
    split
    · simp
    · have key : ∀ (ks : List Nat) (p : List To × Nat), p.2 ≤ (kidsN l f ks p).2 := by
        intro ks
        induction ks with
        | nil => intro p; exact Nat.le_refl _
        | cons k ks ihk =>
          intro p
          rw [kidsN_cons]
          have h1 := ihk (p.1 ++ [(growN l f k p.2).1], (growN l f k p.2).2)
          have h2 := ih k p.2
          simp only at h1
          omega
      have := key (leansP l i) ([], n + 1)
      simp only at this ⊢
      omega
theorem kidsN_mono (l : List StepT) (f : Nat) : ∀ (ks : List Nat) (p : List To × Nat), p.2 ≤ (kidsN l f ks p).2 := by
  intro ks
  induction ks with
  | nil => intro p; exact Nat.le_refl _
  | cons k ks ihk =>
    intro p
    rw [kidsN_cons]
    have h1 := ihk (p.1 ++ [(growN l f k p.2).1], (growN l f k p.2).2)
    have h2 := growN_mono l f k p.2
    simp only at h1
    omega
/-- The count stays small. -/
theorem growN_bound (l : List StepT) : ∀ (f i n : Nat), (growN l f i n).2 ≤ max n 4096 + f + 1 := by
  intro f
  induction f with
  | zero => intro i n; simp only [growN]; omega
  | succ f ih =>
    intro i n
    rw [growN_succ]
    split
    · simp only; omega
    · rename_i hn
      have h2 := leansP_len l i
      have g1 : ∀ k m, m ≤ 4096 → (growN l f k m).2 ≤ 4096 + f + 1 := fun k m hm => by have := ih k m; omega
      have g2 : ∀ k m, 4096 < m + 1 → f ≠ 0 → (growN l f k m).2 = m + 1 := fun k m hm h0 => by
        obtain ⟨f', rfl⟩ : ∃ f', f = f' + 1 := ⟨f - 1, by omega⟩
        rw [growN_succ, if_pos hm]
      have g3 : ∀ k m, f = 0 → (growN l f k m).2 = m + 1 := fun k m h0 => by subst h0; rfl
      simp only
      match hk : leansP l i with
      | [] => simp only [kidsN, List.foldl_nil]; omega
      | [a] =>
        simp only [kidsN, List.foldl_cons, List.foldl_nil]
        have := g1 a (n + 1) (by omega)
        omega
      | [a, b] =>
        simp only [kidsN, List.foldl_cons, List.foldl_nil]
        have h1 := g1 a (n + 1) (by omega)
        by_cases q : (growN l f a (n + 1)).2 ≤ 4096
        · have := g1 b _ q
          omega
        · by_cases h0 : f = 0
          · rw [g3 b _ h0]; omega
          · rw [g2 b _ (by omega) h0]; omega
      | a :: b :: c :: r => rw [hk] at h2; simp at h2
/-- Grown: the whole tree, or the count says no. -/
theorem growN_full (l : List StepT) (hc : Chain l) : ∀ (i n : Nat), i < l.length → (growN l (i + 1) i n = (treeP l i, n + (treeP l i).size) ∨ 4096 < (growN l (i + 1) i n).2) ∧ (growN l (i + 1) i n).2 ≤ n + (treeP l i).size := by
  intro i
  induction i using Nat.strongRecOn with
  | _ i ih =>
    intro n hi
    rw [growN_succ, treeP_eq l hc i hi, To.size]
    have hlt := leansP_lt l i hi (hc i hi)
    have key : ∀ (ks : List Nat) (p : List To × Nat), (∀ k ∈ ks, k < i) → (kidsN l i ks p = (p.1 ++ ks.map (treeP l), p.2 + sizeL (ks.map (treeP l))) ∨ 4096 < (kidsN l i ks p).2) ∧ (kidsN l i ks p).2 ≤ p.2 + sizeL (ks.map (treeP l)) := by
      intro ks
      induction ks with
      | nil => intro p _; simp [kidsN, sizeL]
      | cons k ks ihk =>
        intro p h
        have hk := h k (by simp)
        have e : growN l i k p.2 = growN l (k + 1) k p.2 := growN_fuel l hc k i (k + 1) p.2 (by omega) hk (by omega)
        obtain ⟨h1, h2⟩ := ih k hk p.2 (by omega)
        rw [kidsN_cons, e]
        obtain ⟨g1, g2⟩ := ihk (p.1 ++ [(growN l (k + 1) k p.2).1], (growN l (k + 1) k p.2).2) (fun k' hk' => h k' (by simp [hk']))
        rw [List.map_cons, sizeL]
        refine ⟨?_, by simp only at g2; omega⟩
        rcases h1 with q | q
        · rcases g1 with q' | q'
          · left
            rw [q'] 
            simp only [q]
            rw [List.append_assoc, Nat.add_assoc]
            rfl
          · exact .inr q'
        · right
          have := kidsN_mono l i ks (p.1 ++ [(growN l (k + 1) k p.2).1], (growN l (k + 1) k p.2).2)
          simp only at this
          omega
    split
    · simp only
      exact ⟨.inr (by omega), by omega⟩
    · obtain ⟨h1, h2⟩ := key (leansP l i) ([], n + 1) hlt
      simp only [List.nil_append] at h1 h2 ⊢
      refine ⟨?_, by omega⟩
      rcases h1 with q | q
      · left
        rw [q, Nat.add_assoc]
      · exact .inr q
/-- As the reference walks it: with the nodes so far. -/
def walkN (l : List StepT) : Nat → Nat → Nat → List NodeP → List NodeP
  | 0, i, d, out => out ++ [(d, stAt l i, (leansP l i).isEmpty)]
  | f + 1, i, d, out => (leansP l i).foldl (fun o k => if 5000 < o.length then o else walkN l f k (d + 1) o) (out ++ [(d, stAt l i, (leansP l i).isEmpty)])
def stepsN (l : List StepT) (f d : Nat) (ks : List Nat) (o : List NodeP) : List NodeP := ks.foldl (fun o k => if 5000 < o.length then o else walkN l f k (d + 1) o) o
theorem walkN_succ (l : List StepT) (f i d : Nat) (out : List NodeP) : walkN l (f + 1) i d out = stepsN l f d (leansP l i) (out ++ [(d, stAt l i, (leansP l i).isEmpty)]) := rfl
theorem stepsN_cons (l : List StepT) (f d k : Nat) (ks : List Nat) (o : List NodeP) : stepsN l f d (k :: ks) o = stepsN l f d ks (if 5000 < o.length then o else walkN l f k (d + 1) o) := rfl
theorem stepsN_over (l : List StepT) (f d : Nat) : ∀ (ks : List Nat) (o : List NodeP), 5000 < o.length → stepsN l f d ks o = o
  | [], _, _ => rfl
  | k :: ks, o, h => by rw [stepsN_cons, if_pos h]; exact stepsN_over l f d ks o h
theorem walkN_fuel (l : List StepT) (hc : Chain l) : ∀ (i f g d : Nat) (o : List NodeP), i < l.length → i < f → i < g → walkN l f i d o = walkN l g i d o := by
  intro i
  induction i using Nat.strongRecOn with
  | _ i ih =>
    intro f g d o hi hf hg
    obtain ⟨f, rfl⟩ : ∃ f', f = f' + 1 := ⟨f - 1, by omega⟩
    obtain ⟨g, rfl⟩ : ∃ g', g = g' + 1 := ⟨g - 1, by omega⟩
    rw [walkN_succ, walkN_succ]
    have key : ∀ (ks : List Nat) (o : List NodeP), (∀ k ∈ ks, k < i) → stepsN l f d ks o = stepsN l g d ks o := by
      intro ks
      induction ks with
      | nil => intro o _; rfl
      | cons k ks ihk =>
        intro o h
        rw [stepsN_cons, stepsN_cons, ih k (h k (by simp)) f g (d + 1) o (by have := h k (by simp); omega) (by have := h k (by simp); omega) (by have := h k (by simp); omega)]
        exact ihk _ fun k' hk' => h k' (by simp [hk'])
    exact key _ _ (leansP_lt l i hi (hc i hi))
theorem map_isEmpty {α β : Type} (f : α → β) (l : List α) : (l.map f).isEmpty = l.isEmpty := by cases l <;> rfl
theorem walkN_full (l : List StepT) (hc : Chain l) : ∀ (i d : Nat) (o : List NodeP), i < l.length → (walkN l (i + 1) i d o = o ++ (treeP l i).pre d ∨ 5000 < (walkN l (i + 1) i d o).length) ∧ (walkN l (i + 1) i d o).length ≤ o.length + (treeP l i).size ∧ o.length < (walkN l (i + 1) i d o).length := by
  intro i
  induction i using Nat.strongRecOn with
  | _ i ih =>
    intro d o hi
    rw [walkN_succ, treeP_eq l hc i hi, To.size, To.pre, map_isEmpty]
    have hlt := leansP_lt l i hi (hc i hi)
    have key : ∀ (ks : List Nat) (o : List NodeP), (∀ k ∈ ks, k < i) → (stepsN l i d ks o = o ++ preL (ks.map (treeP l)) (d + 1) ∨ 5000 < (stepsN l i d ks o).length) ∧ (stepsN l i d ks o).length ≤ o.length + sizeL (ks.map (treeP l)) ∧ o.length ≤ (stepsN l i d ks o).length := by
      intro ks
      induction ks with
      | nil => intro o _; simp [stepsN, sizeL, preL]
      | cons k ks ihk =>
        intro o h
        have hk := h k (by simp)
        rw [stepsN_cons, List.map_cons, sizeL, preL]
        by_cases ho : 5000 < o.length
        · rw [if_pos ho, stepsN_over l i d ks o ho]
          exact ⟨.inr ho, by omega, Nat.le_refl _⟩
        · rw [if_neg ho, walkN_fuel l hc k i (k + 1) (d + 1) o (by omega) hk (by omega)]
          obtain ⟨h1, h2, h3⟩ := ih k hk (d + 1) o (by omega)
          obtain ⟨g1, g2, g3⟩ := ihk (walkN l (k + 1) k (d + 1) o) (fun k' hk' => h k' (by simp [hk']))
          refine ⟨?_, by omega, by omega⟩
          rcases h1 with q | q
          · rcases g1 with q' | q'
            · left
              rw [q', q, List.append_assoc]
            · exact .inr q'
          · exact .inr (by omega)
    obtain ⟨h1, h2, h3⟩ := key (leansP l i) (o ++ [(d, stAt l i, (leansP l i).isEmpty)]) hlt
    simp only [List.length_append, List.length_cons, List.length_nil] at h2 h3
    refine ⟨?_, by omega, by omega⟩
    rcases h1 with q | q
    · left
      rw [q, List.append_assoc]
      rfl
    · exact .inr q
/-- Both sides: too much, or the same. -/
theorem grown_walked (l : List StepT) (hc : Chain l) (i : Nat) (hi : i < l.length) :
    (4096 < (growN l (i + 1) i 0).2 ∧ 4096 < (walkN l (i + 1) i 0 []).length) ∨ ((growN l (i + 1) i 0).2 ≤ 4096 ∧ (walkN l (i + 1) i 0 []).length ≤ 4096 ∧ (growN l (i + 1) i 0).1 = treeP l i ∧ walkN l (i + 1) i 0 [] = (treeP l i).pre 0) := by
  obtain ⟨h1, h2⟩ := growN_full l hc i 0 hi
  obtain ⟨g1, g2, g3⟩ := walkN_full l hc i 0 [] hi
  simp only [List.length_nil, Nat.zero_add, List.nil_append] at h1 h2 g1 g2 g3
  by_cases hn : (treeP l i).size ≤ 4096
  · right
    refine ⟨by omega, by omega, ?_, ?_⟩
    · rcases h1 with q | q
      · rw [q]
      · omega
    · rcases g1 with q | q
      · exact q
      · omega
  · left
    constructor
    · rcases h1 with q | q
      · rw [q]; simp only; omega
      · exact q
    · rcases g1 with q | q
      · rw [q, pre_len]; omega
      · omega
end Go.Proofs.YtdfdnedcaodmkaaGreat

namespace Go.Proofs.YtdfdnedcaodmkaaGreat
set_option linter.unusedSimpArgs false
set_option linter.unusedVariables false
open Go Go.RowKit
section
variable {fr al : Nat → Prop} {w0 w : World} {L : List It}
/-- A new item of what two others share. -/
theorem Own.share2 (st : Own fr al w0 L w) {i i2 : Nat} {I I2 I' : It} (hi : L[i]? = some I) (hi2 : L[i2]? = some I2) (h : ∀ e s e2 s2, I.P e s w → I2.P e2 s2 w → I'.P (fun _ => False) (fun b => s b ∨ s2 b) w) : Own fr al w0 (L ++ [I']) w := by
  obtain ⟨hm, e, s, F⟩ := st
  have hil := get_lt hi
  have hil2 := get_lt hi2
  have h1 := h _ _ _ _ (F.holds i I hi) (F.holds i2 I2 hi2)
  have hlen : ∀ {j}, j < (L ++ [I']).length → j < L.length ∨ j = L.length := fun {j} h => by simp at h; omega
  refine ⟨hm, fun j => if j < L.length then e j else fun _ => False, fun j => if j < L.length then s j else fun b => s i b ∨ s i2 b, ?_, ?_, ?_, ?_, ?_, ?_⟩
  · intro j J hj
    have hjl := get_lt hj
    rcases hlen hjl with h | h
    · rw [List.getElem?_append_left h] at hj
      simp only [h, if_true]
      exact F.holds j J hj
    · subst h
      simp at hj
      subst hj
      simp only [Nat.lt_irrefl, if_false]
      exact h1
  · intro j b hj hb
    rcases hlen hj with h | h
    · simp only [h, if_true] at hb
      exact F.lo j b h hb
    · subst h
      simp only [Nat.lt_irrefl, if_false, false_or] at hb
      rcases hb with hb | hb
      · exact F.lo i b hil (.inr hb)
      · exact F.lo i2 b hil2 (.inr hb)
  · intro j b hj hb hb0
    rcases hlen hj with h | h
    · simp only [h, if_true] at hb
      exact F.fr j b h hb hb0
    · subst h
      simp only [Nat.lt_irrefl, if_false] at hb
  · intro j b hj hb hb0
    rcases hlen hj with h | h
    · simp only [h, if_true] at hb
      exact F.al j b h hb hb0
    · subst h
      simp only [Nat.lt_irrefl, if_false, false_or] at hb
      rcases hb with hb | hb
      · exact F.al i b hil (.inr hb) hb0
      · exact F.al i2 b hil2 (.inr hb) hb0
  · intro j k b hj hk hjk hb hb'
    rcases hlen hj with h | h
    · rcases hlen hk with h' | h'
      · simp only [h, h', if_true] at hb hb'
        exact F.ee j k b h h' hjk hb hb'
      · subst h'
        simp only [Nat.lt_irrefl, if_false] at hb'
    · subst h
      simp only [Nat.lt_irrefl, if_false] at hb
  · intro j k b hj hk hb hb'
    rcases hlen hj with h | h
    · rcases hlen hk with h' | h'
      · simp only [h, h', if_true] at hb hb'
        exact F.es j k b h h' hb hb'
      · subst h'
        simp only [h, if_true, Nat.lt_irrefl, if_false] at hb hb'
        rcases hb' with hb' | hb'
        · exact F.es j i b h hil hb hb'
        · exact F.es j i2 b h hil2 hb hb'
    · subst h
      simp only [Nat.lt_irrefl, if_false] at hb
end
end Go.Proofs.YtdfdnedcaodmkaaGreat

namespace Go.Proofs.YtdfdnedcaodmkaaGreat
set_option linter.unusedSimpArgs false
set_option linter.unusedVariables false
open Go Go.RowKit
/-- A tree as it lies in memory: its step, and where its kids lie. -/
inductive Tr | mk (s : StepT) (a : Option Addr) (n c : Nat) (kids : List Tr)
instance : Inhabited Tr := ⟨.mk default none 0 0 []⟩
theorem Tr.ind {P : Tr → Prop} (h : ∀ s a n c kids, (∀ x ∈ kids, P x) → P (.mk s a n c kids)) (f : Tr) : P f :=
  Tr.rec (motive_1 := P) (motive_2 := fun l => ∀ x ∈ l, P x) (fun s a n c kids ih => h s a n c kids ih) (fun x hx => by simp at hx) (fun x l hx hl y hy => by
    rcases List.mem_cons.1 hy with e | e
    · exact e ▸ hx
    · exact hl y e) f
def trC : Tr → List Value
  | .mk x a n c _ => [.int .i64 x.c.k, S x.c.h.1, S x.c.h.2, S x.c.w, S x.c.b.1, S x.c.b.2, S x.c.c.1, S x.c.c.2, S x.c.e, S x.f.r.1, S x.f.r.2, S x.f.w, .slice a n c]
def trV : Tr → Value
  | .mk x a n c _ => .agg #[.int .i64 x.c.k, S x.c.h.1, S x.c.h.2, S x.c.w, S x.c.b.1, S x.c.b.2, S x.c.c.1, S x.c.c.2, S x.c.e, S x.f.r.1, S x.f.r.2, S x.f.w, .slice a n c]
instance fltTr : Flt Tr := ⟨13, trC, fun x => by cases x; rfl, by decide, fun x u hu => by cases x; simp [trC] at hu; rcases hu with rfl | rfl | rfl | rfl | rfl | rfl | rfl | rfl | rfl | rfl | rfl | rfl | rfl <;> rfl⟩
/-- The kids lie where they are said to lie, in blocks of s, all the way down. -/
inductive TrIn (s : Nat → Prop) (w : World) : Tr → Prop
  | mk {s0 : StepT} {a : Option Addr} {n c : Nat} {kids : List Tr} (hc : n ≤ c ∧ c ≤ maxLen) (hf : Fl w a n kids) (hs : 0 < n → ∀ ad, a = some ad → s ad.block) (hk : ∀ x ∈ kids, TrIn s w x) : TrIn s w (.mk s0 a n c kids)
def TrOk (w : World) (f : Tr) : Prop := TrIn (fun _ => True) w f
section
variable {s s' : Nat → Prop} {w w' : World}
theorem TrIn.cap {s0 : StepT} {a : Option Addr} {n c : Nat} {kids : List Tr} (h : TrIn s w (.mk s0 a n c kids)) : n ≤ c ∧ c ≤ maxLen := by cases h; assumption
theorem TrIn.fl {s0 : StepT} {a : Option Addr} {n c : Nat} {kids : List Tr} (h : TrIn s w (.mk s0 a n c kids)) : Fl w a n kids := by cases h; assumption
theorem TrIn.kids {s0 : StepT} {a : Option Addr} {n c : Nat} {kids : List Tr} (h : TrIn s w (.mk s0 a n c kids)) : ∀ x ∈ kids, TrIn s w x := by cases h; assumption
theorem TrIn.ad {s0 : StepT} {a : Option Addr} {n c : Nat} {kids : List Tr} (h : TrIn s w (.mk s0 a n c kids)) : 0 < n → ∀ ad, a = some ad → s ad.block := by cases h; assumption
theorem TrIn.to {f : Tr} (h : TrIn s w f) (hs : ∀ b, s b → s' b) : TrIn s' w f := by
  induction h with
  | mk hc hf hs0 _ ih => exact .mk hc hf (fun h0 ad e => hs _ (hs0 h0 ad e)) ih
theorem TrIn.ok {f : Tr} (h : TrIn s w f) : TrOk w f := h.to fun _ _ => trivial
theorem Fl.agree {α : Type} [Flt α] {a : Option Addr} {n : Nat} {xs : List α} (h : Fl w a n xs) (hag : 0 < n → ∀ ad, a = some ad → w'.heap[ad.block]? = w.heap[ad.block]?) : Fl w' a n xs := by
  refine ⟨h.1, fun h0 => ?_⟩
  obtain ⟨b, off, rfl, hc⟩ := h.2 h0
  refine ⟨b, off, rfl, fun i x hi j v hj => ?_⟩
  have hb : w'.heap[b]? = w.heap[b]? := hag h0 ⟨b, off, none⟩ rfl
  rw [World.cell?_of_block (w := w) hb]
  exact hc i x hi j v hj
theorem TrIn.agree {f : Tr} (h : TrIn s w f) (hag : ∀ b, s b → w'.heap[b]? = w.heap[b]?) : TrIn s w' f := by
  induction h with
  | mk hc hf hs0 _ ih => exact .mk hc (hf.agree fun h0 ad e => hag _ (hs0 h0 ad e)) hs0 ih
theorem TrIn.ext {f : Tr} (h : TrIn s w f) (hx : Ext w w') : TrIn s w' f := by
  induction h with
  | mk hc hf hs0 _ ih => exact .mk hc (Arr.ext hf hx) hs0 ih
theorem TrOk.ext {f : Tr} (h : TrOk w f) (hx : Ext w w') : TrOk w' f := TrIn.ext h hx
theorem Fl.lt {α : Type} [Flt α] {a : Option Addr} {n : Nat} {xs : List α} (h : Fl w a n xs) (h0 : 0 < n) (ad : Addr) (had : a = some ad) : ad.block < w.heap.size := by
  obtain ⟨b, off, hb, hc⟩ := h.2 h0
  rw [had] at hb
  cases hb
  have hx : 0 < xs.length := by have := h.1; omega
  have hk := Flt.pos (α := α)
  have h2 : 0 < (Flt.cells xs[0]).length := by rw [Flt.len]; exact hk
  exact World.block_lt_of_cell? w ⟨b, off + 0 * Flt.k α + 0, none⟩ (hc 0 _ (List.getElem?_eq_getElem hx) 0 _ (List.getElem?_eq_getElem h2))
theorem TrIn.lt {f : Tr} (h : TrIn s w f) : TrIn (fun b => b < w.heap.size) w f := by
  induction h with
  | mk hc hf hs0 _ ih => exact .mk hc hf (fun h0 ad e => hf.lt h0 ad e) ih
/-- The cells of a kid. -/
theorem Fl.tr {a : Option Addr} {n : Nat} {xs : List Tr} (h : Fl w a n xs) (h0 : 0 < n) : ∃ b off, a = some ⟨b, off, none⟩ ∧ ∀ (j : Nat) (x : StepT) a' n' c' kids', xs[j]? = some (.mk x a' n' c' kids') → w.cell? ⟨b, off + j * 13, none⟩ = some (.int .i64 x.c.k) ∧ w.cell? ⟨b, off + j * 13 + 1, none⟩ = some (S x.c.h.1) ∧ w.cell? ⟨b, off + j * 13 + 2, none⟩ = some (S x.c.h.2) ∧ w.cell? ⟨b, off + j * 13 + 3, none⟩ = some (S x.c.w) ∧ w.cell? ⟨b, off + j * 13 + 4, none⟩ = some (S x.c.b.1) ∧ w.cell? ⟨b, off + j * 13 + 5, none⟩ = some (S x.c.b.2) ∧ w.cell? ⟨b, off + j * 13 + 6, none⟩ = some (S x.c.c.1) ∧ w.cell? ⟨b, off + j * 13 + 7, none⟩ = some (S x.c.c.2) ∧ w.cell? ⟨b, off + j * 13 + 8, none⟩ = some (S x.c.e) ∧ w.cell? ⟨b, off + j * 13 + 9, none⟩ = some (S x.f.r.1) ∧ w.cell? ⟨b, off + j * 13 + 10, none⟩ = some (S x.f.r.2) ∧ w.cell? ⟨b, off + j * 13 + 11, none⟩ = some (S x.f.w) ∧ w.cell? ⟨b, off + j * 13 + 12, none⟩ = some (.slice a' n' c') := by
  obtain ⟨b, off, rfl, hc⟩ := h.2 h0
  exact ⟨b, off, rfl, fun j x a' n' c' kids' hj => ⟨hc j _ hj 0 _ rfl, hc j _ hj 1 _ rfl, hc j _ hj 2 _ rfl, hc j _ hj 3 _ rfl, hc j _ hj 4 _ rfl, hc j _ hj 5 _ rfl, hc j _ hj 6 _ rfl, hc j _ hj 7 _ rfl, hc j _ hj 8 _ rfl, hc j _ hj 9 _ rfl, hc j _ hj 10 _ rfl, hc j _ hj 11 _ rfl, hc j _ hj 12 _ rfl⟩⟩
end
/-- A formula as a shared piece of memory; formulas one behind another. -/
def trI (f : Tr) : It where
  P _ s w := TrIn s w f
  st := fun h hag => h.agree fun b hb => hag b (.inr hb)
  facts _ := True
  ok := fun _ => trivial
def trsI (l : List Tr) : It where
  P _ s w := ∀ f ∈ l, TrIn s w f
  st := fun h hag f hf => (h f hf).agree fun b hb => hag b (.inr hb)
  facts _ := True
  ok := fun _ => trivial
section
variable {fr al : Nat → Prop} {w0 w : World} {L : List It}
theorem Own.tr (st : Own fr al w0 L w) {i : Nat} {f : Tr} (hi : L[i]? = some (trI f)) : TrOk w f := let ⟨_, _, h, _⟩ := st.get hi; TrIn.ok h
theorem Own.trOf (st : Own fr al w0 L w) {i : Nat} {l : List Tr} (hi : L[i]? = some (trsI l)) {x : Tr} (hx : x ∈ l) : Own fr al w0 (L ++ [trI x]) w :=
  st.share hi fun e s h => h x hx
end
section
variable {fr al : Nat → Prop} {w0 w : World} {L : List It}
theorem Own.trsMore (st : Own fr al w0 L w) {i j : Nat} {l : List Tr} {f : Tr} (hi : L[i]? = some (trsI l)) (hj : L[j]? = some (trI f)) : Own fr al w0 (L ++ [trsI (l ++ [f])]) w :=
  st.share2 hi hj fun e s e2 s2 h1 h2 g hg => by
    rcases List.mem_append.1 hg with q | q
    · exact TrIn.to (h1 g q) (fun _ => .inl)
    · rw [List.mem_singleton.1 q]; exact TrIn.to h2 (fun _ => .inr)
theorem Own.mkTr (st : Own fr al w0 L w) {i j n : Nat} {a : Option Addr} {l : List Tr} (hi : L[i]? = some (flI a n l)) (hj : L[j]? = some (trsI l)) (x : StepT) (c : Nat) (hc : n ≤ c ∧ c ≤ maxLen) : Own fr al w0 (L ++ [trI (.mk x a n c l)]) w :=
  st.share2 hi hj fun e s e2 s2 h1 h2 => TrIn.mk hc h1.1 (fun h0 ad e => .inl (h1.2 h0 ad e)) fun x hx => TrIn.to (h2 x hx) (fun _ => .inr)
theorem Own.nilTr (st : Own fr al w0 L w) : Own fr al w0 (L ++ [flI none 0 ([] : List Tr)]) w := st.bare ⟨Fl.nil _ _, fun h => by omega⟩
theorem Own.noTrs (st : Own fr al w0 L w) : Own fr al w0 (L ++ [trsI []]) w := st.bare (fun f hf => by simp at hf)
end
mutual
def Tr.strip : Tr → To
  | .mk s _ _ _ kids => .mk s (stripTL kids)
def stripTL : List Tr → List To
  | [] => []
  | x :: l => x.strip :: stripTL l
end
theorem stripTL_eq : ∀ l : List Tr, stripTL l = l.map Tr.strip
  | [] => rfl
  | x :: l => by rw [stripTL, stripTL_eq l]; rfl
theorem stripT_mk (s : StepT) (a : Option Addr) (n c : Nat) (kids : List Tr) : (Tr.mk s a n c kids).strip = .mk s (kids.map Tr.strip) := by rw [Tr.strip, stripTL_eq]
end Go.Proofs.YtdfdnedcaodmkaaGreat

namespace Go.Proofs.YtdfdnedcaodmkaaGreat
set_option linter.unusedSimpArgs false
set_option linter.unusedVariables false
open Go Go.RowKit
def elF (w : World) (b : Nat) : List (Nat × Value) → Prop
  | [] => True
  | p :: l => w.cell? ⟨b, p.1, none⟩ = some p.2 ∧ elF w b l
theorem elF_of {w : World} {b : Nat} : ∀ {l : List (Nat × Value)}, (∀ p ∈ l, w.cell? ⟨b, p.1, none⟩ = some p.2) → elF w b l
  | [], _ => trivial
  | p :: l, h => ⟨h p (by simp), elF_of fun q hq => h q (by simp [hq])⟩
theorem elF_to {w : World} {b : Nat} : ∀ {l : List (Nat × Value)}, elF w b l → ∀ p ∈ l, w.cell? ⟨b, p.1, none⟩ = some p.2
  | [], _, p, hp => by simp at hp
  | q :: l, h, p, hp => by
    rcases List.mem_cons.1 hp with e | e
    · subst e; exact h.1
    · exact elF_to h.2 p e
def elI (b : Nat) (l : List (Nat × Value)) : It where
  P _ s w := s b ∧ ∀ p ∈ l, w.cell? ⟨b, p.1, none⟩ = some p.2
  st := fun {e s w w'} ⟨h1, h2⟩ hag => ⟨h1, fun p hp => by rw [World.cell?_of_block (w := w) (hag b (.inr h1))]; exact h2 p hp⟩
  facts w := elF w b l
  ok := fun h => elF_of h.2
theorem Own.addEl {fr al : Nat → Prop} {w0 w W : World} {L : List It} (st : Own fr al w0 L w) {i : Nat} (hi : L[i]? = some (oldI W)) (b o : Nat) (v : Value) (l : List (Nat × Value)) (h : elF W b ((o, v) :: l)) : Own fr al w0 (L ++ [elI b ((o, v) :: l)]) w :=
  st.share hi fun e s h1 => ⟨h1.1 _ (show b < _ from World.block_lt_of_cell? W ⟨b, o, none⟩ h.1), fun p hp => by
    have hb : b < W.heap.size := World.block_lt_of_cell? W ⟨b, o, none⟩ h.1
    rw [World.cell?_of_block (w := W) (h1.2.2 b hb)]
    exact elF_to h p hp⟩
end Go.Proofs.YtdfdnedcaodmkaaGreat

namespace Go.Proofs.YtdfdnedcaodmkaaGreat
set_option linter.unusedSimpArgs false
set_option linter.unusedVariables false
open Go Go.RowKit
/-- The first place of a fact, or -1. -/
def fpI (l : List FactT) (y : FactT) : Int := if y ∈ l then (l.idxOf y : Int) else -1
theorem fpI_miss {l : List FactT} {y : FactT} (h : y ∉ l) : fpI l y = -1 := by unfold fpI; rw [if_neg h]
theorem fpI_mem {l : List FactT} {y : FactT} (h : y ∈ l) : fpI l y = (l.idxOf y : Int) := by unfold fpI; rw [if_pos h]
theorem idxOf_hit {l : List FactT} {x y : FactT} {j : Nat} (h1 : l.take (j + 1) = l.take j ++ [x]) (h2 : x = y) (h3 : y ∉ l.take j) : y ∈ l ∧ l.idxOf y = j := by
  subst h2
  have hl : j < l.length := by
    rcases Nat.lt_or_ge j l.length with q | q
    · exact q
    · rw [List.take_of_length_le (by omega), List.take_of_length_le q] at h1
      have := congrArg List.length h1
      simp at this
  have hj : l[j] = x := by
    have := List.take_append_getElem hl
    rw [h1] at this
    have := List.append_cancel_left this
    simpa using this
  have hm : x ∈ l := by rw [← hj]; exact List.getElem_mem hl
  refine ⟨hm, ?_⟩
  rw [← List.take_append_drop j l, List.idxOf_append, if_neg h3, List.drop_eq_getElem_cons hl, hj, List.idxOf_cons_self, List.length_take]
  omega
theorem fpI_hit {l : List FactT} {x y : FactT} {j : Nat} (h1 : l.take (j + 1) = l.take j ++ [x]) (h2 : x = y) (h3 : y ∉ l.take j) : fpI l y = j := by
  have h := idxOf_hit h1 h2 h3
  rw [fpI_mem h.1, h.2]
set_option maxRecDepth 100000 in
set_option maxHeartbeats 2000000 in
theorem factIdx_any (a : Option Addr) (n c : Nat) (l : List FactT) (y : FactT) (W : World) (h : Fl W a n l) (hn : n ≤ 2000000) :
    Calls Tryz.prog 81 #[.slice a n c, fV y] W fun e w' => e = .returned (.int .i64 (fpI l y)) ∧ Ext W w' := by
  have H := Lib.hid h
  have HNL := Lib.hid h.1
  clear h
  obtain ⟨⟨ho, hd⟩, nw⟩ := y
  have st := Own.startOld W
  unfold fV S
  (try simp only [nsl, Value.cells, unB] at st)
  (try clear hc); have hc := st.facts; (try simp only [nfl, nft, Nat.reduceAdd] at hc)
  go_enter Tryz.func81, Tryz.ntmps81
  go_wp2_with ((((with_reducible refine wl_box ?_ (fun K hK => ?_)); rfl; refine owp_box (o := ⟨some 3, _, _, _, _, _⟩) rfl st ?_; apply Exists.intro; refine ⟨?_, ?_⟩; (focus (go_simp; try rfl)); (clear st; intro b3 w hb st; clear hb))); (try simp only [nsl, Value.cells, unB] at st); (try clear hc); have hc := st.facts; (try simp only [nfl, nft, Nat.reduceAdd] at hc))
  go_loopg [8] n (fun k i wr => ∃ (j : Nat), j ≤ n ∧ k = n - j ∧ i = .int .i64 (j : Int) ∧ Hid ((⟨(ho, hd), nw⟩ : FactT) ∉ l.take j) ∧ Own (fun _ => False) (fun _ => True) W [oldI W, blkI b3 [S ho, S hd, S nw]] wr)
  case atStart => exact ⟨0, by omega, by omega, rfl, Lib.hid (by simp), st⟩
  case round =>
    obtain ⟨j, hj, rfl, rfl, HT, st'⟩ := hrel
    clear st hc
    have st := st'
    clear st'
    unfold S at st
    (try simp only [nsl, Value.cells, unB] at st)
    (try clear hc); have hc := st.facts; (try simp only [nfl, nft, Nat.reduceAdd] at hc)
    by_cases hjn : j < n
    · obtain ⟨b, off, ha, hcell⟩ := H.out.fact (by omega)
      have hjl : j < l.length := by have := HNL.out; omega
      have HC := Lib.hid (hcell j l[j] (List.getElem?_eq_getElem hjl))
      have hts : l.take (j + 1) = l.take j ++ [l[j]] := (List.take_append_getElem hjl).symm
      have hmem := List.getElem_mem hjl
      clear hcell
      generalize l[j] = x at *
      obtain ⟨⟨ho', hd'⟩, nw'⟩ := x
      have HX := Lib.hid (And.intro hts hmem)
      clear hts hmem
      subst ha
      simp only at HC
      unfold S at HC
      go_wp2_with ((((with_reducible refine wl_box ?_ (fun K hK => ?_)); rfl; refine owp_box (o := ⟨some 3, _, _, _, _, _⟩) rfl st ?_; apply Exists.intro; refine ⟨?_, ?_⟩; (focus (go_simp; try rfl)); (clear st; intro b3 w hb st; clear hb))); (try simp only [nsl, Value.cells, unB] at st); (try clear hc); have hc := st.facts; (try simp only [nfl, nft, Nat.reduceAdd] at hc))
      refine Rg4.wp_region4_eq #[0, 0, 0, 6, 14, 31] [] [0, 4] (fun _ => True) [0, 1, 2, 3, 4, 5] (by kernel_rfl) (by kernel_rfl) (by kernel_rfl) (by kernel_rfl) (show Rg4.PB _ by repeat (first | with_reducible exact Rg4.pb_body | with_reducible exact Rg4.pb_bodyD rfl | with_reducible refine Rg4.pb_then ?_ | with_reducible refine Rg4.pb_inBlock ?_ | with_reducible refine Rg4.pb_noGoto ?_ | with_reducible assumption)) (trivial) ?_
      replace st := st.drew
      change Rg4.wp4 _ _ _ _ _ _ _ _ _ (World.drew _) _ _
      generalize World.drew _ = w at st ⊢
      (try clear hc); have hc := st.facts; (try simp only [nfl, nft, Nat.reduceAdd] at hc)
      (refine Rg4.w4_read (Rg4.want_none rfl) rfl rfl ?_; apply Exists.intro; refine ⟨fun w' hw' hcl' => ?_, ?_⟩; focus (subst hw'; have r0 := st.oldCell (i := 0) get0 HC.out.1; have r1 := st.oldCell (i := 0) get0 HC.out.2.1; have r2 := st.oldCell (i := 0) get0 HC.out.2.2; (focus (first | (go_simp; done) | (go_simp; first | rfl | (rw [if_neg] <;> first | rfl | omega) | (rw [if_pos] <;> first | rfl | omega))))); (try simp only [Rg4.nrm]))
      iterate 3 (refine Rg4.w4_any (Rg4.want_none rfl) rfl ?_; apply Exists.intro; refine ⟨fun w' => ?_, ?_⟩; (focus (first | (go_simp; done) | (go_simp; first | rfl | (rw [if_neg] <;> first | rfl | omega) | (rw [if_pos] <;> first | rfl | omega)))); (try simp only [Rg4.nrm]))
      (refine Rg4.w4_read (Rg4.want_none rfl) rfl rfl ?_; apply Exists.intro; refine ⟨fun w' hw' hcl' => ?_, ?_⟩; focus (subst hw'; have r0 := st.oldCell (i := 0) get0 HC.out.1; have r1 := st.oldCell (i := 0) get0 HC.out.2.1; have r2 := st.oldCell (i := 0) get0 HC.out.2.2; (focus (first | (go_simp; done) | (go_simp; first | rfl | (rw [if_neg] <;> first | rfl | omega) | (rw [if_pos] <;> first | rfl | omega))))); (try simp only [Rg4.nrm]))
      (refine Rg4.w4_any (Rg4.want_none rfl) rfl ?_; apply Exists.intro; refine ⟨fun w' => ?_, ?_⟩; (focus (first | (go_simp; done) | (go_simp; first | rfl | (rw [if_neg] <;> first | rfl | omega) | (rw [if_pos] <;> first | rfl | omega)))); (try simp only [Rg4.nrm]))
      refine Rg4.w4_nil (fun w' hw' hcl' _ => ?_); subst hw'; clear hcl'
      cases hr : factEq (⟨(ho, hd), nw⟩ : FactT) (⟨(ho', hd'), nw'⟩ : FactT) with
      | true =>
        have HF : Hid (fpI l (⟨(ho, hd), nw⟩ : FactT) = (j : Int)) := Lib.hid (by rw [factEq_eq, decide_eq_true_eq] at hr; exact fpI_hit HX.out.1 hr.symm HT.out)
        clear hr
        go_wp2_with ((((with_reducible refine wl_box ?_ (fun K hK => ?_)); rfl; refine owp_box (o := ⟨some 3, _, _, _, _, _⟩) rfl st ?_; apply Exists.intro; refine ⟨?_, ?_⟩; (focus (go_simp; try rfl)); (clear st; intro b3 w hb st; clear hb))); (try simp only [nsl, Value.cells, unB] at st); (try clear hc); have hc := st.facts; (try simp only [nfl, nft, Nat.reduceAdd] at hc))
        go_ret
        exact ⟨by rw [HF.out]; rfl, st.ext0⟩
      | false =>
        have HF : Hid ((⟨(ho, hd), nw⟩ : FactT) ∉ l.take (j + 1)) := Lib.hid (by
          rw [factEq_eq, decide_eq_false_iff_not] at hr
          rw [HX.out.1]
          intro q
          rcases List.mem_append.1 q with q | q
          · exact HT.out q
          · exact hr (List.mem_singleton.1 q))
        clear hr
        go_wp2_with ((((with_reducible refine wl_box ?_ (fun K hK => ?_)); rfl; refine owp_box (o := ⟨some 3, _, _, _, _, _⟩) rfl st ?_; apply Exists.intro; refine ⟨?_, ?_⟩; (focus (go_simp; try rfl)); (clear st; intro b3 w hb st; clear hb))); (try simp only [nsl, Value.cells, unB] at st); (try clear hc); have hc := st.facts; (try simp only [nfl, nft, Nat.reduceAdd] at hc))
        go_roundg (n - (j + 1))
        case measure => omega
        case rel => exact ⟨j + 1, by omega, by omega, by first | rfl | trivial | go_num, HF, by simpa [S] using st⟩
    · obtain rfl : j = n := by omega
      have HF : Hid ((⟨(ho, hd), nw⟩ : FactT) ∉ l) := Lib.hid (by have := HT.out; rwa [List.take_of_length_le (by have := HNL.out; omega)] at this)
      go_wp2_with ((((with_reducible refine wl_box ?_ (fun K hK => ?_)); rfl; refine owp_box (o := ⟨some 3, _, _, _, _, _⟩) rfl st ?_; apply Exists.intro; refine ⟨?_, ?_⟩; (focus (go_simp; try rfl)); (clear st; intro b3 w hb st; clear hb))); (try simp only [nsl, Value.cells, unB] at st); (try clear hc); have hc := st.facts; (try simp only [nfl, nft, Nat.reduceAdd] at hc))
      go_ret
      exact ⟨by rw [fpI_miss HF.out]; rfl, st.ext0⟩
set_option maxRecDepth 100000 in
set_option maxHeartbeats 2000000 in
theorem growFirst_any (g : Nat) (lv cv : Value) (fa : Option Addr) (m fc i : Nat) (F : List FactT) (y : FactT) (W : World) (hb : Blk W g [lv, .slice fa m fc, cv]) (hf : Fl W fa m F) (hi : i ≤ m) (hm : m ≤ fc) (hn : m ≤ 2000000) :
    Calls Tryz.prog 54 #[.pointer (some ⟨g, 0, none⟩), fV y, .int .i64 (i : Int)] W fun e w' => e = .returned (.int .i64 (fpI (F.take i) y)) ∧ Ext W w' := by
  have HI := Lib.hid (fun W' (hx : Ext W W') => factIdx_any fa i fc (F.take i) y W' (Fl.pre (Arr.ext hf hx) i hi) (by omega))
  have r1 := hb.cell 1
  simp only [List.getElem?_cons_zero, List.getElem?_cons_succ] at r1
  obtain ⟨v, hv⟩ : ∃ v, fpI (F.take i) y = v := ⟨_, rfl⟩
  rw [hv] at HI ⊢
  clear hb hf hv
  obtain ⟨⟨o, d⟩, wh⟩ := y
  have st := Own.startOld W
  have st1 := st.addEl (i := 0) get0 g 1 (.slice fa m fc) [] ⟨r1, trivial⟩
  clear st r1
  have st := st1
  clear st1
  unfold fV S at HI ⊢
  simp only [List.cons_append, List.nil_append] at HI st ⊢
  (try simp only [nsl, Value.cells, unB] at st)
  (try clear hc); have hc := st.facts; (try simp only [nfl, nft, elI, elF, Nat.reduceAdd] at hc)
  go_enter Tryz.func54, Tryz.ntmps54
  go_wp2_with ((((with_reducible refine wl_box ?_ (fun K hK => ?_)); rfl; refine owp_box (o := ⟨some 4, _, _, _, _, _⟩) rfl st ?_; apply Exists.intro; refine ⟨?_, ?_⟩; (focus (go_simp; try rfl)); (clear st; intro b4 w hb st; clear hb))); (try simp only [nsl, Value.cells, unB] at st); (try clear hc); have hc := st.facts; (try simp only [nfl, nft, elI, elF, Nat.reduceAdd] at hc))
  refine Rg4.wp_region4_eq #[0, 1, 3, 7, 0, 31, 0, 127, 255] [7] [3, 6] (fun _ => True) [0, 1, 2, 3, 4, 5, 6, 7, 8] (by kernel_rfl) (by kernel_rfl) (by kernel_rfl) (by kernel_rfl) (show Rg4.PB _ by repeat (first | with_reducible exact Rg4.pb_body | with_reducible exact Rg4.pb_bodyD rfl | with_reducible refine Rg4.pb_then ?_ | with_reducible refine Rg4.pb_inBlock ?_ | with_reducible refine Rg4.pb_noGoto ?_ | with_reducible assumption)) (trivial) ?_
  replace st := st.drew
  change Rg4.wp4 _ _ _ _ _ _ _ _ _ (World.drew _) _ _
  generalize World.drew _ = w at st ⊢
  (try clear hc); have hc := st.facts; (try simp only [nfl, nft, elI, elF, Nat.reduceAdd] at hc)
  iterate 3 (refine Rg4.w4_any (Rg4.want_none rfl) rfl ?_; apply Exists.intro; refine ⟨fun w' => ?_, ?_⟩; (focus (first | (go_simp; done) | (go_simp; first | rfl | (rw [if_neg] <;> first | rfl | omega) | (rw [if_pos] <;> first | rfl | omega)))); (try simp only [Rg4.nrm]))
  (refine Rg4.w4_read (Rg4.want_none rfl) rfl rfl ?_; apply Exists.intro; refine ⟨fun w' hw' hcl' => ?_, ?_⟩; focus (subst hw'; (focus (first | (go_simp; done) | (go_simp; first | rfl | (rw [if_neg] <;> first | rfl | omega) | (rw [if_pos] <;> first | rfl | omega))))); (try simp only [Rg4.nrm]))
  iterate 2 (refine Rg4.w4_any (Rg4.want_none rfl) rfl ?_; apply Exists.intro; refine ⟨fun w' => ?_, ?_⟩; (focus (first | (go_simp; done) | (go_simp; first | rfl | (rw [if_neg] <;> first | rfl | omega) | (rw [if_pos] <;> first | rfl | omega)))); (try simp only [Rg4.nrm]))
  (refine Rg4.w4_read (Rg4.want_none rfl) rfl rfl ?_; apply Exists.intro; refine ⟨fun w' hw' hcl' => ?_, ?_⟩; focus (subst hw'; (focus (first | (go_simp; done) | (go_simp; first | rfl | (rw [if_neg] <;> first | rfl | omega) | (rw [if_pos] <;> first | rfl | omega))))); (try simp only [Rg4.nrm]))
  refine Rg4.w4_bar (Rg4.want_none rfl) rfl (fun w' hw' hcl _ K hK => ?_)
  subst hw'
  go_wp2_with fail
  refine (HI.out _ st.ext0).mono ?_
  rintro en w ⟨rfl, hx⟩
  replace st := st.ext hx
  clear hx
  (try clear hc); have hc := st.facts; (try simp only [nfl, nft, elI, elF, Nat.reduceAdd] at hc)
  refine hK _ _ ⟨trivial, ?_⟩
  clear hK
  (try simp only [Rg4.nrm])
  (refine Rg4.w4_any (Rg4.want_none rfl) rfl ?_; apply Exists.intro; refine ⟨fun w' => ?_, ?_⟩; (focus (first | (go_simp; done) | (go_simp; first | rfl | (rw [if_neg] <;> first | rfl | omega) | (rw [if_pos] <;> first | rfl | omega)))); (try simp only [Rg4.nrm]))
  refine Rg4.w4_nil (fun w' hw' hcl' _ => ?_); subst hw'; clear hcl'
  go_wp2_with fail
  go_ret
  exact ⟨rfl, st.ext0⟩
end Go.Proofs.YtdfdnedcaodmkaaGreat

namespace Go.Proofs.YtdfdnedcaodmkaaGreat
set_option linter.unusedSimpArgs false
set_option linter.unusedVariables false
open Go Go.RowKit
instance fltIx : Flt Nat := ⟨1, fun p => [.int .i64 (p : Int)], fun _ => rfl, by decide, fun x u hu => by simp at hu; subst hu; rfl⟩
theorem linkP_no {F : List FactT} {b : Role} {e who : List UInt8} (h : ∀ y ∈ F, linkQ F b e who y = false) : linkP F b e who = [] := by
  unfold linkP
  rw [List.findIdx?_eq_none_iff.2 (fun y hy => h y hy)]
theorem linkP_hit {F : List FactT} {b : Role} {e who : List UInt8} {x : FactT} {j : Nat} (hj : F[j]? = some x) (h : ∀ y ∈ F.take j, linkQ F b e who y = false) (hr : x.r = b) (hm : (⟨(x.w, e), who⟩ : FactT) ∈ F) : linkP F b e who = [j, F.idxOf ⟨(x.w, e), who⟩] := by
  have hjl : j < F.length := (List.getElem?_eq_some_iff.1 hj).1
  have hx : F[j] = x := (List.getElem?_eq_some_iff.1 hj).2
  have : F.findIdx? (linkQ F b e who) = some j := by
    rw [List.findIdx?_eq_some_iff_getElem]
    refine ⟨hjl, by rw [hx]; unfold linkQ; rw [decide_eq_true hr, decide_eq_true hm]; rfl, fun i hi => ?_⟩
    have h1 : F[i] ∈ F.take j := by
      rw [List.mem_take_iff_getElem]
      exact ⟨i, by omega, rfl⟩
    rw [h _ h1]
    decide
  unfold linkP
  rw [this]
  simp only [hj]
  rfl
theorem take_old {F : List FactT} {x : FactT} {j : Nat} (hj : F[j]? = some x) (hv : fpI F x ≠ j) : x ∈ F.take j := by
  have hjl : j < F.length := (List.getElem?_eq_some_iff.1 hj).1
  have hx : F[j] = x := (List.getElem?_eq_some_iff.1 hj).2
  apply Decidable.byContradiction
  intro h
  exact hv (fpI_hit (x := x) (by rw [← List.take_append_getElem hjl, hx]) rfl h)
set_option maxRecDepth 100000 in
set_option maxHeartbeats 8000000 in
theorem growLinked_any (g : Nat) (lv cv : Value) (fa : Option Addr) (m fc n : Nat) (F : List FactT) (x : StepT) (W : World) (hb : Blk W g [lv, .slice fa m fc, cv]) (hf : Fl W fa m F) (hi : n ≤ m) (hm : m ≤ fc) (hn : m ≤ 2000000) :
    Calls Tryz.prog 55 #[.pointer (some ⟨g, 0, none⟩), stV x, .int .i64 (n : Int)] W fun e w' => ∃ va vc, e = .returned (.slice va (linkP (F.take n) x.c.b x.c.e x.f.w).length vc) ∧ FreshI W w' (rowI 3 1 (.slice va (linkP (F.take n) x.c.b x.c.e x.f.w).length vc) (linkP (F.take n) x.c.b x.c.e x.f.w).length (cellsL (linkP (F.take n) x.c.b x.c.e x.f.w))) := by
  have HF1 := Lib.hid (fun W' (hx : Ext W W') y => growFirst_any g lv cv fa m fc n F y W' (hb.ext hx) (Arr.ext hf hx) hi hm hn)
  have hfn := Fl.pre hf n hi
  have HI := Lib.hid hi
  have r1 := hb.cell 1
  simp only [List.getElem?_cons_zero, List.getElem?_cons_succ] at r1
  clear hb hf
  generalize F.take n = G at *
  have H := Lib.hid hfn
  have HN := Lib.hid hfn.1
  clear hfn
  obtain ⟨ks, hks⟩ : ∃ ks, linkP G x.c.b x.c.e x.f.w = ks := ⟨_, rfl⟩
  rw [hks]
  have HKS := Lib.hid hks
  clear hks
  obtain ⟨⟨k, ⟨ho, hd⟩, nw, ⟨bo, bd⟩, ⟨co, cd⟩, we⟩, ⟨⟨ro, rd⟩, fw⟩⟩ := x
  have st := Own.startOld W
  have st1 := st.addEl (i := 0) get0 g 1 (.slice fa m fc) [] ⟨r1, trivial⟩
  clear st r1
  have st := st1
  clear st1
  unfold stV S
  simp only [List.cons_append, List.nil_append] at HKS st ⊢
  (try simp only [nsl, Value.cells, unB] at st)
  (try clear hc); have hc := st.facts; (try simp only [nfl, nft, elI, elF, Nat.reduceAdd] at hc)
  go_enter Tryz.func55, Tryz.ntmps55
  go_wp2_with ((first
        | ((with_reducible refine wl_box ?_ (fun K hK => ?_)); rfl; refine owp_box (o := ⟨some 4, _, _, _, _, _⟩) rfl st ?_; apply Exists.intro; refine ⟨?_, ?_⟩; (focus (go_simp; try rfl)); (clear st; intro b4 w hb st; clear hb))
        | ((with_reducible refine wl_alloc ?_ (fun K hK => ?_)); rfl; refine owp_alloc (o := ⟨some 8, _, _, _, _, _⟩) rfl st ?_; apply Exists.intro; apply Exists.intro; refine ⟨?_, ?_⟩; (focus (first | (go_simp; done) | (go_simp; rfl))); (clear st; intro b8 w hb st; clear hb))
        | ((with_reducible refine wl_store ?_ (fun K hK => ?_)); rfl; refine owp_store rfl st ?_; apply Exists.intro; apply Exists.intro; refine ⟨?_, ?_, ?_⟩; (focus (go_simp; try rfl)); (focus (go_simp; try rfl)); (first | (with_reducible refine ⟨0, _, _, _, _, get0, rfl, rfl, ?_, ?_, ?_, ?_⟩) | (with_reducible refine ⟨1, _, _, _, _, get1, rfl, rfl, ?_, ?_, ?_, ?_⟩) | (with_reducible refine ⟨2, _, _, _, _, get2, rfl, rfl, ?_, ?_, ?_, ?_⟩) | (with_reducible refine ⟨3, _, _, _, _, get3, rfl, rfl, ?_, ?_, ?_, ?_⟩) | (with_reducible refine ⟨4, _, _, _, _, get4, rfl, rfl, ?_, ?_, ?_, ?_⟩) | (with_reducible refine ⟨5, _, _, _, _, get5, rfl, rfl, ?_, ?_, ?_, ?_⟩) | (with_reducible refine ⟨6, _, _, _, _, get6, rfl, rfl, ?_, ?_, ?_, ?_⟩)); (kernel_rfl); (simp [Value.cells]); (rfl); (clear st; intro w st))
        | ((with_reducible refine wl_alloc ?_ (fun K hK => ?_)); rfl; refine owp_alloc (o := ⟨some 9, _, _, _, _, _⟩) rfl st ?_; apply Exists.intro; apply Exists.intro; refine ⟨?_, ?_⟩; (focus (first | (go_simp; done) | (go_simp; rfl))); (clear st; intro b9 w hb st; clear hb))
        | ((with_reducible refine wl_buildSlice ?_ (fun K hK => ?_)); rfl; refine owp_buildSlice (o := ⟨some 55, _, _, _, _, _⟩) rfl st ?_; apply Exists.intro; apply Exists.intro; apply Exists.intro; apply Exists.intro; refine ⟨?_, ?_⟩; (focus (go_simp; (first | done | exact ⟨⟨rfl, rfl⟩, rfl⟩ | rfl))); (clear st; intro b55 w hb st; clear hb))); (try simp only [nsl, Value.cells, unB] at st); (try clear hc); have hc := st.facts; (try simp only [nfl, nft, elI, elF, Nat.reduceAdd] at hc))
  go_loopg [18] n (fun q i wr => ∃ (j : Nat), j ≤ n ∧ q = n - j ∧ i = .int .i64 (j : Int) ∧ Hid (∀ y ∈ G.take j, linkQ G (bo, bd) we fw y = false) ∧ Own (fun _ => False) (fun _ => True) W [oldI W, elI g [(1, .slice fa m fc)], blkI b4 [.int .i64 k, .string ⟨ho.toArray⟩, .string ⟨hd.toArray⟩, .string ⟨nw.toArray⟩, .string ⟨bo.toArray⟩, .string ⟨bd.toArray⟩, .string ⟨co.toArray⟩, .string ⟨cd.toArray⟩, .string ⟨we.toArray⟩, .string ⟨ro.toArray⟩, .string ⟨rd.toArray⟩, .string ⟨fw.toArray⟩]] wr)
  case atStart => exact ⟨0, by omega, by omega, rfl, Lib.hid (by simp), st⟩
  case round =>
    obtain ⟨j, hj, rfl, rfl, HT, st'⟩ := hrel
    clear st hc
    have st := st'
    clear st'
    (try simp only [nsl, Value.cells, unB] at st)
    (try clear hc); have hc := st.facts; (try simp only [nfl, nft, elI, elF, Nat.reduceAdd] at hc)
    by_cases hjn : j < n
    · obtain ⟨b, off, ha, hcell⟩ := H.out.fact (by omega)
      have hjl : j < G.length := by have := HN.out; omega
      obtain ⟨r0, r1, r2⟩ := hcell j G[j] (List.getElem?_eq_getElem hjl)
      replace r0 := st.oldCell (i := 0) get0 r0
      replace r1 := st.oldCell (i := 0) get0 r1
      replace r2 := st.oldCell (i := 0) get0 r2
      have HX := Lib.hid (List.getElem?_eq_getElem hjl)
      have HT1 : Hid (linkQ G (bo, bd) we fw G[j] = false → ∀ y ∈ G.take (j + 1), linkQ G (bo, bd) we fw y = false) := Lib.hid (fun q y hy => by
        rw [← List.take_append_getElem hjl] at hy
        rcases List.mem_append.1 hy with hy | hy
        · exact HT.out y hy
        · rw [List.mem_singleton.1 hy]; exact q)
      clear hcell
      generalize G[j] = y at *
      obtain ⟨⟨yo, yd⟩, yw⟩ := y
      subst ha
      simp only at r0 r1 r2
      unfold S at r0 r1 r2
      have HFS := Lib.hid (HF1.out)
      cases hr : roleEq (yo, yd) (bo, bd) with
      | false =>
        have HQ : Hid (linkQ G (bo, bd) we fw ⟨(yo, yd), yw⟩ = false) := Lib.hid (by
          rw [roleEq_eq, decide_eq_false_iff_not] at hr
          unfold linkQ
          rw [decide_eq_false hr]
          rfl)
        go_wp2_with ((first
              | ((with_reducible refine wl_box ?_ (fun K hK => ?_)); rfl; refine owp_box (o := ⟨some 4, _, _, _, _, _⟩) rfl st ?_; apply Exists.intro; refine ⟨?_, ?_⟩; (focus (go_simp; try rfl)); (clear st; intro b4 w hb st; clear hb))
              | ((with_reducible refine wl_alloc ?_ (fun K hK => ?_)); rfl; refine owp_alloc (o := ⟨some 8, _, _, _, _, _⟩) rfl st ?_; apply Exists.intro; apply Exists.intro; refine ⟨?_, ?_⟩; (focus (first | (go_simp; done) | (go_simp; rfl))); (clear st; intro b8 w hb st; clear hb))
              | ((with_reducible refine wl_store ?_ (fun K hK => ?_)); rfl; refine owp_store rfl st ?_; apply Exists.intro; apply Exists.intro; refine ⟨?_, ?_, ?_⟩; (focus (go_simp; try rfl)); (focus (go_simp; try rfl)); (first | (with_reducible refine ⟨0, _, _, _, _, get0, rfl, rfl, ?_, ?_, ?_, ?_⟩) | (with_reducible refine ⟨1, _, _, _, _, get1, rfl, rfl, ?_, ?_, ?_, ?_⟩) | (with_reducible refine ⟨2, _, _, _, _, get2, rfl, rfl, ?_, ?_, ?_, ?_⟩) | (with_reducible refine ⟨3, _, _, _, _, get3, rfl, rfl, ?_, ?_, ?_, ?_⟩) | (with_reducible refine ⟨4, _, _, _, _, get4, rfl, rfl, ?_, ?_, ?_, ?_⟩) | (with_reducible refine ⟨5, _, _, _, _, get5, rfl, rfl, ?_, ?_, ?_, ?_⟩) | (with_reducible refine ⟨6, _, _, _, _, get6, rfl, rfl, ?_, ?_, ?_, ?_⟩)); (kernel_rfl); (simp [Value.cells]); (rfl); (clear st; intro w st))
              | ((with_reducible refine wl_alloc ?_ (fun K hK => ?_)); rfl; refine owp_alloc (o := ⟨some 9, _, _, _, _, _⟩) rfl st ?_; apply Exists.intro; apply Exists.intro; refine ⟨?_, ?_⟩; (focus (first | (go_simp; done) | (go_simp; rfl))); (clear st; intro b9 w hb st; clear hb))
              | ((with_reducible refine wl_buildSlice ?_ (fun K hK => ?_)); rfl; refine owp_buildSlice (o := ⟨some 55, _, _, _, _, _⟩) rfl st ?_; apply Exists.intro; apply Exists.intro; apply Exists.intro; apply Exists.intro; refine ⟨?_, ?_⟩; (focus (go_simp; (first | done | exact ⟨⟨rfl, rfl⟩, rfl⟩ | rfl))); (clear st; intro b55 w hb st; clear hb))); (try simp only [nsl, Value.cells, unB] at st); (try clear hc); have hc := st.facts; (try simp only [nfl, nft, elI, elF, Nat.reduceAdd] at hc))
        have st' := st.keep [0, 1, 2] (by decide) (by simp)
        go_roundg (n - (j + 1))
        case measure => omega
        case rel => exact ⟨j + 1, by omega, by omega, by first | rfl | trivial | go_num, Lib.hid (HT1.out HQ.out), by simpa [pick] using st'⟩
      | true =>
        have HR : Hid ((yo, yd) = (bo, bd)) := Lib.hid (by rwa [roleEq_eq, decide_eq_true_eq] at hr)
        obtain ⟨v, hv⟩ : ∃ v, fpI G (⟨(yo, yd), yw⟩ : FactT) = v := ⟨_, rfl⟩
        have HV := Lib.hid hv
        have HC1 : Hid (∀ W', Ext W W' → Calls Tryz.prog 54 #[.pointer (some ⟨g, 0, none⟩), fV ⟨(yo, yd), yw⟩, .int .i64 (n : Int)] W' fun e w' => e = .returned (.int .i64 v) ∧ Ext W' w') := Lib.hid (fun W' hx => by have := HF1.out W' hx ⟨(yo, yd), yw⟩; rwa [hv] at this)
        clear hv
        unfold fV S at HC1
        go_wp2_with ((first
              | ((with_reducible refine wl_box ?_ (fun K hK => ?_)); rfl; refine owp_box (o := ⟨some 4, _, _, _, _, _⟩) rfl st ?_; apply Exists.intro; refine ⟨?_, ?_⟩; (focus (go_simp; try rfl)); (clear st; intro b4 w hb st; clear hb))
              | ((with_reducible refine wl_alloc ?_ (fun K hK => ?_)); rfl; refine owp_alloc (o := ⟨some 8, _, _, _, _, _⟩) rfl st ?_; apply Exists.intro; apply Exists.intro; refine ⟨?_, ?_⟩; (focus (first | (go_simp; done) | (go_simp; rfl))); (clear st; intro b8 w hb st; clear hb))
              | ((with_reducible refine wl_store ?_ (fun K hK => ?_)); rfl; refine owp_store rfl st ?_; apply Exists.intro; apply Exists.intro; refine ⟨?_, ?_, ?_⟩; (focus (go_simp; try rfl)); (focus (go_simp; try rfl)); (first | (with_reducible refine ⟨0, _, _, _, _, get0, rfl, rfl, ?_, ?_, ?_, ?_⟩) | (with_reducible refine ⟨1, _, _, _, _, get1, rfl, rfl, ?_, ?_, ?_, ?_⟩) | (with_reducible refine ⟨2, _, _, _, _, get2, rfl, rfl, ?_, ?_, ?_, ?_⟩) | (with_reducible refine ⟨3, _, _, _, _, get3, rfl, rfl, ?_, ?_, ?_, ?_⟩) | (with_reducible refine ⟨4, _, _, _, _, get4, rfl, rfl, ?_, ?_, ?_, ?_⟩) | (with_reducible refine ⟨5, _, _, _, _, get5, rfl, rfl, ?_, ?_, ?_, ?_⟩) | (with_reducible refine ⟨6, _, _, _, _, get6, rfl, rfl, ?_, ?_, ?_, ?_⟩)); (kernel_rfl); (simp [Value.cells]); (rfl); (clear st; intro w st))
              | ((with_reducible refine wl_alloc ?_ (fun K hK => ?_)); rfl; refine owp_alloc (o := ⟨some 9, _, _, _, _, _⟩) rfl st ?_; apply Exists.intro; apply Exists.intro; refine ⟨?_, ?_⟩; (focus (first | (go_simp; done) | (go_simp; rfl))); (clear st; intro b9 w hb st; clear hb))
              | ((with_reducible refine wl_buildSlice ?_ (fun K hK => ?_)); rfl; refine owp_buildSlice (o := ⟨some 55, _, _, _, _, _⟩) rfl st ?_; apply Exists.intro; apply Exists.intro; apply Exists.intro; apply Exists.intro; refine ⟨?_, ?_⟩; (focus (go_simp; (first | done | exact ⟨⟨rfl, rfl⟩, rfl⟩ | rfl))); (clear st; intro b55 w hb st; clear hb))); (try simp only [nsl, Value.cells, unB] at st); (try clear hc); have hc := st.facts; (try simp only [nfl, nft, elI, elF, Nat.reduceAdd] at hc))
        refine (HC1.out _ st.ext0).mono ?_
        rintro en w ⟨rfl, hx⟩
        replace st := st.ext hx
        clear hx
        (try clear hc); have hc := st.facts; (try simp only [nfl, nft, elI, elF, Nat.reduceAdd] at hc)
        by_cases hvj : v = (j : Int)
        · subst hvj
          obtain ⟨u, hu⟩ : ∃ u, fpI G (⟨(yw, we), fw⟩ : FactT) = u := ⟨_, rfl⟩
          have HU := Lib.hid hu
          have HC2 : Hid (∀ W', Ext W W' → Calls Tryz.prog 54 #[.pointer (some ⟨g, 0, none⟩), fV ⟨(yw, we), fw⟩, .int .i64 (n : Int)] W' fun e w' => e = .returned (.int .i64 u) ∧ Ext W' w') := Lib.hid (fun W' hx => by have := HF1.out W' hx ⟨(yw, we), fw⟩; rwa [hu] at this)
          clear hu
          unfold fV S at HC2
          go_wp2_with ((first
                | ((with_reducible refine wl_box ?_ (fun K hK => ?_)); rfl; refine owp_box (o := ⟨some 4, _, _, _, _, _⟩) rfl st ?_; apply Exists.intro; refine ⟨?_, ?_⟩; (focus (go_simp; try rfl)); (clear st; intro b4 w hb st; clear hb))
                | ((with_reducible refine wl_alloc ?_ (fun K hK => ?_)); rfl; refine owp_alloc (o := ⟨some 8, _, _, _, _, _⟩) rfl st ?_; apply Exists.intro; apply Exists.intro; refine ⟨?_, ?_⟩; (focus (first | (go_simp; done) | (go_simp; rfl))); (clear st; intro b8 w hb st; clear hb))
                | ((with_reducible refine wl_store ?_ (fun K hK => ?_)); rfl; refine owp_store rfl st ?_; apply Exists.intro; apply Exists.intro; refine ⟨?_, ?_, ?_⟩; (focus (go_simp; try rfl)); (focus (go_simp; try rfl)); (first | (with_reducible refine ⟨0, _, _, _, _, get0, rfl, rfl, ?_, ?_, ?_, ?_⟩) | (with_reducible refine ⟨1, _, _, _, _, get1, rfl, rfl, ?_, ?_, ?_, ?_⟩) | (with_reducible refine ⟨2, _, _, _, _, get2, rfl, rfl, ?_, ?_, ?_, ?_⟩) | (with_reducible refine ⟨3, _, _, _, _, get3, rfl, rfl, ?_, ?_, ?_, ?_⟩) | (with_reducible refine ⟨4, _, _, _, _, get4, rfl, rfl, ?_, ?_, ?_, ?_⟩) | (with_reducible refine ⟨5, _, _, _, _, get5, rfl, rfl, ?_, ?_, ?_, ?_⟩) | (with_reducible refine ⟨6, _, _, _, _, get6, rfl, rfl, ?_, ?_, ?_, ?_⟩)); (kernel_rfl); (simp [Value.cells]); (rfl); (clear st; intro w st))
                | ((with_reducible refine wl_alloc ?_ (fun K hK => ?_)); rfl; refine owp_alloc (o := ⟨some 9, _, _, _, _, _⟩) rfl st ?_; apply Exists.intro; apply Exists.intro; refine ⟨?_, ?_⟩; (focus (first | (go_simp; done) | (go_simp; rfl))); (clear st; intro b9 w hb st; clear hb))
                | ((with_reducible refine wl_buildSlice ?_ (fun K hK => ?_)); rfl; refine owp_buildSlice (o := ⟨some 55, _, _, _, _, _⟩) rfl st ?_; apply Exists.intro; apply Exists.intro; apply Exists.intro; apply Exists.intro; refine ⟨?_, ?_⟩; (focus (go_simp; (first | done | exact ⟨⟨rfl, rfl⟩, rfl⟩ | rfl))); (clear st; intro b55 w hb st; clear hb))); (try simp only [nsl, Value.cells, unB] at st); (try clear hc); have hc := st.facts; (try simp only [nfl, nft, elI, elF, Nat.reduceAdd] at hc))
          refine (HC2.out _ st.ext0).mono ?_
          rintro en w ⟨rfl, hx⟩
          replace st := st.ext hx
          clear hx
          (try clear hc); have hc := st.facts; (try simp only [nfl, nft, elI, elF, Nat.reduceAdd] at hc)
          by_cases hu0 : 0 ≤ u
          · have HM : Hid ((⟨(yw, we), fw⟩ : FactT) ∈ G ∧ u = ((G.idxOf ⟨(yw, we), fw⟩ : Nat) : Int)) := Lib.hid (by
              have e := HU.out
              unfold fpI at e
              split at e
              · rename_i q; exact ⟨q, e.symm⟩
              · omega)
            have HE : Hid (ks = [j, G.idxOf ⟨(yw, we), fw⟩]) := Lib.hid (by
              rw [← HKS.out]
              exact linkP_hit HX.out HT.out HR.out HM.out.1)
            have HUE := Lib.hid HM.out.2
            generalize G.idxOf ⟨(yw, we), fw⟩ = ui at *
            obtain rfl := HUE.out
            obtain rfl := HE.out
            go_wp2_with (first
                | ((with_reducible refine wl_buildSlice ?_ (fun K hK => ?_)); (rfl); (refine owp_buildRow (o := ⟨some 55, _, _, _, _, _⟩) rfl st 3 1 ?_; refine ⟨2, #[.int .i64 (j : Int), .int .i64 (ui : Int)], ?_, by simp, by simp [maxLen], ?_⟩; (focus (go_simp; (first | done | rfl))); (clear st; intro b55 w hb st; clear hb)); (try simp only [nsl, Value.cells, unB] at st); (try clear hc); have hc := st.facts; (try simp only [nfl, nft, elI, elF, Nat.reduceAdd] at hc))
                | ((first
                  | ((with_reducible refine wl_box ?_ (fun K hK => ?_)); rfl; refine owp_box (o := ⟨some 4, _, _, _, _, _⟩) rfl st ?_; apply Exists.intro; refine ⟨?_, ?_⟩; (focus (go_simp; try rfl)); (clear st; intro b4 w hb st; clear hb))
                  | ((with_reducible refine wl_alloc ?_ (fun K hK => ?_)); rfl; refine owp_alloc (o := ⟨some 8, _, _, _, _, _⟩) rfl st ?_; apply Exists.intro; apply Exists.intro; refine ⟨?_, ?_⟩; (focus (first | (go_simp; done) | (go_simp; rfl))); (clear st; intro b8 w hb st; clear hb))
                  | ((with_reducible refine wl_store ?_ (fun K hK => ?_)); rfl; refine owp_store rfl st ?_; apply Exists.intro; apply Exists.intro; refine ⟨?_, ?_, ?_⟩; (focus (go_simp; try rfl)); (focus (go_simp; try rfl)); (first | (with_reducible refine ⟨0, _, _, _, _, get0, rfl, rfl, ?_, ?_, ?_, ?_⟩) | (with_reducible refine ⟨1, _, _, _, _, get1, rfl, rfl, ?_, ?_, ?_, ?_⟩) | (with_reducible refine ⟨2, _, _, _, _, get2, rfl, rfl, ?_, ?_, ?_, ?_⟩) | (with_reducible refine ⟨3, _, _, _, _, get3, rfl, rfl, ?_, ?_, ?_, ?_⟩) | (with_reducible refine ⟨4, _, _, _, _, get4, rfl, rfl, ?_, ?_, ?_, ?_⟩) | (with_reducible refine ⟨5, _, _, _, _, get5, rfl, rfl, ?_, ?_, ?_, ?_⟩) | (with_reducible refine ⟨6, _, _, _, _, get6, rfl, rfl, ?_, ?_, ?_, ?_⟩)); (kernel_rfl); (simp [Value.cells]); (rfl); (clear st; intro w st))
                  | ((with_reducible refine wl_alloc ?_ (fun K hK => ?_)); rfl; refine owp_alloc (o := ⟨some 9, _, _, _, _, _⟩) rfl st ?_; apply Exists.intro; apply Exists.intro; refine ⟨?_, ?_⟩; (focus (first | (go_simp; done) | (go_simp; rfl))); (clear st; intro b9 w hb st; clear hb))
                  | ((with_reducible refine wl_buildSlice ?_ (fun K hK => ?_)); rfl; refine owp_buildSlice (o := ⟨some 55, _, _, _, _, _⟩) rfl st ?_; apply Exists.intro; apply Exists.intro; apply Exists.intro; apply Exists.intro; refine ⟨?_, ?_⟩; (focus (go_simp; (first | done | exact ⟨⟨rfl, rfl⟩, rfl⟩ | rfl))); (clear st; intro b55 w hb st; clear hb))); (try simp only [nsl, Value.cells, unB] at st); (try clear hc); have hc := st.facts; (try simp only [nfl, nft, elI, elF, Nat.reduceAdd] at hc)))
            go_ret
            exact ⟨_, _, rfl, st.toFresh (i := 5) get5⟩
          · have HQ : Hid (linkQ G (bo, bd) we fw ⟨(yo, yd), yw⟩ = false) := Lib.hid (by
              have e := HU.out
              unfold fpI at e
              split at e
              · omega
              · rename_i q
                unfold linkQ
                rw [decide_eq_false (p := (⟨(yw, we), fw⟩ : FactT) ∈ G) q, Bool.and_false])
            go_wp2_with ((first
                  | ((with_reducible refine wl_box ?_ (fun K hK => ?_)); rfl; refine owp_box (o := ⟨some 4, _, _, _, _, _⟩) rfl st ?_; apply Exists.intro; refine ⟨?_, ?_⟩; (focus (go_simp; try rfl)); (clear st; intro b4 w hb st; clear hb))
                  | ((with_reducible refine wl_alloc ?_ (fun K hK => ?_)); rfl; refine owp_alloc (o := ⟨some 8, _, _, _, _, _⟩) rfl st ?_; apply Exists.intro; apply Exists.intro; refine ⟨?_, ?_⟩; (focus (first | (go_simp; done) | (go_simp; rfl))); (clear st; intro b8 w hb st; clear hb))
                  | ((with_reducible refine wl_store ?_ (fun K hK => ?_)); rfl; refine owp_store rfl st ?_; apply Exists.intro; apply Exists.intro; refine ⟨?_, ?_, ?_⟩; (focus (go_simp; try rfl)); (focus (go_simp; try rfl)); (first | (with_reducible refine ⟨0, _, _, _, _, get0, rfl, rfl, ?_, ?_, ?_, ?_⟩) | (with_reducible refine ⟨1, _, _, _, _, get1, rfl, rfl, ?_, ?_, ?_, ?_⟩) | (with_reducible refine ⟨2, _, _, _, _, get2, rfl, rfl, ?_, ?_, ?_, ?_⟩) | (with_reducible refine ⟨3, _, _, _, _, get3, rfl, rfl, ?_, ?_, ?_, ?_⟩) | (with_reducible refine ⟨4, _, _, _, _, get4, rfl, rfl, ?_, ?_, ?_, ?_⟩) | (with_reducible refine ⟨5, _, _, _, _, get5, rfl, rfl, ?_, ?_, ?_, ?_⟩) | (with_reducible refine ⟨6, _, _, _, _, get6, rfl, rfl, ?_, ?_, ?_, ?_⟩)); (kernel_rfl); (simp [Value.cells]); (rfl); (clear st; intro w st))
                  | ((with_reducible refine wl_alloc ?_ (fun K hK => ?_)); rfl; refine owp_alloc (o := ⟨some 9, _, _, _, _, _⟩) rfl st ?_; apply Exists.intro; apply Exists.intro; refine ⟨?_, ?_⟩; (focus (first | (go_simp; done) | (go_simp; rfl))); (clear st; intro b9 w hb st; clear hb))
                  | ((with_reducible refine wl_buildSlice ?_ (fun K hK => ?_)); rfl; refine owp_buildSlice (o := ⟨some 55, _, _, _, _, _⟩) rfl st ?_; apply Exists.intro; apply Exists.intro; apply Exists.intro; apply Exists.intro; refine ⟨?_, ?_⟩; (focus (go_simp; (first | done | exact ⟨⟨rfl, rfl⟩, rfl⟩ | rfl))); (clear st; intro b55 w hb st; clear hb))); (try simp only [nsl, Value.cells, unB] at st); (try clear hc); have hc := st.facts; (try simp only [nfl, nft, elI, elF, Nat.reduceAdd] at hc))
            have st' := st.keep [0, 1, 2] (by decide) (by simp)
            go_roundg (n - (j + 1))
            case measure => omega
            case rel => exact ⟨j + 1, by omega, by omega, by first | rfl | trivial | go_num, Lib.hid (HT1.out HQ.out), by simpa [pick] using st'⟩
        · have hne : (v == (j : Int)) = false := by simpa using hvj
          have HQ : Hid (linkQ G (bo, bd) we fw ⟨(yo, yd), yw⟩ = false) := Lib.hid (HT.out _ (take_old HX.out (by rw [HV.out]; exact hvj)))
          go_wp2_with ((first
                | ((with_reducible refine wl_box ?_ (fun K hK => ?_)); rfl; refine owp_box (o := ⟨some 4, _, _, _, _, _⟩) rfl st ?_; apply Exists.intro; refine ⟨?_, ?_⟩; (focus (go_simp; try rfl)); (clear st; intro b4 w hb st; clear hb))
                | ((with_reducible refine wl_alloc ?_ (fun K hK => ?_)); rfl; refine owp_alloc (o := ⟨some 8, _, _, _, _, _⟩) rfl st ?_; apply Exists.intro; apply Exists.intro; refine ⟨?_, ?_⟩; (focus (first | (go_simp; done) | (go_simp; rfl))); (clear st; intro b8 w hb st; clear hb))
                | ((with_reducible refine wl_store ?_ (fun K hK => ?_)); rfl; refine owp_store rfl st ?_; apply Exists.intro; apply Exists.intro; refine ⟨?_, ?_, ?_⟩; (focus (go_simp; try rfl)); (focus (go_simp; try rfl)); (first | (with_reducible refine ⟨0, _, _, _, _, get0, rfl, rfl, ?_, ?_, ?_, ?_⟩) | (with_reducible refine ⟨1, _, _, _, _, get1, rfl, rfl, ?_, ?_, ?_, ?_⟩) | (with_reducible refine ⟨2, _, _, _, _, get2, rfl, rfl, ?_, ?_, ?_, ?_⟩) | (with_reducible refine ⟨3, _, _, _, _, get3, rfl, rfl, ?_, ?_, ?_, ?_⟩) | (with_reducible refine ⟨4, _, _, _, _, get4, rfl, rfl, ?_, ?_, ?_, ?_⟩) | (with_reducible refine ⟨5, _, _, _, _, get5, rfl, rfl, ?_, ?_, ?_, ?_⟩) | (with_reducible refine ⟨6, _, _, _, _, get6, rfl, rfl, ?_, ?_, ?_, ?_⟩)); (kernel_rfl); (simp [Value.cells]); (rfl); (clear st; intro w st))
                | ((with_reducible refine wl_alloc ?_ (fun K hK => ?_)); rfl; refine owp_alloc (o := ⟨some 9, _, _, _, _, _⟩) rfl st ?_; apply Exists.intro; apply Exists.intro; refine ⟨?_, ?_⟩; (focus (first | (go_simp; done) | (go_simp; rfl))); (clear st; intro b9 w hb st; clear hb))
                | ((with_reducible refine wl_buildSlice ?_ (fun K hK => ?_)); rfl; refine owp_buildSlice (o := ⟨some 55, _, _, _, _, _⟩) rfl st ?_; apply Exists.intro; apply Exists.intro; apply Exists.intro; apply Exists.intro; refine ⟨?_, ?_⟩; (focus (go_simp; (first | done | exact ⟨⟨rfl, rfl⟩, rfl⟩ | rfl))); (clear st; intro b55 w hb st; clear hb))); (try simp only [nsl, Value.cells, unB] at st); (try clear hc); have hc := st.facts; (try simp only [nfl, nft, elI, elF, Nat.reduceAdd] at hc))
          have st' := st.keep [0, 1, 2] (by decide) (by simp)
          go_roundg (n - (j + 1))
          case measure => omega
          case rel => exact ⟨j + 1, by omega, by omega, by first | rfl | trivial | go_num, Lib.hid (HT1.out HQ.out), by simpa [pick] using st'⟩
    · obtain rfl : n = j := by omega
      have HE : Hid (ks = []) := Lib.hid (by
        rw [← HKS.out]
        exact linkP_no (by have := HT.out; rwa [List.take_of_length_le (by have := HN.out; omega)] at this))
      obtain rfl := HE.out
      go_wp2_with fail
      replace st := (st.row_nil 3 1)
      go_ret
      exact ⟨none, 0, rfl, st.toFresh (i := 3) get3⟩
end Go.Proofs.YtdfdnedcaodmkaaGreat

namespace Go.Proofs.YtdfdnedcaodmkaaGreat
set_option linter.unusedSimpArgs false
set_option linter.unusedVariables false
open Go Go.RowKit
theorem fpI_in {G : List FactT} {y : FactT} (h : y ∈ G) : fpI G y = ((G.idxOf y : Nat) : Int) := fpI_mem h
theorem leansF_2 {G : List FactT} {x : StepT} (k : x.c.k = 2) : leansF G x = [G.idxOf ⟨x.c.b, x.f.w⟩] := by unfold leansF; rw [if_pos k]
theorem leansF_4 {G : List FactT} {x : StepT} (k : x.c.k = 4) : leansF G x = [G.idxOf ⟨x.c.b, x.f.w⟩, G.idxOf ⟨x.c.c, x.f.w⟩] := by unfold leansF; rw [if_neg (by omega), if_pos k]
theorem leansF_3 {G : List FactT} {x : StepT} (k : x.c.k = 3) : leansF G x = linkP G x.c.b x.c.e x.f.w := by unfold leansF; rw [if_neg (by omega), if_neg (by omega), if_pos k]
theorem leansF_0 {G : List FactT} {x : StepT} (k2 : x.c.k ≠ 2) (k4 : x.c.k ≠ 4) (k3 : x.c.k ≠ 3) : leansF G x = [] := by unfold leansF; rw [if_neg k2, if_neg k4, if_neg k3]
set_option maxRecDepth 100000 in
set_option maxHeartbeats 8000000 in
theorem growLeans_any (g : Nat) (cv : Value) (la fa : Option Addr) (n lc m fc i : Nat) (l : List StepT) (F : List FactT) (x : StepT) (W : World) (hb : Blk W g [.slice la n lc, .slice fa m fc, cv]) (hl : Fl W la n l) (hf : Fl W fa m F) (hx : l[i]? = some x) (hi : i ≤ m) (hm : m ≤ fc) (hn : m ≤ 2000000) (hnl : n ≤ 2000000)
    (h2 : x.c.k = 2 → (⟨x.c.b, x.f.w⟩ : FactT) ∈ F.take i) (h4 : x.c.k = 4 → (⟨x.c.b, x.f.w⟩ : FactT) ∈ F.take i ∧ (⟨x.c.c, x.f.w⟩ : FactT) ∈ F.take i) :
    Calls Tryz.prog 31 #[.pointer (some ⟨g, 0, none⟩), .int .i64 (i : Int)] W fun e w' => ∃ va vc, e = .returned (.slice va (leansF (F.take i) x).length vc) ∧ FreshI W w' (rowI 3 1 (.slice va (leansF (F.take i) x).length vc) (leansF (F.take i) x).length (cellsL (leansF (F.take i) x))) := by
  have HF1 := Lib.hid (fun W' (hx : Ext W W') y => growFirst_any g (.slice la n lc) cv fa m fc i F y W' (hb.ext hx) (Arr.ext hf hx) hi hm hn)
  have HLK := Lib.hid (fun W' (hx : Ext W W') => growLinked_any g (.slice la n lc) cv fa m fc i F x W' (hb.ext hx) (Arr.ext hf hx) hi hm hn)
  have hin : i < n := by have := (List.getElem?_eq_some_iff.1 hx).1; have := hl.1; omega
  obtain ⟨b, off, e, hcell⟩ := hl.step (by omega)
  subst e
  obtain ⟨r0, r1, r2, r3, r4, r5, r6, r7, r8, r9, r10, r11⟩ := hcell i x hx
  have q0 := hb.cell 0
  have q1 := hb.cell 1
  simp only [List.getElem?_cons_zero, List.getElem?_cons_succ] at q0 q1
  clear hb hf hl hcell hx
  generalize F.take i = G at *
  have HKL := Lib.hid (leansF_2 (G := G) (x := x))
  have HK4 := Lib.hid (leansF_4 (G := G) (x := x))
  have HK3 := Lib.hid (leansF_3 (G := G) (x := x))
  have HK0 := Lib.hid (leansF_0 (G := G) (x := x))
  obtain ⟨ks, hks⟩ : ∃ ks, leansF G x = ks := ⟨_, rfl⟩
  rw [hks] at HKL HK4 HK3 HK0 ⊢
  have H2 := Lib.hid h2
  have H4 := Lib.hid h4
  clear hks h2 h4
  obtain ⟨⟨k, ⟨ho, hd⟩, nw, ⟨bo, bd⟩, ⟨co, cd⟩, we⟩, ⟨⟨ro, rd⟩, fw⟩⟩ := x
  have st := Own.startOld W
  have st1 := st.addEl (i := 0) get0 g 0 (.slice (some ⟨b, off, none⟩) n lc) [(1, .slice fa m fc)] ⟨q0, q1, trivial⟩
  clear st q0 q1
  have st := st1
  clear st1
  unfold stV at HLK
  unfold S at HLK
  simp only at HLK HKL HK4 HK3 HK0 H2 H4 r0 r1 r2 r3 r4 r5 r6 r7 r8 r9 r10 r11
  unfold S at r1 r2 r3 r4 r5 r6 r7 r8 r9 r10 r11
  simp only [List.cons_append, List.nil_append] at st ⊢
  have hnb : (i : Int) < 9223372036854775807 := by omega
  by_cases k2 : k = 2
  · subst k2
    have HE := Lib.hid (HKL.out rfl)
    have HM := Lib.hid (fpI_in (H2.out rfl))
    have HC1 : Hid (∀ W', Ext W W' → Calls Tryz.prog 54 #[.pointer (some ⟨g, 0, none⟩), fV ⟨(bo, bd), fw⟩, .int .i64 (i : Int)] W' fun e w' => e = .returned (.int .i64 ((G.idxOf ⟨(bo, bd), fw⟩ : Nat) : Int)) ∧ Ext W' w') := Lib.hid (fun W' hx => by have := HF1.out W' hx ⟨(bo, bd), fw⟩; rwa [HM.out] at this)
    generalize G.idxOf ⟨(bo, bd), fw⟩ = u1 at *
    obtain rfl := HE.out
    unfold fV S at HC1
    (try simp only [nsl, Value.cells, unB] at st)
    (try clear hc); have hc := st.facts; (try simp only [nfl, nft, elI, elF, Nat.reduceAdd] at hc)
    go_enter Tryz.func31, Tryz.ntmps31
    go_wp2_with ((first
          | ((with_reducible refine wl_alloc ?_ (fun K hK => ?_)); rfl; refine owp_alloc (o := ⟨some 5, _, _, _, _, _⟩) rfl st ?_; apply Exists.intro; apply Exists.intro; refine ⟨?_, ?_⟩; (focus (first | (go_simp; done) | (go_simp; rfl))); (clear st; intro b5 w hb st; clear hb))
          | ((with_reducible refine wl_store ?_ (fun K hK => ?_)); rfl; refine owp_store rfl st ?_; apply Exists.intro; apply Exists.intro; refine ⟨?_, ?_, ?_⟩; (focus (go_simp; try rfl)); (focus (go_simp; try rfl)); (first | (with_reducible refine ⟨0, _, _, _, _, get0, rfl, rfl, ?_, ?_, ?_, ?_⟩) | (with_reducible refine ⟨1, _, _, _, _, get1, rfl, rfl, ?_, ?_, ?_, ?_⟩) | (with_reducible refine ⟨2, _, _, _, _, get2, rfl, rfl, ?_, ?_, ?_, ?_⟩) | (with_reducible refine ⟨3, _, _, _, _, get3, rfl, rfl, ?_, ?_, ?_, ?_⟩) | (with_reducible refine ⟨4, _, _, _, _, get4, rfl, rfl, ?_, ?_, ?_, ?_⟩) | (with_reducible refine ⟨5, _, _, _, _, get5, rfl, rfl, ?_, ?_, ?_, ?_⟩) | (with_reducible refine ⟨6, _, _, _, _, get6, rfl, rfl, ?_, ?_, ?_, ?_⟩)); (kernel_rfl); (simp [Value.cells]); (rfl); (clear st; intro w st))
          | ((with_reducible refine wl_buildSlice ?_ (fun K hK => ?_)); rfl; refine owp_buildSlice (o := ⟨some 28, _, _, _, _, _⟩) rfl st ?_; apply Exists.intro; apply Exists.intro; apply Exists.intro; apply Exists.intro; refine ⟨?_, ?_⟩; (focus (go_simp; (first | done | exact ⟨⟨rfl, rfl⟩, rfl⟩ | rfl))); (clear st; intro b28 w hb st; clear hb))
          | ((with_reducible refine wl_buildSlice ?_ (fun K hK => ?_)); rfl; refine owp_buildSlice (o := ⟨some 51, _, _, _, _, _⟩) rfl st ?_; apply Exists.intro; apply Exists.intro; apply Exists.intro; apply Exists.intro; refine ⟨?_, ?_⟩; (focus (go_simp; (first | done | exact ⟨⟨rfl, rfl⟩, rfl⟩ | rfl))); (clear st; intro b51 w hb st; clear hb))); (try simp only [nsl, Value.cells, unB] at st); (try clear hc); have hc := st.facts; (try simp only [nfl, nft, elI, elF, Nat.reduceAdd] at hc))
    clear r0 r1 r2 r3 r4 r5 r6 r7 r8 r9 r10 r11
    refine (HC1.out _ st.ext0).mono ?_
    rintro en w ⟨rfl, hx⟩
    replace st := st.ext hx
    clear hx
    (try clear hc); have hc := st.facts; (try simp only [nfl, nft, elI, elF, Nat.reduceAdd] at hc)
    go_wp2_with (first
        | ((with_reducible refine wl_buildSlice ?_ (fun K hK => ?_)); (rfl); (refine owp_buildRow (o := ⟨some 28, _, _, _, _, _⟩) rfl st 3 1 ?_; refine ⟨1, #[.int .i64 (u1 : Int)], ?_, by simp, by simp [maxLen], ?_⟩; (focus (go_simp; (first | done | rfl))); (clear st; intro b28 w hb st; clear hb)); (try simp only [nsl, Value.cells, unB] at st); (try clear hc); have hc := st.facts; (try simp only [nfl, nft, elI, elF, Nat.reduceAdd] at hc))
        | ((first
          | ((with_reducible refine wl_alloc ?_ (fun K hK => ?_)); rfl; refine owp_alloc (o := ⟨some 5, _, _, _, _, _⟩) rfl st ?_; apply Exists.intro; apply Exists.intro; refine ⟨?_, ?_⟩; (focus (first | (go_simp; done) | (go_simp; rfl))); (clear st; intro b5 w hb st; clear hb))
          | ((with_reducible refine wl_store ?_ (fun K hK => ?_)); rfl; refine owp_store rfl st ?_; apply Exists.intro; apply Exists.intro; refine ⟨?_, ?_, ?_⟩; (focus (go_simp; try rfl)); (focus (go_simp; try rfl)); (first | (with_reducible refine ⟨0, _, _, _, _, get0, rfl, rfl, ?_, ?_, ?_, ?_⟩) | (with_reducible refine ⟨1, _, _, _, _, get1, rfl, rfl, ?_, ?_, ?_, ?_⟩) | (with_reducible refine ⟨2, _, _, _, _, get2, rfl, rfl, ?_, ?_, ?_, ?_⟩) | (with_reducible refine ⟨3, _, _, _, _, get3, rfl, rfl, ?_, ?_, ?_, ?_⟩) | (with_reducible refine ⟨4, _, _, _, _, get4, rfl, rfl, ?_, ?_, ?_, ?_⟩) | (with_reducible refine ⟨5, _, _, _, _, get5, rfl, rfl, ?_, ?_, ?_, ?_⟩) | (with_reducible refine ⟨6, _, _, _, _, get6, rfl, rfl, ?_, ?_, ?_, ?_⟩)); (kernel_rfl); (simp [Value.cells]); (rfl); (clear st; intro w st))
          | ((with_reducible refine wl_buildSlice ?_ (fun K hK => ?_)); rfl; refine owp_buildSlice (o := ⟨some 28, _, _, _, _, _⟩) rfl st ?_; apply Exists.intro; apply Exists.intro; apply Exists.intro; apply Exists.intro; refine ⟨?_, ?_⟩; (focus (go_simp; (first | done | exact ⟨⟨rfl, rfl⟩, rfl⟩ | rfl))); (clear st; intro b28 w hb st; clear hb))
          | ((with_reducible refine wl_buildSlice ?_ (fun K hK => ?_)); rfl; refine owp_buildSlice (o := ⟨some 51, _, _, _, _, _⟩) rfl st ?_; apply Exists.intro; apply Exists.intro; apply Exists.intro; apply Exists.intro; refine ⟨?_, ?_⟩; (focus (go_simp; (first | done | exact ⟨⟨rfl, rfl⟩, rfl⟩ | rfl))); (clear st; intro b51 w hb st; clear hb))); (try simp only [nsl, Value.cells, unB] at st); (try clear hc); have hc := st.facts; (try simp only [nfl, nft, elI, elF, Nat.reduceAdd] at hc)))
    go_ret
    exact ⟨_, _, rfl, st.toFresh (i := 3) get3⟩
  · have h2f : (k == 2) = false := by simpa using k2
    by_cases k4 : k = 4
    · subst k4
      have HE := Lib.hid (HK4.out rfl)
      have HM := Lib.hid (fpI_in (H4.out rfl).1)
      have HM2 := Lib.hid (fpI_in (H4.out rfl).2)
      have HC1 : Hid (∀ W', Ext W W' → Calls Tryz.prog 54 #[.pointer (some ⟨g, 0, none⟩), fV ⟨(bo, bd), fw⟩, .int .i64 (i : Int)] W' fun e w' => e = .returned (.int .i64 ((G.idxOf ⟨(bo, bd), fw⟩ : Nat) : Int)) ∧ Ext W' w') := Lib.hid (fun W' hx => by have := HF1.out W' hx ⟨(bo, bd), fw⟩; rwa [HM.out] at this)
      have HC2 : Hid (∀ W', Ext W W' → Calls Tryz.prog 54 #[.pointer (some ⟨g, 0, none⟩), fV ⟨(co, cd), fw⟩, .int .i64 (i : Int)] W' fun e w' => e = .returned (.int .i64 ((G.idxOf ⟨(co, cd), fw⟩ : Nat) : Int)) ∧ Ext W' w') := Lib.hid (fun W' hx => by have := HF1.out W' hx ⟨(co, cd), fw⟩; rwa [HM2.out] at this)
      clear HM HM2
      generalize G.idxOf ⟨(bo, bd), fw⟩ = u1 at *
      generalize G.idxOf ⟨(co, cd), fw⟩ = u2 at *
      obtain rfl := HE.out
      unfold fV S at HC1 HC2
      (try simp only [nsl, Value.cells, unB] at st)
      (try clear hc); have hc := st.facts; (try simp only [nfl, nft, elI, elF, Nat.reduceAdd] at hc)
      go_enter Tryz.func31, Tryz.ntmps31
      go_wp2_with ((first
            | ((with_reducible refine wl_alloc ?_ (fun K hK => ?_)); rfl; refine owp_alloc (o := ⟨some 5, _, _, _, _, _⟩) rfl st ?_; apply Exists.intro; apply Exists.intro; refine ⟨?_, ?_⟩; (focus (first | (go_simp; done) | (go_simp; rfl))); (clear st; intro b5 w hb st; clear hb))
            | ((with_reducible refine wl_store ?_ (fun K hK => ?_)); rfl; refine owp_store rfl st ?_; apply Exists.intro; apply Exists.intro; refine ⟨?_, ?_, ?_⟩; (focus (go_simp; try rfl)); (focus (go_simp; try rfl)); (first | (with_reducible refine ⟨0, _, _, _, _, get0, rfl, rfl, ?_, ?_, ?_, ?_⟩) | (with_reducible refine ⟨1, _, _, _, _, get1, rfl, rfl, ?_, ?_, ?_, ?_⟩) | (with_reducible refine ⟨2, _, _, _, _, get2, rfl, rfl, ?_, ?_, ?_, ?_⟩) | (with_reducible refine ⟨3, _, _, _, _, get3, rfl, rfl, ?_, ?_, ?_, ?_⟩) | (with_reducible refine ⟨4, _, _, _, _, get4, rfl, rfl, ?_, ?_, ?_, ?_⟩) | (with_reducible refine ⟨5, _, _, _, _, get5, rfl, rfl, ?_, ?_, ?_, ?_⟩) | (with_reducible refine ⟨6, _, _, _, _, get6, rfl, rfl, ?_, ?_, ?_, ?_⟩)); (kernel_rfl); (simp [Value.cells]); (rfl); (clear st; intro w st))
            | ((with_reducible refine wl_buildSlice ?_ (fun K hK => ?_)); rfl; refine owp_buildSlice (o := ⟨some 28, _, _, _, _, _⟩) rfl st ?_; apply Exists.intro; apply Exists.intro; apply Exists.intro; apply Exists.intro; refine ⟨?_, ?_⟩; (focus (go_simp; (first | done | exact ⟨⟨rfl, rfl⟩, rfl⟩ | rfl))); (clear st; intro b28 w hb st; clear hb))
            | ((with_reducible refine wl_buildSlice ?_ (fun K hK => ?_)); rfl; refine owp_buildSlice (o := ⟨some 51, _, _, _, _, _⟩) rfl st ?_; apply Exists.intro; apply Exists.intro; apply Exists.intro; apply Exists.intro; refine ⟨?_, ?_⟩; (focus (go_simp; (first | done | exact ⟨⟨rfl, rfl⟩, rfl⟩ | rfl))); (clear st; intro b51 w hb st; clear hb))); (try simp only [nsl, Value.cells, unB] at st); (try clear hc); have hc := st.facts; (try simp only [nfl, nft, elI, elF, Nat.reduceAdd] at hc))
      clear r0 r1 r2 r3 r4 r5 r6 r7 r8 r9 r10 r11
      refine Rg4.wp_region4 (Rel := Ext) #[0, 0, 2, 6, 0, 16, 48, 126, 0, 511, 0, 0, 2048, 6144, 0, 16384, 49152, 129024, 0, 524287, 1048575, 2097151]
        [(9, .val (.int .i64 (u1 : Int))), (19, .val (.int .i64 (u2 : Int)))] [20] [3, 6, 13, 16] (fun _ => True) [0, 1, 2, 3, 4, 5, 6, 7, 8, 9, 10, 11, 12, 13, 14, 15, 16, 17, 18, 19, 20, 21] (by kernel_rfl) (by kernel_rfl) (by kernel_rfl) (by kernel_rfl) Ext.refl (fun _ _ _ => Ext.trans) (show Rg4.PB _ by repeat (first | with_reducible exact Rg4.pb_body | with_reducible exact Rg4.pb_bodyD rfl | with_reducible refine Rg4.pb_then ?_ | with_reducible refine Rg4.pb_inBlock ?_ | with_reducible refine Rg4.pb_noGoto ?_ | with_reducible assumption)) (trivial) ?_
      replace st := st.drew
      change Rg4.wp4 _ _ _ _ _ _ _ _ _ (World.drew _) _ _
      generalize World.drew _ = w at st ⊢
      (try clear hc); have hc := st.facts; (try simp only [nfl, nft, elI, elF, Nat.reduceAdd] at hc)
      iterate 3 (refine Rg4.w4_any (Rg4.want_none rfl) rfl ?_; apply Exists.intro; refine ⟨fun w' => ?_, ?_⟩; (focus (first | (go_simp; done) | (go_simp; first | rfl | (rw [if_neg] <;> first | rfl | omega) | (rw [if_pos] <;> first | rfl | omega)))); (try simp only [Rg4.nrm]))
      (refine Rg4.w4_read (Rg4.want_none rfl) rfl rfl ?_; apply Exists.intro; refine ⟨fun w' hw' hcl' => ?_, ?_⟩; focus (have st' := st.ext hw'; have hc' := st'.facts; (try simp only [nfl, nft, elI, elF, Nat.reduceAdd] at hc'); (focus (first | (go_simp; done) | (go_simp; first | rfl | (rw [if_neg] <;> first | rfl | omega) | (rw [if_pos] <;> first | rfl | omega))))); (try simp only [Rg4.nrm]))
      iterate 2 (refine Rg4.w4_any (Rg4.want_none rfl) rfl ?_; apply Exists.intro; refine ⟨fun w' => ?_, ?_⟩; (focus (first | (go_simp; done) | (go_simp; first | rfl | (rw [if_neg] <;> first | rfl | omega) | (rw [if_pos] <;> first | rfl | omega)))); (try simp only [Rg4.nrm]))
      (refine Rg4.w4_read (Rg4.want_none rfl) rfl rfl ?_; apply Exists.intro; refine ⟨fun w' hw' hcl' => ?_, ?_⟩; focus (have st' := st.ext hw'; have hc' := st'.facts; (try simp only [nfl, nft, elI, elF, Nat.reduceAdd] at hc'); (focus (first | (go_simp; done) | (go_simp; first | rfl | (rw [if_neg] <;> first | rfl | omega) | (rw [if_pos] <;> first | rfl | omega))))); (try simp only [Rg4.nrm]))
      iterate 2 (refine Rg4.w4_any (Rg4.want_none rfl) rfl ?_; apply Exists.intro; refine ⟨fun w' => ?_, ?_⟩; (focus (first | (go_simp; done) | (go_simp; first | rfl | (rw [if_neg] <;> first | rfl | omega) | (rw [if_pos] <;> first | rfl | omega)))); (try simp only [Rg4.nrm]))
      refine Rg4.w4_some (Rg4.want_none rfl) rfl (fun w' hw' hcl' _ => ?_) ?_
      · refine Rg.relAt_call (by go_simp; exact ⟨rfl, rfl⟩) ?_
        refine (HC1.out _ (st.ext hw').ext0).mono ?_
        rintro en w'' ⟨rfl, hx⟩
        exact ⟨_, rfl, hx, trivial, rfl⟩
      rintro v ⟨_, _, _, rfl⟩
      (try simp only [Rg4.nrm])
      iterate 3 (refine Rg4.w4_any (Rg4.want_none rfl) rfl ?_; apply Exists.intro; refine ⟨fun w' => ?_, ?_⟩; (focus (first | (go_simp; done) | (go_simp; first | rfl | (rw [if_neg] <;> first | rfl | omega) | (rw [if_pos] <;> first | rfl | omega)))); (try simp only [Rg4.nrm]))
      (refine Rg4.w4_read (Rg4.want_none rfl) rfl rfl ?_; apply Exists.intro; refine ⟨fun w' hw' hcl' => ?_, ?_⟩; focus (have st' := st.ext hw'; have hc' := st'.facts; (try simp only [nfl, nft, elI, elF, Nat.reduceAdd] at hc'); (focus (first | (go_simp; done) | (go_simp; first | rfl | (rw [if_neg] <;> first | rfl | omega) | (rw [if_pos] <;> first | rfl | omega))))); (try simp only [Rg4.nrm]))
      iterate 2 (refine Rg4.w4_any (Rg4.want_none rfl) rfl ?_; apply Exists.intro; refine ⟨fun w' => ?_, ?_⟩; (focus (first | (go_simp; done) | (go_simp; first | rfl | (rw [if_neg] <;> first | rfl | omega) | (rw [if_pos] <;> first | rfl | omega)))); (try simp only [Rg4.nrm]))
      (refine Rg4.w4_read (Rg4.want_none rfl) rfl rfl ?_; apply Exists.intro; refine ⟨fun w' hw' hcl' => ?_, ?_⟩; focus (have st' := st.ext hw'; have hc' := st'.facts; (try simp only [nfl, nft, elI, elF, Nat.reduceAdd] at hc'); (focus (first | (go_simp; done) | (go_simp; first | rfl | (rw [if_neg] <;> first | rfl | omega) | (rw [if_pos] <;> first | rfl | omega))))); (try simp only [Rg4.nrm]))
      iterate 2 (refine Rg4.w4_any (Rg4.want_none rfl) rfl ?_; apply Exists.intro; refine ⟨fun w' => ?_, ?_⟩; (focus (first | (go_simp; done) | (go_simp; first | rfl | (rw [if_neg] <;> first | rfl | omega) | (rw [if_pos] <;> first | rfl | omega)))); (try simp only [Rg4.nrm]))
      refine Rg4.w4_some (Rg4.want_none rfl) rfl (fun w' hw' hcl' _ => ?_) ?_
      · refine Rg.relAt_call (by go_simp; exact ⟨rfl, rfl⟩) ?_
        refine (HC2.out _ (st.ext hw').ext0).mono ?_
        rintro en w'' ⟨rfl, hx⟩
        exact ⟨_, rfl, hx, trivial, rfl⟩
      rintro v ⟨_, _, _, rfl⟩
      (try simp only [Rg4.nrm])

      refine Rg4.w4_bar (Rg4.want_none rfl) rfl (fun w' hw' hcl _ K hK => ?_)
      replace st := st.ext hw'
      clear hw'
      (try clear hc); have hc := st.facts; (try simp only [nfl, nft, elI, elF, Nat.reduceAdd] at hc)
      refine owp_buildRow (o := ⟨some 51, _, _, _, _, _⟩) rfl st 3 1 ?_
      refine ⟨2, #[.int .i64 (u1 : Int), .int .i64 (u2 : Int)], ?_, by simp, by simp [maxLen], ?_⟩
      focus (go_simp; (first | done | rfl))
      clear st
      intro b51 w hb51 st
      clear hb51
      (try simp only [nsl, Value.cells, unB] at st)
      (try clear hc); have hc := st.facts; (try simp only [nfl, nft, elI, elF, Nat.reduceAdd] at hc)
      refine hK _ _ ⟨trivial, ?_⟩
      clear hK
      (try simp only [Rg4.nrm])
      (refine Rg4.w4_any (Rg4.want_none rfl) rfl ?_; apply Exists.intro; refine ⟨fun w' => ?_, ?_⟩; (focus (first | (go_simp; done) | (go_simp; first | rfl | (rw [if_neg] <;> first | rfl | omega) | (rw [if_pos] <;> first | rfl | omega)))); (try simp only [Rg4.nrm]))
      refine Rg4.w4_nil (fun w' hw' hcl' _ => ?_); replace st := st.ext hw'; clear hw' hcl'; (try clear hc); have hc := st.facts; (try simp only [nfl, nft, elI, elF, Nat.reduceAdd] at hc)
      go_wp2_with fail
      go_ret
      exact ⟨_, _, rfl, st.toFresh (i := 3) get3⟩
    · have h4f : (k == 4) = false := by simpa using k4
      by_cases k3 : k = 3
      · subst k3
        have HE := Lib.hid (HK3.out rfl)
        rw [← HE.out] at HLK
        clear HE
        (try simp only [nsl, Value.cells, unB] at st)
        (try clear hc); have hc := st.facts; (try simp only [nfl, nft, elI, elF, Nat.reduceAdd] at hc)
        go_enter Tryz.func31, Tryz.ntmps31
        go_wp2_with ((first
              | ((with_reducible refine wl_alloc ?_ (fun K hK => ?_)); rfl; refine owp_alloc (o := ⟨some 5, _, _, _, _, _⟩) rfl st ?_; apply Exists.intro; apply Exists.intro; refine ⟨?_, ?_⟩; (focus (first | (go_simp; done) | (go_simp; rfl))); (clear st; intro b5 w hb st; clear hb))
              | ((with_reducible refine wl_store ?_ (fun K hK => ?_)); rfl; refine owp_store rfl st ?_; apply Exists.intro; apply Exists.intro; refine ⟨?_, ?_, ?_⟩; (focus (go_simp; try rfl)); (focus (go_simp; try rfl)); (first | (with_reducible refine ⟨0, _, _, _, _, get0, rfl, rfl, ?_, ?_, ?_, ?_⟩) | (with_reducible refine ⟨1, _, _, _, _, get1, rfl, rfl, ?_, ?_, ?_, ?_⟩) | (with_reducible refine ⟨2, _, _, _, _, get2, rfl, rfl, ?_, ?_, ?_, ?_⟩) | (with_reducible refine ⟨3, _, _, _, _, get3, rfl, rfl, ?_, ?_, ?_, ?_⟩) | (with_reducible refine ⟨4, _, _, _, _, get4, rfl, rfl, ?_, ?_, ?_, ?_⟩) | (with_reducible refine ⟨5, _, _, _, _, get5, rfl, rfl, ?_, ?_, ?_, ?_⟩) | (with_reducible refine ⟨6, _, _, _, _, get6, rfl, rfl, ?_, ?_, ?_, ?_⟩)); (kernel_rfl); (simp [Value.cells]); (rfl); (clear st; intro w st))
              | ((with_reducible refine wl_buildSlice ?_ (fun K hK => ?_)); rfl; refine owp_buildSlice (o := ⟨some 28, _, _, _, _, _⟩) rfl st ?_; apply Exists.intro; apply Exists.intro; apply Exists.intro; apply Exists.intro; refine ⟨?_, ?_⟩; (focus (go_simp; (first | done | exact ⟨⟨rfl, rfl⟩, rfl⟩ | rfl))); (clear st; intro b28 w hb st; clear hb))
              | ((with_reducible refine wl_buildSlice ?_ (fun K hK => ?_)); rfl; refine owp_buildSlice (o := ⟨some 51, _, _, _, _, _⟩) rfl st ?_; apply Exists.intro; apply Exists.intro; apply Exists.intro; apply Exists.intro; refine ⟨?_, ?_⟩; (focus (go_simp; (first | done | exact ⟨⟨rfl, rfl⟩, rfl⟩ | rfl))); (clear st; intro b51 w hb st; clear hb))); (try simp only [nsl, Value.cells, unB] at st); (try clear hc); have hc := st.facts; (try simp only [nfl, nft, elI, elF, Nat.reduceAdd] at hc))
        clear r0 r1 r2 r3 r4 r5 r6 r7 r8 r9 r10 r11
        refine (HLK.out _ st.ext0).mono ?_
        rintro en w ⟨va, vc, rfl, hf⟩
        have hfr := hf.pre st.ext0
        have hx := hfr.ext
        clear hf
        go_wp2_with fail
        go_ret
        exact ⟨_, _, rfl, hfr⟩
      · have h3f : (k == 3) = false := by simpa using k3
        have HE := Lib.hid (HK0.out k2 k4 k3)
        obtain rfl := HE.out
        clear k2 k4 k3
        (try simp only [nsl, Value.cells, unB] at st)
        (try clear hc); have hc := st.facts; (try simp only [nfl, nft, elI, elF, Nat.reduceAdd] at hc)
        go_enter Tryz.func31, Tryz.ntmps31
        go_wp2_with ((first
              | ((with_reducible refine wl_alloc ?_ (fun K hK => ?_)); rfl; refine owp_alloc (o := ⟨some 5, _, _, _, _, _⟩) rfl st ?_; apply Exists.intro; apply Exists.intro; refine ⟨?_, ?_⟩; (focus (first | (go_simp; done) | (go_simp; rfl))); (clear st; intro b5 w hb st; clear hb))
              | ((with_reducible refine wl_store ?_ (fun K hK => ?_)); rfl; refine owp_store rfl st ?_; apply Exists.intro; apply Exists.intro; refine ⟨?_, ?_, ?_⟩; (focus (go_simp; try rfl)); (focus (go_simp; try rfl)); (first | (with_reducible refine ⟨0, _, _, _, _, get0, rfl, rfl, ?_, ?_, ?_, ?_⟩) | (with_reducible refine ⟨1, _, _, _, _, get1, rfl, rfl, ?_, ?_, ?_, ?_⟩) | (with_reducible refine ⟨2, _, _, _, _, get2, rfl, rfl, ?_, ?_, ?_, ?_⟩) | (with_reducible refine ⟨3, _, _, _, _, get3, rfl, rfl, ?_, ?_, ?_, ?_⟩) | (with_reducible refine ⟨4, _, _, _, _, get4, rfl, rfl, ?_, ?_, ?_, ?_⟩) | (with_reducible refine ⟨5, _, _, _, _, get5, rfl, rfl, ?_, ?_, ?_, ?_⟩) | (with_reducible refine ⟨6, _, _, _, _, get6, rfl, rfl, ?_, ?_, ?_, ?_⟩)); (kernel_rfl); (simp [Value.cells]); (rfl); (clear st; intro w st))
              | ((with_reducible refine wl_buildSlice ?_ (fun K hK => ?_)); rfl; refine owp_buildSlice (o := ⟨some 28, _, _, _, _, _⟩) rfl st ?_; apply Exists.intro; apply Exists.intro; apply Exists.intro; apply Exists.intro; refine ⟨?_, ?_⟩; (focus (go_simp; (first | done | exact ⟨⟨rfl, rfl⟩, rfl⟩ | rfl))); (clear st; intro b28 w hb st; clear hb))
              | ((with_reducible refine wl_buildSlice ?_ (fun K hK => ?_)); rfl; refine owp_buildSlice (o := ⟨some 51, _, _, _, _, _⟩) rfl st ?_; apply Exists.intro; apply Exists.intro; apply Exists.intro; apply Exists.intro; refine ⟨?_, ?_⟩; (focus (go_simp; (first | done | exact ⟨⟨rfl, rfl⟩, rfl⟩ | rfl))); (clear st; intro b51 w hb st; clear hb))); (try simp only [nsl, Value.cells, unB] at st); (try clear hc); have hc := st.facts; (try simp only [nfl, nft, elI, elF, Nat.reduceAdd] at hc))
        clear r0 r1 r2 r3 r4 r5 r6 r7 r8 r9 r10 r11
        replace st := (st.row_nil 3 1)
        go_ret
        exact ⟨none, 0, rfl, st.toFresh (i := 3) get3⟩
end Go.Proofs.YtdfdnedcaodmkaaGreat

namespace Go.Proofs.YtdfdnedcaodmkaaGreat.Rg4
set_option linter.unusedSimpArgs false
set_option linter.unusedVariables false
open Go Go.Proofs.YtdfdnedcaodmkaaGreat.Rg
section
variable (P : Program) (ops : Array Oper) (T : Array Nat) (Rel : World → World → Prop) (ld : Nat → Bool) (Cl : World → Prop) (kd : Nat → Kd) (Q : Exit → Act → World → Prop)
/-- The walk up to a fork. -/
def wp5 (E : World → Facts → Act → Prop) : List (Nat × Oper) → World → Facts → Act → Prop
  | [], w0, F, a => E w0 F a
  | (k, o) :: rest, w0, F, a =>
    if Region.wanted o (yielded ops a.tmps) = true then
      match kd k with
      | .none => ∃ c, (∀ w, (ld k = true → Rel w0 w) → Cl w → stillAt P o a w c) ∧ wp5 E rest w0 F (a.put o.dst c)
      | .some (.some S) => (∀ w, Rel w0 w → Cl w → Pre ops T F k w → relAt P o a w (fun v w' => Rel w w' ∧ Cl w' ∧ S v w')) ∧
          ∀ v, (∃ w, Rel w0 w ∧ Cl w ∧ S v w) → wp5 E rest w0 (upd F k (S v)) (a.put o.dst v)
      | .some .none => ∀ w, Rel w0 w → Cl w → All F w → o.wp P a w (fun a' w' => Cl w' ∧ wp5 E rest w' none a') Q ∨ (o.asks P a w ∧ LetsOut Q)
    else wp5 E rest w0 F (a.put o.dst undef)
/-- Both orders of two barriers. -/
def fork4 (i j : Nat) (oi oj : Oper) (r : List (Nat × Oper)) (w0 : World) (F : Facts) (a : Act) : Prop :=
  wp4 P ops T Rel ld Cl kd Q ((i, oi) :: (j, oj) :: r) w0 F a ∧ wp4 P ops T Rel ld Cl kd Q ((j, oj) :: (i, oi) :: r) w0 F a
end
def lex5 (ops : Array Oper) (C : List Nat) (e : Array Bool → Bool) : List Nat → Array Bool → Bool
  | [], listed => e listed
  | k :: ks, listed => (if C.contains k then decide (Region.ready .any ops listed = [k]) else (Region.ready .any ops listed).contains k && Region.free .any ops listed k) && lex5 ops C e ks (listed.setIfInBounds k true)
def forkE (ops : Array Oper) (C : List Nat) (i j : Nat) (r : List Nat) (listed : Array Bool) : Bool :=
  decide (Region.ready .any ops listed = [i, j]) && (C.contains i && (C.contains j && (lex4 ops C (j :: r) (listed.setIfInBounds i true) && lex4 ops C (i :: r) (listed.setIfInBounds j true))))
section
variable {P : Program} {ops : Array Oper} {T : Array Nat} {Rel : World → World → Prop} {ld : Nat → Bool} {Cl : World → Prop} {kd : Nat → Kd} {Q : Exit → Act → World → Prop}
theorem kd_bar {C : List Nat} (hC : ∀ k, isC kd k = C.contains k) {i : Nat} (hkc : C.contains i = true) : kd i = .some .none := by
  have := hC i
  rw [hkc] at this
  unfold isC at this; revert this; cases kd i with
  | none => intro h; cases h
  | some x => cases x with
    | none => intro _; rfl
    | some S => intro h; cases h
theorem wpAny5_lex (htr : ∀ a b c, Rel a b → Rel b c → Rel a c) (hsp : ∀ k S, kd k = .some (.some S) → ∀ v w w', Rel w w' → S v w → S v w') (hB : befOk ops T = true)
    (hbar : ∀ i j, (isB kd i = true ∨ ld i = true) → isC kd j = true → bef ops T j i = true ∨ bef ops T i j = true) (hQ : ∀ c (a : Act) x v w, Q (.panic c) (a.put x v) w → Q (.panic c) a w)
    (C : List Nat) (hC : ∀ k, isC kd k = C.contains k) (hs : Region.noSelect ops = true) (e : Array Bool → Bool) (E : World → Facts → Act → Prop) (f0 : Nat)
    (hE : ∀ (listed : Array Bool) (w0 : World) (F : Facts) (a : Act), e listed = true → Closed ops T listed → StableF Rel F → E w0 F a → wpAny4 P ops T Rel ld Cl kd Q f0 listed w0 F a) :
    ∀ (l : List (Nat × Oper)) (listed : Array Bool) (w0 : World) (F : Facts) (a : Act), (∀ p ∈ l, ops[p.1]? = .some p.2) →
    lex5 ops C e (l.map (·.1)) listed = true → Closed ops T listed → StableF Rel F → wp5 P ops T Rel ld Cl kd Q E l w0 F a → wpAny4 P ops T Rel ld Cl kd Q (f0 + l.length) listed w0 F a
  | [], listed, w0, F, a, _, hL, hc, hst, h => hE listed w0 F a hL hc hst h
  | (k, o) :: l, listed, w0, F, a, hl, hL, hc, hst, h => by
    show wpAny4 P ops T Rel ld Cl kd Q ((f0 + l.length) + 1) listed w0 F a
    have h0 : ops[k]? = .some o := hl (k, o) (by simp)
    simp only [List.map_cons, lex5, Bool.and_eq_true] at hL
    obtain ⟨hL1, hL'⟩ := hL
    have hl' : ∀ p ∈ l, ops[p.1]? = .some p.2 := fun p hp => hl p (by simp [hp])
    by_cases hkc : C.contains k = true
    · rw [if_pos hkc, decide_eq_true_eq] at hL1
      have hr' : k ∈ Region.ready .any ops listed := by rw [hL1]; simp
      have IH := fun w0 F a hst h => wpAny5_lex htr hsp hB hbar hQ C hC hs e E f0 hE l (listed.setIfInBounds k true) w0 F a hl' hL' (closed_set hB hc hr') hst h
      intro hinh
      refine ⟨fun h => (by rw [hL1] at h; cases h), fun i hi => ?_⟩
      rw [hL1] at hi
      obtain rfl : i = k := by simpa using hi
      have hkk : kd i = .some .none := kd_bar hC hkc
      unfold op4
      unfold wp5 at h
      simp only [h0]
      by_cases hwant : Region.wanted o (yielded ops a.tmps) = true
      · simp only [hwant, if_true, hkk] at h ⊢
        intro w hw hcl hF
        exact (h w hw hcl hF).imp (Oper.wp_mono fun a' w' ⟨h1, h2⟩ => ⟨h1, IH w' none a' (fun _ _ _ _ _ => trivial) h2⟩) id
      · simp only [hwant] at h ⊢
        exact IH _ _ _ hst h
    · rw [if_neg hkc, Bool.and_eq_true] at hL1
      obtain ⟨hr, hf⟩ := hL1
      have hr' : k ∈ Region.ready .any ops listed := by simpa using hr
      have IH := fun w0 F a hst h => wpAny5_lex htr hsp hB hbar hQ C hC hs e E f0 hE l (listed.setIfInBounds k true) w0 F a hl' hL' (closed_set hB hc hr') hst h
      have hkc' : isC kd k = false := by rw [hC]; simpa using hkc
      refine wpAny4_first htr hsp hB hbar hQ h0 hkc' (Region.noSelect_spec hs) (f0 + l.length) listed w0 F a hst hc (Region.free_spec h0 hf) hr' ?_
      unfold op4
      unfold wp5 at h
      simp only [h0]
      by_cases hwant : Region.wanted o (yielded ops a.tmps) = true
      · simp only [hwant, if_true] at h ⊢
        cases hs : kd k with
        | none =>
          simp only [hs] at h ⊢
          obtain ⟨c, h1, h2⟩ := h
          exact ⟨c, h1, IH _ _ _ hst h2⟩
        | some k2 =>
          cases k2 with
          | none => unfold isC at hkc'; rw [hs] at hkc'; cases hkc'
          | some S =>
            simp only [hs] at h ⊢
            obtain ⟨h1, h2⟩ := h
            exact ⟨h1, fun v => wpAny4_of_inh fun ⟨w, hw, hcl, hF⟩ => IH _ _ _ (stable_upd hst (hsp k S hs v)) (h2 v ⟨w, hw, hcl, (hF k).2 rfl⟩)⟩
      · simp only [hwant] at h ⊢
        exact IH _ _ _ hst h
/-- A fork is any order of the two. -/
theorem fork_any (htr : ∀ a b c, Rel a b → Rel b c → Rel a c) (hsp : ∀ k S, kd k = .some (.some S) → ∀ v w w', Rel w w' → S v w → S v w') (hB : befOk ops T = true)
    (hbar : ∀ i j, (isB kd i = true ∨ ld i = true) → isC kd j = true → bef ops T j i = true ∨ bef ops T i j = true) (hQ : ∀ c (a : Act) x v w, Q (.panic c) (a.put x v) w → Q (.panic c) a w)
    (C : List Nat) (hC : ∀ k, isC kd k = C.contains k) (hs : Region.noSelect ops = true) {i j : Nat} {oi oj : Oper} {r : List (Nat × Oper)} (hi : ops[i]? = .some oi) (hj : ops[j]? = .some oj) (hr : ∀ p ∈ r, ops[p.1]? = .some p.2)
    (listed : Array Bool) (w0 : World) (F : Facts) (a : Act) (he : forkE ops C i j (r.map (·.1)) listed = true) (hc : Closed ops T listed) (hst : StableF Rel F) (h : fork4 P ops T Rel ld Cl kd Q i j oi oj r w0 F a) :
    wpAny4 P ops T Rel ld Cl kd Q (r.length + 2) listed w0 F a := by
  unfold forkE at he
  simp only [Bool.and_eq_true, decide_eq_true_eq] at he
  obtain ⟨e1, e2, e3, e4, e5⟩ := he
  obtain ⟨h1, h2⟩ := h
  have ri : i ∈ Region.ready .any ops listed := by rw [e1]; simp
  have rj : j ∈ Region.ready .any ops listed := by rw [e1]; simp
  have side : ∀ {x y : Nat} {ox oy : Oper}, ops[x]? = .some ox → ops[y]? = .some oy → C.contains x = true → x ∈ Region.ready .any ops listed → lex4 ops C (y :: r.map (·.1)) (listed.setIfInBounds x true) = true →
      wp4 P ops T Rel ld Cl kd Q ((x, ox) :: (y, oy) :: r) w0 F a → op4 P ops T Rel ld Cl kd Q x (wpAny4 P ops T Rel ld Cl kd Q (r.length + 1) (listed.setIfInBounds x true)) w0 F a := by
    intro x y ox oy hx hy hxc hxr hlex hw
    have IH := fun w0 F a hst h => wpAny4_lex (Rel := Rel) (ld := ld) (Cl := Cl) (kd := kd) (Q := Q) (P := P) htr hsp hB hbar hQ C hC hs ((y, oy) :: r) (listed.setIfInBounds x true) w0 F a (fun p hp => by
      rcases List.mem_cons.1 hp with q | q
      · subst q; exact hy
      · exact hr p q) hlex (closed_set hB hc hxr) hst h
    have hkk : kd x = .some .none := kd_bar hC hxc
    unfold op4
    unfold wp4 at hw
    simp only [hx]
    by_cases hwant : Region.wanted ox (yielded ops a.tmps) = true
    · simp only [hwant, if_true, hkk] at hw ⊢
      intro w hw1 hcl hF
      exact (hw w hw1 hcl hF).imp (Oper.wp_mono fun a' w' ⟨h1, h2⟩ => ⟨h1, IH w' none a' (fun _ _ _ _ _ => trivial) h2⟩) id
    · simp only [hwant] at hw ⊢
      exact IH _ _ _ hst hw
  intro _
  refine ⟨fun q => (by rw [e1] at q; cases q), fun x hx => ?_⟩
  rw [e1] at hx
  rcases List.mem_cons.1 hx with rfl | hx
  · exact side hi hj e2 ri e4 h1
  · obtain rfl : x = j := by simpa using hx
    exact side hj hi e3 rj e5 h2
section steps
variable {E : World → Facts → Act → Prop} {w0 : World} {o : Oper} {rest : List (Nat × Oper)} {k : Nat} {F : Facts} {a : Act}
theorem w5_end (h : E w0 F a) : wp5 P ops T Rel ld Cl kd Q E [] w0 F a := h
theorem w5_pure (hw : Region.wanted o (yielded ops a.tmps) = true) (hs : kd k = .none) (h : ∃ c, (∀ w, (ld k = true → Rel w0 w) → Cl w → (execOp a.eval o).run P w = .ok (.value c) w) ∧ wp5 P ops T Rel ld Cl kd Q E rest w0 F (a.put o.dst c)) :
    wp5 P ops T Rel ld Cl kd Q E ((k, o) :: rest) w0 F a := by
  unfold wp5; rw [if_pos hw, hs]; exact h
theorem w5_any (hw : Region.wanted o (yielded ops a.tmps) = true) (hs : kd k = .none) (h : ∃ c, (∀ w, (execOp a.eval o).run P w = .ok (.value c) w) ∧ wp5 P ops T Rel ld Cl kd Q E rest w0 F (a.put o.dst c)) :
    wp5 P ops T Rel ld Cl kd Q E ((k, o) :: rest) w0 F a := w5_pure hw hs (let ⟨c, h1, h2⟩ := h; ⟨c, fun w _ _ => h1 w, h2⟩)
end steps
end
section
open Go.RowKit
variable {fr al : Nat → Prop} {w0 w : World} {L : List It}
variable {P : Program} {ops : Array Oper} {T : Array Nat} {ld : Nat → Bool} {Cl : World → Prop} {kd : Nat → Kd} {Q : Exit → Act → World → Prop}
end
attribute [irreducible] wp5
end Go.Proofs.YtdfdnedcaodmkaaGreat.Rg4

namespace Go.Proofs.YtdfdnedcaodmkaaGreat.Rg4
set_option linter.unusedSimpArgs false
set_option linter.unusedVariables false
open Go Go.Proofs.YtdfdnedcaodmkaaGreat.Rg
section
variable (P : Program) (ops : Array Oper) (T : Array Nat) (Rel : World → World → Prop) (ld : Nat → Bool) (Cl : World → Prop) (kd : Nat → Kd) (Q : Exit → Act → World → Prop)
/-- The three orders of i, j, k where j comes ahead of k. -/
def tree6 (i j k : Nat) (oi oj ok : Oper) (r : List (Nat × Oper)) (w0 : World) (F : Facts) (a : Act) : Prop :=
  wp4 P ops T Rel ld Cl kd Q ((i, oi) :: (j, oj) :: (k, ok) :: r) w0 F a ∧
  (∀ w, Rel w0 w → Cl w → All F w → oj.wp P a w (fun a' w' => Cl w' ∧ fork4 P ops T Rel ld Cl kd Q i k oi ok r w' none a') Q ∨ (oj.asks P a w ∧ LetsOut Q))
end
def treeE (ops : Array Oper) (C : List Nat) (i j k : Nat) (r : List Nat) (listed : Array Bool) : Bool :=
  decide (Region.ready .any ops listed = [i, j]) && (C.contains i && (C.contains j && (lex4 ops C (j :: k :: r) (listed.setIfInBounds i true) && forkE ops C i k r (listed.setIfInBounds j true))))
section
variable {P : Program} {ops : Array Oper} {T : Array Nat} {Rel : World → World → Prop} {ld : Nat → Bool} {Cl : World → Prop} {kd : Nat → Kd} {Q : Exit → Act → World → Prop}
theorem tree_any (htr : ∀ a b c, Rel a b → Rel b c → Rel a c) (hsp : ∀ k S, kd k = .some (.some S) → ∀ v w w', Rel w w' → S v w → S v w') (hB : befOk ops T = true)
    (hbar : ∀ i j, (isB kd i = true ∨ ld i = true) → isC kd j = true → bef ops T j i = true ∨ bef ops T i j = true) (hQ : ∀ c (a : Act) x v w, Q (.panic c) (a.put x v) w → Q (.panic c) a w)
    (C : List Nat) (hC : ∀ k, isC kd k = C.contains k) (hs : Region.noSelect ops = true) {i j k : Nat} {oi oj ok : Oper} {r : List (Nat × Oper)} (hi : ops[i]? = .some oi) (hj : ops[j]? = .some oj) (hk : ops[k]? = .some ok) (hr : ∀ p ∈ r, ops[p.1]? = .some p.2) (hgi : oi.guard = .none) (hgj : oj.guard = .none)
    (listed : Array Bool) (w0 : World) (F : Facts) (a : Act) (he : treeE ops C i j k (r.map (·.1)) listed = true) (hc : Closed ops T listed) (hst : StableF Rel F) (h : tree6 P ops T Rel ld Cl kd Q i j k oi oj ok r w0 F a) :
    wpAny4 P ops T Rel ld Cl kd Q (r.length + 3) listed w0 F a := by
  unfold treeE at he
  simp only [Bool.and_eq_true, decide_eq_true_eq] at he
  obtain ⟨e1, e2, e3, e4, e5⟩ := he
  obtain ⟨h1, h2⟩ := h
  have ri : i ∈ Region.ready .any ops listed := by rw [e1]; simp
  have rj : j ∈ Region.ready .any ops listed := by rw [e1]; simp
  have wi : ∀ x : Act, Region.wanted oi (yielded ops x.tmps) = true := fun x => by simp [Region.wanted, hgi]
  have wj : ∀ x : Act, Region.wanted oj (yielded ops x.tmps) = true := fun x => by simp [Region.wanted, hgj]
  intro _
  refine ⟨fun q => (by rw [e1] at q; cases q), fun x hx => ?_⟩
  rw [e1] at hx
  rcases List.mem_cons.1 hx with rfl | hx
  · have IH := fun w0 F a hst h => wpAny4_lex (Rel := Rel) (ld := ld) (Cl := Cl) (kd := kd) (Q := Q) (P := P) htr hsp hB hbar hQ C hC hs ((j, oj) :: (k, ok) :: r) (listed.setIfInBounds x true) w0 F a (fun p hp => by
      rcases List.mem_cons.1 hp with q | hp
      · subst q; exact hj
      rcases List.mem_cons.1 hp with q | q
      · subst q; exact hk
      · exact hr p q) e4 (closed_set hB hc ri) hst h
    have hkk : kd x = .some .none := kd_bar hC e2
    unfold op4
    unfold wp4 at h1
    simp only [hi, wi, if_true, hkk] at h1 ⊢
    intro w hw1 hcl hF
    exact (h1 w hw1 hcl hF).imp (Oper.wp_mono fun a' w' ⟨h1, h2⟩ => ⟨h1, IH w' none a' (fun _ _ _ _ _ => trivial) h2⟩) id
  · obtain rfl : x = j := by simpa using hx
    have hkk : kd x = .some .none := kd_bar hC e3
    unfold op4
    simp only [hj, wj, if_true, hkk]
    intro w hw1 hcl hF
    exact (h2 w hw1 hcl hF).imp (Oper.wp_mono fun a' w' ⟨h1, h2⟩ => ⟨h1, fork_any htr hsp hB hbar hQ C hC hs hi hk hr (listed.setIfInBounds x true) w' none a' e5 (closed_set hB hc rj) (fun _ _ _ _ _ => trivial) h2⟩) id
/-- The load yields one value wherever it comes: one walk serves the three orders. -/
theorem tree_load (hQ : ∀ c (a : Act) x v w, Q (.panic c) (a.put x v) w → Q (.panic c) a w) {i j k : Nat} {oi oj ok : Oper} {r : List (Nat × Oper)} {F : Facts} {a : Act} {w : World} {Bk : World → Prop} {c : Value}
    (hj : ops[j]? = .some oj) (hk : ops[k]? = .some ok) (hki : kd i = .some .none) (hkj : kd j = .some .none) (hkk : kd k = .some .none) (hgi : oi.guard = .none) (hgj : oj.guard = .none) (hgk : ok.guard = .none)
    (haj : oi.apart ops oj = true) (hak : oi.apart ops ok = true) (hsi : ∀ cs b, oi.op ≠ .select cs b) (hsj : ∀ cs b, oj.op ≠ .select cs b) (hsk : ∀ cs b, ok.op ≠ .select cs b)
    (hcl : ∀ w, Cl w) (hw : Bk w) (hbk : ∀ w, Bk w → (execOp a.eval oi).run P w = .ok (.value c) w)
    (h : oj.wp P (a.put oi.dst c) w (fun a' w' => Bk w' ∧ ok.wp P a' w' (fun a'' w'' => Bk w'' ∧ wp4 P ops T (· = ·) ld Cl kd Q r w'' none a'') Q) Q) :
    tree6 P ops T (· = ·) ld Cl kd Q i j k oi oj ok r w F a := by
  have wi : ∀ x : Act, Region.wanted oi (yielded ops x.tmps) = true := fun x => by simp [Region.wanted, hgi]
  have wj : ∀ x : Act, Region.wanted oj (yielded ops x.tmps) = true := fun x => by simp [Region.wanted, hgj]
  have wk : ∀ x : Act, Region.wanted ok (yielded ops x.tmps) = true := fun x => by simp [Region.wanted, hgk]
  obtain ⟨_, _, aj3⟩ := Oper.apart_spec haj
  obtain ⟨_, _, ak3⟩ := Oper.apart_spec hak
  constructor
  · refine w4_bar (wi _) hki (fun w' hw' _ _ K hK => ?_)
    subst hw'
    refine owp_run (hbk w hw) (hK _ _ ⟨hcl _, ?_⟩)
    refine w4_bar (wj _) hkj (fun w' hw' _ _ K hK => ?_)
    subst hw'
    refine Oper.wp_mono (fun a' w' ⟨_, h2⟩ => hK _ _ ⟨hcl _, ?_⟩) h
    refine w4_bar (wk _) hkk (fun w'' hw'' _ _ K hK => ?_)
    subst hw''
    exact Oper.wp_mono (fun a'' w'' ⟨_, h3⟩ => hK _ _ ⟨hcl _, h3⟩) h2
  · intro w' hw' _ _
    subst hw'
    refine (wpOp_put4 hj haj hsj (fun c a w q => hQ c a _ _ w q) (.inl h)).imp (Oper.wp_mono ?_) id
    rintro a' w' ⟨⟨u, D, rfl⟩, hb, h2⟩
    have exi : execOp (({ a with defers := D } : Act).put oj.dst u).eval oi = execOp a.eval oi := (execOp_put oi hsi { a with defers := D } oj.dst u aj3).trans rfl
    generalize hA : ({ a with defers := D } : Act).put oj.dst u = A at *
    refine ⟨hcl _, ?_, ?_⟩
    · refine w4_bar (wi _) hki (fun w1 hw1 _ _ K hK => ?_)
      subst hw1
      refine owp_run (by rw [exi]; exact hbk _ hb) (hK _ _ ⟨hcl _, ?_⟩)
      refine w4_bar (wk _) hkk (fun w1 hw1 _ _ K hK => ?_)
      subst hw1
      exact Oper.wp_mono (fun a'' w'' ⟨_, h3⟩ => hK _ _ ⟨hcl _, h3⟩) h2
    · unfold wp4
      rw [if_pos (wk _), hkk]
      intro w1 hw1 _ _
      subst hw1
      refine (wpOp_put4 hk hak hsk (fun c a w q => hQ c a _ _ w q) (.inl h2)).imp (Oper.wp_mono ?_) id
      rintro a'' w'' ⟨⟨u', D', rfl⟩, hb', h3⟩
      have exi2 : execOp (({ A with defers := D' } : Act).put ok.dst u').eval oi = execOp A.eval oi := (execOp_put oi hsi { A with defers := D' } ok.dst u' ak3).trans rfl
      refine ⟨hcl _, ?_⟩
      refine w4_bar (wi _) hki (fun w1 hw1 _ _ K hK => ?_)
      subst hw1
      exact owp_run (by rw [exi2, exi]; exact hbk _ hb') (hK _ _ ⟨hcl _, h3⟩)
theorem tree_load' (hQ : ∀ c (a : Act) x v w, Q (.panic c) (a.put x v) w → Q (.panic c) a w) {i j k : Nat} {oi oj ok : Oper} {r : List (Nat × Oper)} {F : Facts} {a : Act} {w : World} (Bk : World → Prop)
    (hj : ops[j]? = .some oj) (hk : ops[k]? = .some ok) (hki : kd i = .some .none) (hkj : kd j = .some .none) (hkk : kd k = .some .none) (hgi : oi.guard = .none) (hgj : oj.guard = .none) (hgk : ok.guard = .none)
    (haj : oi.apart ops oj = true) (hak : oi.apart ops ok = true) (hsi : ∀ cs b, oi.op ≠ .select cs b) (hsj : ∀ cs b, oj.op ≠ .select cs b) (hsk : ∀ cs b, ok.op ≠ .select cs b)
    (hcl : ∀ w, Cl w) (hw : Bk w)
    (h : ∃ c, (∀ w, Bk w → (execOp a.eval oi).run P w = .ok (.value c) w) ∧ ∀ K : Act → World → Prop, (∀ a' w', Bk w' ∧ (∀ K' : Act → World → Prop, (∀ a'' w'', Bk w'' ∧ wp4 P ops T (· = ·) ld Cl kd Q r w'' none a'' → K' a'' w'') → ok.wp P a' w' K' Q) → K a' w') → oj.wp P (a.put oi.dst c) w K Q) :
    tree6 P ops T (· = ·) ld Cl kd Q i j k oi oj ok r w F a :=
  let ⟨_, h1, h2⟩ := h
  tree_load (Bk := Bk) hQ hj hk hki hkj hkk hgi hgj hgk haj hak hsi hsj hsk hcl hw h1 (h2 _ fun _ _ ⟨q1, q2⟩ => ⟨q1, q2 _ fun _ _ q => q⟩)
end
/-- A region whose order is drawn, up to a load that may come ahead of a call, behind it, or behind what follows the call. -/
theorem wp_region6_eq {P : Program} (T : Array Nat) (Cs Ls : List Nat) (Cl : World → Prop) (p : List Nat) (i j k : Nat) (r : List Nat) {id : Nat} {Q : Exit → Act → World → Prop} {a : Act} {w : World} {l : List Oper} {oi oj ok : Oper} (hm : P.follows .mixedOrders = true)
    (hi : l[i]? = some oi) (hj : l[j]? = some oj) (hk : l[k]? = some ok) (hgi : oi.guard = .none) (hgj : oj.guard = .none)
    (hL : (Region.noSelect l.toArray && (lex5 l.toArray Cs (treeE l.toArray Cs i j k ((inOrd l r).map (·.1))) ((inOrd l p).map (·.1)) (Array.replicate l.length false) && (inOrd l r).length + 3 + (inOrd l p).length == l.length)) = true) (hB : befOk l.toArray T = true) (hb : barB l.toArray T Ls Cs = true)
    (hQ : ∀ c (a : Act) x v w, Q (.panic c) (a.put x v) w → Q (.panic c) a w) (hcl : Cl { w with drawn := w.drawn + 1 })
    (h : wp5 P l.toArray T (· = ·) (fun k => Ls.contains k) Cl (kdOf (Rel := (· = ·)) [] Cs) Q (tree6 P l.toArray T (· = ·) (fun k => Ls.contains k) Cl (kdOf (Rel := (· = ·)) [] Cs) Q i j k oi oj ok (inOrd l r)) (inOrd l p) { w with drawn := w.drawn + 1 } none a) : (Code.region id l.toArray true).wp P Q a w := by
  rw [Bool.and_eq_true, Bool.and_eq_true] at hL
  have hlen : (inOrd l r).length + 3 + (inOrd l p).length = l.length := by simpa using hL.2.2
  have htr : ∀ a b c : World, a = b → b = c → a = c := fun _ _ _ h k => h.trans k
  have hbar : ∀ i j, (isB (kdOf (Rel := (· = ·)) [] Cs) i = true ∨ Ls.contains i = true) → isC (kdOf (Rel := (· = ·)) [] Cs) j = true → bef l.toArray T j i = true ∨ bef l.toArray T i j = true := fun i j hi hj => by
    rw [kdOf_C] at hj
    have h1 := List.all_eq_true.1 hb j (by simpa using hj)
    have h2 := List.all_eq_true.1 h1 i (by
      rcases hi with hi | hi
      · have := kdOf_B [] Cs i hi; cases this
      · simpa using hi)
    simpa using h2
  refine wp_region_any hm (wpAny_of_4 (T := T) (ld := fun k => Ls.contains k) (fun _ => rfl) htr (kdOf_sp [] Cs) _ _ { w with drawn := w.drawn + 1 } none _ _ (fun _ _ _ _ _ => trivial) rfl hcl (fun _ => trivial) ?_)
  have := wpAny5_lex (P := P) (Q := Q) (ld := fun k => Ls.contains k) (Cl := Cl) htr (kdOf_sp [] Cs) hB hbar hQ Cs (kdOf_C [] Cs) hL.1 (treeE l.toArray Cs i j k ((inOrd l r).map (·.1))) (tree6 P l.toArray T (· = ·) (fun k => Ls.contains k) Cl (kdOf (Rel := (· = ·)) [] Cs) Q i j k oi oj ok (inOrd l r)) ((inOrd l r).length + 3)
    (fun listed w0 F a he hc hst h => tree_any htr (kdOf_sp [] Cs) hB hbar hQ Cs (kdOf_C [] Cs) hL.1 (by simpa using hi) (by simpa using hj) (by simpa using hk) inOrd_mem hgi hgj listed w0 F a he hc hst h)
    (inOrd l p) (Array.replicate l.length false) { w with drawn := w.drawn + 1 } none a inOrd_mem hL.2.1 (fun k m hk => by
    exfalso
    by_cases h : k < l.length <;> simp [h] at hk) (fun _ _ _ _ _ => trivial) h
  rw [hlen] at this
  simpa using this
end Go.Proofs.YtdfdnedcaodmkaaGreat.Rg4

namespace Go.Proofs.YtdfdnedcaodmkaaGreat
set_option linter.unusedSimpArgs false
set_option linter.unusedVariables false
open Go Go.RowKit
theorem kidsN_snoc (l : List StepT) (f k : Nat) (ks : List Nat) (p : List To × Nat) : kidsN l f (ks ++ [k]) p = ((kidsN l f ks p).1 ++ [(growN l f k (kidsN l f ks p).2).1], (growN l f k (kidsN l f ks p).2).2) := by
  unfold kidsN
  rw [List.foldl_append]
  rfl
theorem kidsN_take (l : List StepT) (f : Nat) (ks : List Nat) (p : List To × Nat) (j : Nat) : (kidsN l f (ks.take j) p).2 ≤ (kidsN l f ks p).2 := by
  have h := kidsN_mono l f (ks.drop j) (kidsN l f (ks.take j) p)
  have e : kidsN l f (ks.drop j) (kidsN l f (ks.take j) p) = kidsN l f ks p := by
    unfold kidsN
    rw [← List.foldl_append, List.take_append_drop]
  rw [e] at h
  exact h
theorem chain_in {l : List StepT} (hc : Chain l) {i : Nat} (hi : i < l.length) : ((stAt l i).c.k = 2 → (⟨(stAt l i).c.b, (stAt l i).f.w⟩ : FactT) ∈ (l.map StepT.f).take i) ∧ ((stAt l i).c.k = 4 → (⟨(stAt l i).c.b, (stAt l i).f.w⟩ : FactT) ∈ (l.map StepT.f).take i ∧ (⟨(stAt l i).c.c, (stAt l i).f.w⟩ : FactT) ∈ (l.map StepT.f).take i) := by
  have hx : l[i]? = some l[i] := List.getElem?_eq_getElem hi
  have hs : stAt l i = l[i] := by unfold stAt; rw [hx]; rfl
  have h := hc i hi
  unfold folAt at h
  rw [hx] at h
  have h := folB_kind h
  rw [hs, ← List.map_take]
  unfold stepB at h
  refine ⟨fun k => ?_, fun k => ?_⟩
  · rw [if_neg (by omega), if_pos k, decide_eq_true_eq] at h
    exact h
  · rw [if_neg (by omega), if_neg (by omega), if_pos k, Bool.and_eq_true, decide_eq_true_eq, decide_eq_true_eq] at h
    exact h
/-- What is grown: a tree that says this, laid anew. -/
def TrGot (fr al : Nat → Prop) (w0 : World) (L : List It) (t : To) (e : Ending) (w' : World) : Prop := ∃ g, e = .returned (trV g) ∧ g.strip = t ∧ Own fr al w0 (L ++ [trI g]) w'
theorem trGot {fr al : Nat → Prop} {w0 w : World} {L : List It} {t : To} (g : Tr) {v : Value} (hv : v = trV g) (hg : g.strip = t) (st : Own fr al w0 (L ++ [trI g]) w) : TrGot fr al w0 L t (.returned v) w := ⟨g, by rw [hv], hg, st⟩
def zT : List Value := [.int .i64 0, .string ⟨#[]⟩, .string ⟨#[]⟩, .string ⟨#[]⟩, .string ⟨#[]⟩, .string ⟨#[]⟩, .string ⟨#[]⟩, .string ⟨#[]⟩, .string ⟨#[]⟩, .string ⟨#[]⟩, .string ⟨#[]⟩, .string ⟨#[]⟩, .slice none 0 0]
theorem trInfo : ∃ i, Tryz.prog.info? 35 = some i ∧ i.zero = some (.agg zT.toArray) ∧ i.size = 13 ∧ i.bytes = 208 := info_parts (by kernel_rfl)
/-- What lies there while a tree grows. -/
def growL (W : World) (g : Nat) (la fa : Option Addr) (n lc fc : Nat) (l : List StepT) (m : Nat) : List It := [oldI W, blkI g [.slice la n lc, .slice fa n fc, .int .i64 (m : Int)], rowI 30 3 (.slice fa n fc) n (cellsL (l.map StepT.f))]
set_option maxRecDepth 100000 in
set_option maxHeartbeats 16000000 in
theorem grow_c (la fa : Option Addr) (n lc fc g : Nat) (l : List StepT) (W : World) (H : Hid (Fl W la n l)) (HC : Hid (Chain l)) (hn : n ≤ 1000) : ∀ (i : Nat), i < n → ∀ (fr al : Nat → Prop) (w0 w : World) (m : Nat), Own fr al w0 (growL W g la fa n lc fc l m) w → m + (i + 1) * 6000 ≤ 1000000000000 →
    Calls Tryz.prog 18 #[.pointer (some ⟨g, 0, none⟩), .int .i64 (i : Int)] w (TrGot fr al w0 (growL W g la fa n lc fc l (growN l (i + 1) i m).2) (growN l (i + 1) i m).1) := by
  intro i
  induction i using Nat.strongRecOn with
  | _ i ih =>
    intro hin fr al w0 w m st hm
    have HN := Lib.hid H.out.1
    have hil : i < l.length := by have := HN.out; omega
    have HI := Lib.hid ih
    have HCI := Lib.hid (chain_in HC.out hil)
    have HLT := Lib.hid (leansP_lt l i hil (HC.out i hil))
    have HS : Hid (l[i]? = some (stAt l i)) := Lib.hid (by unfold stAt; rw [List.getElem?_eq_getElem hil]; rfl)
    have HG := Lib.hid (growN_succ l i i m)
    have HLE : Hid (leansP l i = leansF ((l.map StepT.f).take i) (stAt l i)) := Lib.hid (by unfold leansP; rw [List.map_take])
    have HB := Lib.hid (fun f k q => growN_bound l f k q)
    have HFU := Lib.hid (fun k hk q => growN_fuel l HC.out k i (k + 1) q (by have := HN.out; omega) hk (Nat.lt_succ_self k))
    have HLN : Hid ((leansP l i).length ≤ 2) := Lib.hid (leansP_len l i)
    clear ih hil
    obtain ⟨b, off, e, hcell⟩ := H.out.step (by omega)
    obtain ⟨r0, r1, r2, r3, r4, r5, r6, r7, r8, r9, r10, r11⟩ := hcell i _ HS.out
    clear hcell
    unfold growL at st
    subst e
    obtain ⟨x, hx⟩ : ∃ x, stAt l i = x := ⟨_, rfl⟩
    rw [hx] at HCI HS HG HLE r0 r1 r2 r3 r4 r5 r6 r7 r8 r9 r10 r11
    unfold S at r1 r2 r3 r4 r5 r6 r7 r8 r9 r10 r11
    have HX := Lib.hid hx
    clear hx
    have st1 := st.addEl (i := 0) get0 b (off + i * 12) (.int .i64 x.c.k) [(off + i * 12 + 1, .string ⟨x.c.h.1.toArray⟩), (off + i * 12 + 2, .string ⟨x.c.h.2.toArray⟩), (off + i * 12 + 3, .string ⟨x.c.w.toArray⟩), (off + i * 12 + 4, .string ⟨x.c.b.1.toArray⟩), (off + i * 12 + 5, .string ⟨x.c.b.2.toArray⟩), (off + i * 12 + 6, .string ⟨x.c.c.1.toArray⟩), (off + i * 12 + 7, .string ⟨x.c.c.2.toArray⟩), (off + i * 12 + 8, .string ⟨x.c.e.toArray⟩), (off + i * 12 + 9, .string ⟨x.f.r.1.toArray⟩), (off + i * 12 + 10, .string ⟨x.f.r.2.toArray⟩), (off + i * 12 + 11, .string ⟨x.f.w.toArray⟩)] ⟨r0, r1, r2, r3, r4, r5, r6, r7, r8, r9, r10, r11, trivial⟩
    clear st r0 r1 r2 r3 r4 r5 r6 r7 r8 r9 r10 r11
    have st := st1
    clear st1
    obtain ⟨m2, hm2⟩ : ∃ q, (growN l (i + 1) i m).2 = q := ⟨_, rfl⟩
    obtain ⟨t2, ht2⟩ : ∃ q, (growN l (i + 1) i m).1 = q := ⟨_, rfl⟩
    have HM2 := Lib.hid hm2
    have HT2 := Lib.hid ht2
    rw [hm2, ht2]
    clear hm2 ht2
    have hmw : IntKind.i64.wrap ((m : Int) + 1) = (m : Int) + 1 := by rw [IntKind.wrap_i64]; omega
    have hm1 : m ≤ 1000000000000 := by omega
    (try simp only [nsl, Value.cells, unB] at st)
    (try clear hc); have hc := st.facts; (try simp only [nfl, nft, elI, elF, Nat.reduceAdd] at hc)
    by_cases h40 : 4096 < m + 1
    · have hgt : decide ((m : Int) + 1 > 4096) = true := by simp; omega
      have HE1 : Hid (m2 = m + 1 ∧ t2 = .mk x []) := Lib.hid (by
        have := HG.out
        rw [if_pos h40] at this
        rw [← HM2.out, ← HT2.out, this]
        exact ⟨rfl, rfl⟩)
      go_enter Tryz.func18, Tryz.ntmps18
      go_wp2_with ((first
            | ((with_reducible refine wl_alloc ?_ (fun K hK => ?_)); rfl; refine owp_alloc (o := ⟨some 4, _, _, _, _, _⟩) rfl st ?_; apply Exists.intro; apply Exists.intro; refine ⟨?_, ?_⟩; (focus (first | (go_simp; done) | (go_simp; rfl))); (clear st; intro b4 w hb st; clear hb))
            | ((with_reducible refine wl_alloc ?_ (fun K hK => ?_)); rfl; refine owp_alloc (o := ⟨some 5, _, _, _, _, _⟩) rfl st ?_; apply Exists.intro; apply Exists.intro; refine ⟨?_, ?_⟩; (focus (first | (go_simp; done) | (go_simp; rfl))); (clear st; intro b5 w hb st; clear hb))
            | ((with_reducible refine wl_store ?_ (fun K hK => ?_)); rfl; refine owp_store rfl st ?_; apply Exists.intro; apply Exists.intro; refine ⟨?_, ?_, ?_⟩; (focus (go_simp; try rfl)); (focus (go_simp; try rfl)); (first | (with_reducible refine ⟨0, _, _, _, _, get0, rfl, rfl, ?_, ?_, ?_, ?_⟩) | (with_reducible refine ⟨1, _, _, _, _, get1, rfl, rfl, ?_, ?_, ?_, ?_⟩) | (with_reducible refine ⟨2, _, _, _, _, get2, rfl, rfl, ?_, ?_, ?_, ?_⟩) | (with_reducible refine ⟨3, _, _, _, _, get3, rfl, rfl, ?_, ?_, ?_, ?_⟩) | (with_reducible refine ⟨4, _, _, _, _, get4, rfl, rfl, ?_, ?_, ?_, ?_⟩) | (with_reducible refine ⟨5, _, _, _, _, get5, rfl, rfl, ?_, ?_, ?_, ?_⟩) | (with_reducible refine ⟨6, _, _, _, _, get6, rfl, rfl, ?_, ?_, ?_, ?_⟩) | (with_reducible refine ⟨7, _, _, _, _, get7, rfl, rfl, ?_, ?_, ?_, ?_⟩) | (with_reducible refine ⟨8, _, _, _, _, get8, rfl, rfl, ?_, ?_, ?_, ?_⟩) | (with_reducible refine ⟨9, _, _, _, _, get9, rfl, rfl, ?_, ?_, ?_, ?_⟩) | (with_reducible refine ⟨10, _, _, _, _, get10, rfl, rfl, ?_, ?_, ?_, ?_⟩)); (kernel_rfl); (simp [Value.cells]); (rfl); (clear st; intro w st))
            | ((with_reducible refine wl_buildSlice ?_ (fun K hK => ?_)); rfl; refine owp_buildSlice (o := ⟨some 42, _, _, _, _, _⟩) rfl st ?_; apply Exists.intro; apply Exists.intro; apply Exists.intro; apply Exists.intro; refine ⟨?_, ?_⟩; (focus (go_simp; (first | done | exact ⟨⟨rfl, rfl⟩, rfl⟩ | rfl))); (clear st; intro b42 w hb st; clear hb))); (try simp only [nsl, Value.cells, unB] at st); (try clear hc); have hc := st.facts; (try simp only [nfl, nft, elI, elF, Nat.reduceAdd] at hc))
      (try simp only [Exit.inBlock, Exit.then])
      refine bodyPost_cell rfl rfl (st.blk (i := 4) get4) Tryz.underlying35 rfl (by kernel_rfl) rfl ?_
      have st2 := st.keep [0, 1, 2] (by decide) (by simp)
      simp only [pick, List.map_cons, List.map_nil, List.getElem?_cons_zero, List.getElem?_cons_succ, Option.getD_some] at st2
      have st3 := Own.noTrs (Own.nilTr st2)
      simp only [List.cons_append, List.nil_append] at st3
      have st4 := (st3.mkTr (i := 3) (j := 4) get3 get4 x 0 ⟨Nat.le_refl _, by simp [maxLen]⟩).keep [0, 1, 2, 5] (by decide) (by simp)
      obtain ⟨rfl, rfl⟩ := HE1.out
      exact trGot (.mk x none 0 0 []) rfl (by rw [stripT_mk]; rfl) (by simpa [pick, growL] using st4)
    · have hgt : decide ((m : Int) + 1 > 4096) = false := by simp; omega
      go_enter Tryz.func18, Tryz.ntmps18
      go_wp2_with ((first
            | ((with_reducible refine wl_alloc ?_ (fun K hK => ?_)); rfl; refine owp_alloc (o := ⟨some 4, _, _, _, _, _⟩) rfl st ?_; apply Exists.intro; apply Exists.intro; refine ⟨?_, ?_⟩; (focus (first | (go_simp; done) | (go_simp; rfl))); (clear st; intro b4 w hb st; clear hb))
            | ((with_reducible refine wl_alloc ?_ (fun K hK => ?_)); rfl; refine owp_alloc (o := ⟨some 5, _, _, _, _, _⟩) rfl st ?_; apply Exists.intro; apply Exists.intro; refine ⟨?_, ?_⟩; (focus (first | (go_simp; done) | (go_simp; rfl))); (clear st; intro b5 w hb st; clear hb))
            | ((with_reducible refine wl_store ?_ (fun K hK => ?_)); rfl; refine owp_store rfl st ?_; apply Exists.intro; apply Exists.intro; refine ⟨?_, ?_, ?_⟩; (focus (go_simp; try rfl)); (focus (go_simp; try rfl)); (first | (with_reducible refine ⟨0, _, _, _, _, get0, rfl, rfl, ?_, ?_, ?_, ?_⟩) | (with_reducible refine ⟨1, _, _, _, _, get1, rfl, rfl, ?_, ?_, ?_, ?_⟩) | (with_reducible refine ⟨2, _, _, _, _, get2, rfl, rfl, ?_, ?_, ?_, ?_⟩) | (with_reducible refine ⟨3, _, _, _, _, get3, rfl, rfl, ?_, ?_, ?_, ?_⟩) | (with_reducible refine ⟨4, _, _, _, _, get4, rfl, rfl, ?_, ?_, ?_, ?_⟩) | (with_reducible refine ⟨5, _, _, _, _, get5, rfl, rfl, ?_, ?_, ?_, ?_⟩) | (with_reducible refine ⟨6, _, _, _, _, get6, rfl, rfl, ?_, ?_, ?_, ?_⟩) | (with_reducible refine ⟨7, _, _, _, _, get7, rfl, rfl, ?_, ?_, ?_, ?_⟩) | (with_reducible refine ⟨8, _, _, _, _, get8, rfl, rfl, ?_, ?_, ?_, ?_⟩) | (with_reducible refine ⟨9, _, _, _, _, get9, rfl, rfl, ?_, ?_, ?_, ?_⟩) | (with_reducible refine ⟨10, _, _, _, _, get10, rfl, rfl, ?_, ?_, ?_, ?_⟩)); (kernel_rfl); (simp [Value.cells]); (rfl); (clear st; intro w st))
            | ((with_reducible refine wl_buildSlice ?_ (fun K hK => ?_)); rfl; refine owp_buildSlice (o := ⟨some 42, _, _, _, _, _⟩) rfl st ?_; apply Exists.intro; apply Exists.intro; apply Exists.intro; apply Exists.intro; refine ⟨?_, ?_⟩; (focus (go_simp; (first | done | exact ⟨⟨rfl, rfl⟩, rfl⟩ | rfl))); (clear st; intro b42 w hb st; clear hb))); (try simp only [nsl, Value.cells, unB] at st); (try clear hc); have hc := st.facts; (try simp only [nfl, nft, elI, elF, Nat.reduceAdd] at hc))
      have hrf := rowFl' (α := FactT) st (i := 2) get2
      have hcall := growLeans_any g (.int .i64 ((m : Int) + 1)) (some ⟨b, off, none⟩) fa n lc n fc i l (l.map StepT.f) x w (st.blk (i := 1) get1) (st.oldFl (i := 0) get0 H.out) hrf.2 HS.out (by omega) hrf.1.1 (by omega) (by omega) HCI.out.1 HCI.out.2
      rw [← HLE.out] at hcall
      clear hrf
      obtain ⟨ks, hks⟩ : ∃ ks, leansP l i = ks := ⟨_, rfl⟩
      rw [hks] at hcall HLT HLN HG
      have HKS := Lib.hid hks
      clear hks HLE HCI
      refine hcall.mono ?_
      clear hcall
      rintro en w' ⟨va0, vc0, rfl, hf⟩
      replace st := st.fresh hf
      clear hf
      simp only [List.cons_append, List.nil_append] at st
      obtain ⟨q, hq⟩ : ∃ q, ks.length = q := ⟨_, rfl⟩
      have HQ := Lib.hid hq
      rw [hq] at st HLN ⊢
      clear hq
      replace st := st.rowToFl (α := Nat) (i := 6) get6
      simp only [List.set] at st
      replace st := (st.row_nil 35 13).noTrs
      simp only [List.cons_append, List.nil_append] at st
      have st1 := st.keep [0, 1, 2, 4, 5, 6, 7, 8] (by decide) (by simp)
      simp only [pick, List.map_cons, List.map_nil, List.getElem?_cons_zero, List.getElem?_cons_succ, Option.getD_some] at st1
      clear st
      have st := st1
      clear st1
      have hq2 := HLN.out
      (try simp only [nsl, Value.cells, unB] at st)
      (try clear hc); have hc := st.facts; (try simp only [nfl, nft, elI, elF, Nat.reduceAdd] at hc)
      go_wp2_with fail
      go_loopg [33] q (fun z i' wr => ∃ (j : Nat) (gs : List Tr) (va : Option Addr) (vc mm : Nat), j ≤ q ∧ z = q - j ∧ i' = .int .i64 (j : Int) ∧ Hid ((gs.map Tr.strip, mm) = kidsN l i (ks.take j) ([], m + 1)) ∧ Own fr al w0 [oldI W, blkI g [.slice (some ⟨b, off, none⟩) n lc, .slice fa n fc, .int .i64 (mm : Int)], rowI 30 3 (.slice fa n fc) n (cellsL (l.map StepT.f)), blkI b4 [.int .i64 0, .string ⟨#[]⟩, .string ⟨#[]⟩, .string ⟨#[]⟩, .string ⟨#[]⟩, .string ⟨#[]⟩, .string ⟨#[]⟩, .string ⟨#[]⟩, .string ⟨#[]⟩, .string ⟨#[]⟩, .string ⟨#[]⟩, .string ⟨#[]⟩, .slice none 0 0], blkI b5 [.int .i64 x.c.k, .string ⟨x.c.h.1.toArray⟩, .string ⟨x.c.h.2.toArray⟩, .string ⟨x.c.w.toArray⟩, .string ⟨x.c.b.1.toArray⟩, .string ⟨x.c.b.2.toArray⟩, .string ⟨x.c.c.1.toArray⟩, .string ⟨x.c.c.2.toArray⟩, .string ⟨x.c.e.toArray⟩, .string ⟨x.f.r.1.toArray⟩, .string ⟨x.f.r.2.toArray⟩, .string ⟨x.f.w.toArray⟩, .slice va j vc], flI va0 q ks, rowI 35 13 (.slice va j vc) j (cellsL gs), trsI gs] wr)
      case atStart => exact ⟨0, [], none, 0, m + 1, by omega, by omega, rfl, Lib.hid rfl, by simpa [cellsL] using st⟩
      case round =>
        obtain ⟨j, gs, va, vc, mm, hj, rfl, rfl, HK, st'⟩ := hrel
        clear st hc
        have st := st'
        clear st'
        by_cases hjn : j < q
        · have hjl : j < ks.length := by have := HQ.out; omega
          have hki := HLT.out _ (List.getElem_mem hjl)
          have HSN : Hid (∀ t : Tr, t.strip = (growN l i ks[j] mm).1 → ((gs ++ [t]).map Tr.strip, (growN l i ks[j] mm).2) = kidsN l i (ks.take (j + 1)) ([], m + 1)) := Lib.hid (fun t ht => by
            rw [← List.take_append_getElem hjl, kidsN_snoc, ← HK.out, List.map_append, List.map_cons, List.map_nil, ht])
          have hmm : mm ≤ max m 4096 + i + 2 := by
            have h1 := kidsN_take l i ks ([], m + 1) j
            rw [← HK.out] at h1
            have h2 := HB.out (i + 1) i m
            rw [HG.out, if_neg h40] at h2
            simp only at h1 h2
            omega
          have hfl := st.flAt (i := 5) get5
          obtain ⟨kb, ko, hka, hkc⟩ := hfl.2 (by omega)
          have hk0 := hkc j _ (List.getElem?_eq_getElem hjl) 0 _ rfl
          clear hkc hfl
          have HIH := Lib.hid (HI.out ks[j] hki (by omega))
          rw [HFU.out _ hki] at HSN
          generalize ks[j] = k at *
          subst hka
          have hk1 : wr.cell? ⟨kb, ko + j, none⟩ = some (.int .i64 (k : Int)) := by rw [show Flt.k Nat = 1 from rfl] at hk0; simpa using hk0
          clear hk0
          obtain ⟨m3, hm3⟩ : ∃ v, (growN l (k + 1) k mm).2 = v := ⟨_, rfl⟩
          obtain ⟨t3, ht3⟩ : ∃ v, (growN l (k + 1) k mm).1 = v := ⟨_, rfl⟩
          have hb6 : mm + (k + 1) * 6000 ≤ 1000000000000 := by omega
          have HIH2 : Hid (∀ (fr al : Nat → Prop) (w0 w : World), Own fr al w0 [oldI W, blkI g [.slice (some ⟨b, off, none⟩) n lc, .slice fa n fc, .int .i64 (mm : Int)], rowI 30 3 (.slice fa n fc) n (cellsL (l.map StepT.f))] w → Calls Tryz.prog 18 #[.pointer (some ⟨g, 0, none⟩), .int .i64 (k : Int)] w (TrGot fr al w0 [oldI W, blkI g [.slice (some ⟨b, off, none⟩) n lc, .slice fa n fc, .int .i64 (m3 : Int)], rowI 30 3 (.slice fa n fc) n (cellsL (l.map StepT.f))] t3)) := Lib.hid (fun fr al w0 w st => by
            have := HIH.out fr al w0 w mm st hb6
            rw [hm3, ht3] at this
            exact this)
          rw [hm3, ht3] at HSN
          clear hm3 ht3 HIH hki hjl hb6
          have hmm2 := hmm
          clear hmm
          (try simp only [nsl, Value.cells, unB] at st)
          (try clear hc); have hc := st.facts; (try simp only [nfl, nft, elI, elF, Nat.reduceAdd] at hc)
          go_wp2_with fail
          refine Rg4.wp_region6_eq #[0, 1, 0, 0, 12, 28, 63, 127, 255] [1, 4, 5, 6, 8] [] (fun _ => True) [0, 2, 3] 1 4 5 [6, 7, 8] (by kernel_rfl) (by rfl) (by rfl) (by rfl) (by rfl) (by rfl) (by kernel_rfl) (by kernel_rfl) (by kernel_rfl) (show Rg4.PB _ by repeat (first | with_reducible exact Rg4.pb_body | with_reducible exact Rg4.pb_bodyD rfl | with_reducible refine Rg4.pb_then ?_ | with_reducible refine Rg4.pb_inBlock ?_ | with_reducible refine Rg4.pb_noGoto ?_ | with_reducible assumption)) trivial ?_
          replace st := st.drew
          change Rg4.wp5 _ _ _ _ _ _ _ _ _ _ (World.drew _) _ _
          generalize World.drew _ = w at st ⊢
          (try clear hc); have hc := st.facts; (try simp only [nfl, nft, elI, elF, Nat.reduceAdd] at hc)
          iterate 3 (refine Rg4.w5_any (Rg4.want_none rfl) rfl ?_; apply Exists.intro; refine ⟨fun w' => ?_, ?_⟩; (focus (first | (go_simp; done) | (go_simp; first | rfl | (rw [if_neg] <;> first | rfl | omega) | (rw [if_pos] <;> first | rfl | omega)))); (try simp only [Rg4.nrm]))
          refine Rg4.w5_end ?_
          refine Rg4.tree_load' (show Rg4.PB _ by repeat (first | with_reducible exact Rg4.pb_body | with_reducible exact Rg4.pb_bodyD rfl | with_reducible refine Rg4.pb_then ?_ | with_reducible refine Rg4.pb_inBlock ?_ | with_reducible refine Rg4.pb_noGoto ?_ | with_reducible assumption)) (fun W' => Blk W' b5 [.int .i64 x.c.k, .string ⟨x.c.h.1.toArray⟩, .string ⟨x.c.h.2.toArray⟩, .string ⟨x.c.w.toArray⟩, .string ⟨x.c.b.1.toArray⟩, .string ⟨x.c.b.2.toArray⟩, .string ⟨x.c.c.1.toArray⟩, .string ⟨x.c.c.2.toArray⟩, .string ⟨x.c.e.toArray⟩, .string ⟨x.f.r.1.toArray⟩, .string ⟨x.f.r.2.toArray⟩, .string ⟨x.f.w.toArray⟩, .slice va j vc]) (by rfl) (by rfl) rfl rfl rfl rfl rfl rfl (by kernel_rfl) (by kernel_rfl) nofun nofun nofun (fun _ => trivial) (st.blk (i := 4) get4) ?_
          apply Exists.intro; refine ⟨fun w' hcl => ?_, ?_⟩; (focus (have q12 := Blk.cell hcl 12; (try simp at q12); (focus (first | (go_simp; done) | (go_simp; first | rfl | (rw [if_neg] <;> first | rfl | omega) | (rw [if_pos] <;> first | rfl | omega)))))); (try simp only [Rg4.nrm])
          intro K hK
          go_wp2_with fail
          obtain ⟨fr', al', st', back⟩ := st.sub [0, 1, 2] (by decide) (by simp)
          (try simp only [nsl, Value.cells, unB] at st')
          refine (HIH2.out _ _ _ _ st').mono ?_
          clear st'
          rintro en w ⟨t, rfl, ht, st'⟩
          replace st := back _ _ (by simp) st'
          clear back st'
          (try simp only [nsl, Value.cells, unB] at st)
          (try clear hc); have hc := st.facts; (try simp only [nfl, nft, elI, elF, Nat.reduceAdd] at hc)
          have HG2 := Lib.hid (HSN.out t ht)
          clear ht
          replace st := st.trsMore (i := 7) (j := 8) get7 get8
          have st9 := st.keep [0, 1, 2, 3, 4, 5, 6, 9] (by decide) (by simp)
          simp only [pick, List.map_cons, List.map_nil, List.getElem?_cons_zero, List.getElem?_cons_succ, Option.getD_some, List.cons_append, List.nil_append] at st9
          clear st
          have st := st9
          clear st9
          obtain ⟨y, a', n', c', kids'⟩ := t
          unfold trV S
          simp only
          (try simp only [nsl, Value.cells, unB] at st)
          (try clear hc); have hc := st.facts; (try simp only [nfl, nft, elI, elF, Nat.reduceAdd] at hc)
          refine hK _ _ ⟨st.blk (i := 4) get4, ?_⟩
          clear K hK
          intro K hK
          (try simp only [Rg4.nrm])
          (refine owp_buildSlice (o := ⟨some 42, _, _, _, _, _⟩) rfl st ?_; apply Exists.intro; apply Exists.intro; apply Exists.intro; apply Exists.intro; refine ⟨?_, ?_⟩; (focus (go_simp; (first | done | exact ⟨⟨rfl, rfl⟩, rfl⟩ | rfl))); (clear st; intro b42 w hb st; clear hb); (try simp only [nsl, Value.cells, unB] at st); (try clear hc); have hc := st.facts; (try simp only [nfl, nft, elI, elF, Nat.reduceAdd] at hc))
          refine hK _ _ ⟨st.blk (i := 4) get4, ?_⟩
          clear K hK
          (try simp only [Rg4.nrm])

          refine Rg4.w4_bar (Rg4.want_none rfl) rfl (fun w' hw' hcl _ K hK => ?_)
          subst hw'
          obtain ⟨inf, hinf, hz0, hz1, hz2⟩ := trInfo
          refine owp_append rfl st 6 get6 Tryz.underlying33 hinf hz0 hz1 hz2 rfl (by decide) rfl rfl ((st.blk (i := 8) get8).flat rfl) (by simp [Value.oneCell']) (by simp only [maxLen]; omega) (by omega) ?_
          clear hinf hz0 hz1 hz2 inf
          clear st
          intro v' w st
          obtain ⟨va', vc', rfl⟩ := own_slice (st.row (i := 6) get6)
          (try simp only [nsl, Value.cells, unB] at st)
          (try clear hc); have hc := st.facts; (try simp only [nfl, nft, elI, elF, Nat.reduceAdd] at hc)
          refine hK _ _ ⟨trivial, ?_⟩
          clear hK
          (try simp only [Rg4.nrm])
          (refine Rg4.w4_any (Rg4.want_none rfl) rfl ?_; apply Exists.intro; refine ⟨fun w' => ?_, ?_⟩; (focus (first | (go_simp; done) | (go_simp; first | rfl | (rw [if_neg] <;> first | rfl | omega) | (rw [if_pos] <;> first | rfl | omega)))); (try simp only [Rg4.nrm]))
          (refine Rg4.w4_bar (Rg4.want_none rfl) rfl (fun w' hw' hcl' _ K hK => ?_); subst hw'; (refine owp_store rfl st ?_; apply Exists.intro; apply Exists.intro; refine ⟨?_, ?_, ?_⟩; (focus (go_simp; try rfl)); (focus (go_simp; try rfl)); (first | (with_reducible refine ⟨0, _, _, _, _, get0, rfl, rfl, ?_, ?_, ?_, ?_⟩) | (with_reducible refine ⟨1, _, _, _, _, get1, rfl, rfl, ?_, ?_, ?_, ?_⟩) | (with_reducible refine ⟨2, _, _, _, _, get2, rfl, rfl, ?_, ?_, ?_, ?_⟩) | (with_reducible refine ⟨3, _, _, _, _, get3, rfl, rfl, ?_, ?_, ?_, ?_⟩) | (with_reducible refine ⟨4, _, _, _, _, get4, rfl, rfl, ?_, ?_, ?_, ?_⟩) | (with_reducible refine ⟨5, _, _, _, _, get5, rfl, rfl, ?_, ?_, ?_, ?_⟩) | (with_reducible refine ⟨6, _, _, _, _, get6, rfl, rfl, ?_, ?_, ?_, ?_⟩) | (with_reducible refine ⟨7, _, _, _, _, get7, rfl, rfl, ?_, ?_, ?_, ?_⟩) | (with_reducible refine ⟨8, _, _, _, _, get8, rfl, rfl, ?_, ?_, ?_, ?_⟩) | (with_reducible refine ⟨9, _, _, _, _, get9, rfl, rfl, ?_, ?_, ?_, ?_⟩) | (with_reducible refine ⟨10, _, _, _, _, get10, rfl, rfl, ?_, ?_, ?_, ?_⟩)); (kernel_rfl); (simp [Value.cells]); (rfl); (clear st; intro w st); (try simp only [nsl, Value.cells, unB] at st); (try clear hc); have hc := st.facts; (try simp only [nfl, nft, elI, elF, Nat.reduceAdd] at hc)); refine hK _ _ ⟨trivial, ?_⟩; (try simp only [Rg4.nrm]))
          refine Rg4.w4_nil (fun w' hw' hcl' _ => ?_); subst hw'; clear hcl'
          go_wp2_with fail
          have st' := st.keep [0, 1, 2, 3, 4, 5, 6, 7] (by decide) (by simp)
          go_roundg (q - (j + 1))
          case measure => omega
          case rel =>
            refine ⟨j + 1, gs ++ [.mk y a' n' c' kids'], va', vc', m3, by omega, by omega, by go_num, HG2, ?_⟩
            rw [cellsL_append, cellsL_one']
            simpa [pick, Flt.cells, trC, S] using st'
        · obtain rfl : q = j := by omega
          have HE : Hid (m2 = mm ∧ t2 = .mk x (gs.map Tr.strip)) := Lib.hid (by
            have h1 := HG.out
            rw [if_neg h40] at h1
            have h2 := HK.out
            rw [List.take_of_length_le (by have := HQ.out; omega)] at h2
            rw [← HM2.out, ← HT2.out, h1, ← h2]
            exact ⟨rfl, rfl⟩)
          have hcc := (rowFl' (α := Tr) st (i := 6) get6).1
          have HCC := Lib.hid hcc
          clear hcc
          (try simp only [nsl, Value.cells, unB] at st)
          (try clear hc); have hc := st.facts; (try simp only [nfl, nft, elI, elF, Nat.reduceAdd] at hc)
          go_wp2_with ((first
                | ((with_reducible refine wl_alloc ?_ (fun K hK => ?_)); rfl; refine owp_alloc (o := ⟨some 4, _, _, _, _, _⟩) rfl st ?_; apply Exists.intro; apply Exists.intro; refine ⟨?_, ?_⟩; (focus (first | (go_simp; done) | (go_simp; rfl))); (clear st; intro b4 w hb st; clear hb))
                | ((with_reducible refine wl_alloc ?_ (fun K hK => ?_)); rfl; refine owp_alloc (o := ⟨some 5, _, _, _, _, _⟩) rfl st ?_; apply Exists.intro; apply Exists.intro; refine ⟨?_, ?_⟩; (focus (first | (go_simp; done) | (go_simp; rfl))); (clear st; intro b5 w hb st; clear hb))
                | ((with_reducible refine wl_store ?_ (fun K hK => ?_)); rfl; refine owp_store rfl st ?_; apply Exists.intro; apply Exists.intro; refine ⟨?_, ?_, ?_⟩; (focus (go_simp; try rfl)); (focus (go_simp; try rfl)); (first | (with_reducible refine ⟨0, _, _, _, _, get0, rfl, rfl, ?_, ?_, ?_, ?_⟩) | (with_reducible refine ⟨1, _, _, _, _, get1, rfl, rfl, ?_, ?_, ?_, ?_⟩) | (with_reducible refine ⟨2, _, _, _, _, get2, rfl, rfl, ?_, ?_, ?_, ?_⟩) | (with_reducible refine ⟨3, _, _, _, _, get3, rfl, rfl, ?_, ?_, ?_, ?_⟩) | (with_reducible refine ⟨4, _, _, _, _, get4, rfl, rfl, ?_, ?_, ?_, ?_⟩) | (with_reducible refine ⟨5, _, _, _, _, get5, rfl, rfl, ?_, ?_, ?_, ?_⟩) | (with_reducible refine ⟨6, _, _, _, _, get6, rfl, rfl, ?_, ?_, ?_, ?_⟩) | (with_reducible refine ⟨7, _, _, _, _, get7, rfl, rfl, ?_, ?_, ?_, ?_⟩) | (with_reducible refine ⟨8, _, _, _, _, get8, rfl, rfl, ?_, ?_, ?_, ?_⟩) | (with_reducible refine ⟨9, _, _, _, _, get9, rfl, rfl, ?_, ?_, ?_, ?_⟩) | (with_reducible refine ⟨10, _, _, _, _, get10, rfl, rfl, ?_, ?_, ?_, ?_⟩)); (kernel_rfl); (simp [Value.cells]); (rfl); (clear st; intro w st))
                | ((with_reducible refine wl_buildSlice ?_ (fun K hK => ?_)); rfl; refine owp_buildSlice (o := ⟨some 42, _, _, _, _, _⟩) rfl st ?_; apply Exists.intro; apply Exists.intro; apply Exists.intro; apply Exists.intro; refine ⟨?_, ?_⟩; (focus (go_simp; (first | done | exact ⟨⟨rfl, rfl⟩, rfl⟩ | rfl))); (clear st; intro b42 w hb st; clear hb))); (try simp only [nsl, Value.cells, unB] at st); (try clear hc); have hc := st.facts; (try simp only [nfl, nft, elI, elF, Nat.reduceAdd] at hc))
          (try simp only [Exit.inBlock, Exit.then])
          refine bodyPost_cell rfl rfl (st.blk (i := 3) get3) Tryz.underlying35 rfl (by kernel_rfl) rfl ?_
          have st2 := st.rowToFl (α := Tr) (i := 6) get6
          have st3 := (st2.mkTr (i := 6) (j := 7) get6 get7 x vc HCC.out).keep [0, 1, 2, 8] (by decide) (by simp)
          obtain ⟨rfl, rfl⟩ := HE.out
          exact trGot (.mk x va q vc gs) rfl (by rw [stripT_mk]) (by simpa [pick, growL] using st3)
end Go.Proofs.YtdfdnedcaodmkaaGreat

namespace Go.Proofs.YtdfdnedcaodmkaaGreat
set_option linter.unusedSimpArgs false
set_option linter.unusedVariables false
open Go Go.RowKit
section
variable {P : Program} {fn : Func} {R : Ending → World → Prop} {a : Act} {w : World}
end
end Go.Proofs.YtdfdnedcaodmkaaGreat
