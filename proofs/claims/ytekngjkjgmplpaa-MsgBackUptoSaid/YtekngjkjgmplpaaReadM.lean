/- Right messages: bare, wants, shows, Right. -/
import Derived.Test.YtekngjkjgmplpaaCredF
import Derived.Deep.Onto
import Derived.Test.YtekngjkjgmplpaaCredA
namespace Go.Proofs.Ytekngjkjgmplpaa
set_option linter.unusedSimpArgs false
set_option linter.unusedVariables false
open Go Go.RowKit
def bareMg (x : MsgT) : MsgT :=
  if x.k = 1 then ⟨x.k, x.p, 0, x.nm, none, 0, 0, [], none, 0, 0, []⟩
  else if x.k = 2 then ⟨x.k, 0, 0, [], x.wa, x.wn, x.wc, x.ws, x.sa, x.sn, x.sc, x.ss⟩
  else if x.k = 5 then ⟨x.k, 0, x.e, [], none, 0, 0, [], none, 0, 0, []⟩
  else ⟨x.k, 0, 0, [], none, 0, 0, [], none, 0, 0, []⟩
theorem bareMg_ok {W : World} {x : MsgT} (h : MgOk W x) : MgOk W (bareMg x) := by
  have z : ∀ k p e nm, MgOk W ⟨k, p, e, nm, none, 0, 0, [], none, 0, 0, []⟩ := fun k p e nm => ⟨⟨⟨Nat.le_refl _, by simp [maxLen]⟩, Fl.nil _ _⟩, ⟨⟨Nat.le_refl _, by simp [maxLen]⟩, Fl.nil _ _⟩, by simp⟩
  unfold bareMg
  split
  · exact z _ _ _ _
  · split
    · exact h
    · split
      · exact z _ _ _ _
      · exact z _ _ _ _
theorem bareMg_L {x : MsgT} (h : MgL x) : MgL (bareMg x) := by
  have z : ∀ k p e nm, nm.length ≤ 100000 → MgL ⟨k, p, e, nm, none, 0, 0, [], none, 0, 0, []⟩ := fun k p e nm hn => ⟨by simp, by simp, hn, by simp, by simp⟩
  unfold bareMg
  split
  · exact z _ _ _ _ h.2.2.1
  · split
    · exact ⟨h.1, h.2.1, by simp, h.2.2.2.1, h.2.2.2.2⟩
    · split
      · exact z _ _ _ _ (by simp)
      · exact z _ _ _ _ (by simp)
set_option maxRecDepth 100000 in
set_option maxHeartbeats 4000000 in
theorem bare_any (x : MsgT) (W : World) : Calls Try.prog 147 #[mgV x] W fun e w' => e = .returned (mgV (bareMg x)) ∧ Ext W w' := by
  have HB : Hid (mgV (bareMg x) = mgV (if x.k = 1 then ⟨x.k, x.p, 0, x.nm, none, 0, 0, [], none, 0, 0, []⟩
  else if x.k = 2 then ⟨x.k, 0, 0, [], x.wa, x.wn, x.wc, x.ws, x.sa, x.sn, x.sc, x.ss⟩
  else if x.k = 5 then ⟨x.k, 0, x.e, [], none, 0, 0, [], none, 0, 0, []⟩
  else ⟨x.k, 0, 0, [], none, 0, 0, [], none, 0, 0, []⟩)) := Lib.hid rfl
  obtain ⟨bv, hbv⟩ : ∃ b, mgV (bareMg x) = b := ⟨_, rfl⟩
  rw [hbv] at HB ⊢
  clear hbv
  obtain ⟨k, p, e, nm, wa, wn, wc, ws, sa, sn, sc, ss⟩ := x
  simp only at HB
  have st := Own.startOld W
  unfold mgV S
  (try simp only [nsl, Value.cells, unB] at st)
  (try clear hc); have hc := st.facts; (try simp only [nfl, nft, Nat.reduceAdd] at hc)
  by_cases k1 : k = 1
  · subst k1
    have H1 : Hid (bv = .agg #[.int .i64 1, .int .i64 p, .int .i64 0, .string ⟨nm.toArray⟩, .slice none 0 0, .slice none 0 0]) := Lib.hid (by rw [HB.out, if_pos rfl]; rfl)
    go_enter Try.func147, Try.ntmps147
    go_wp2_with ((first
          | ((with_reducible refine wl_box ?_ (fun K hK => ?_)); rfl; refine owp_box (o := ⟨some 1, _, _, _, _, _⟩) rfl st ?_; apply Exists.intro; refine ⟨?_, ?_⟩; (focus (go_simp; try rfl)); (clear st; intro b1 w hb st; clear hb))
          | ((with_reducible refine wl_alloc ?_ (fun K hK => ?_)); rfl; refine owp_alloc (o := ⟨some 2, _, _, _, _, _⟩) rfl st ?_; apply Exists.intro; apply Exists.intro; refine ⟨?_, ?_⟩; (focus (first | (go_simp; done) | (go_simp; rfl))); (clear st; intro b2 w hb st; clear hb))
          | ((with_reducible refine wl_alloc ?_ (fun K hK => ?_)); rfl; refine owp_alloc (o := ⟨some 3, _, _, _, _, _⟩) rfl st ?_; apply Exists.intro; apply Exists.intro; refine ⟨?_, ?_⟩; (focus (first | (go_simp; done) | (go_simp; rfl))); (clear st; intro b3 w hb st; clear hb))
          | ((with_reducible refine wl_store ?_ (fun K hK => ?_)); rfl; refine owp_store rfl st ?_; apply Exists.intro; apply Exists.intro; refine ⟨?_, ?_, ?_⟩; (focus (go_simp; try rfl)); (focus (go_simp; try rfl)); (with_reducible refine ⟨3, _, _, _, _, get3, rfl, rfl, ?_, ?_, ?_, ?_⟩); (kernel_rfl); (simp [Value.cells]); (rfl); (clear st; intro w st))); (try simp only [nsl, Value.cells, unB] at st); (try clear hc); have hc := st.facts; (try simp only [nfl, nft, Nat.reduceAdd] at hc))
    refine Rg4.wp_region4_eq #[0, 1, 0, 4, 3, 19, 63, 127] [5, 7] [] (fun W' => Blk W' b1 [.int .i64 1, .int .i64 p, .int .i64 e, .string ⟨nm.toArray⟩, .slice wa wn wc, .slice sa sn sc]) [0, 1, 2, 3, 4, 5, 6, 7] (by kernel_rfl) (by kernel_rfl) (by kernel_rfl) (by kernel_rfl) (show Rg4.PB _ by repeat (first | with_reducible exact Rg4.pb_body | with_reducible exact Rg4.pb_bodyD rfl | with_reducible refine Rg4.pb_then ?_ | with_reducible refine Rg4.pb_inBlock ?_ | with_reducible refine Rg4.pb_noGoto ?_)) (st.drew.blk (i := 1) get1) ?_
    replace st := st.drew
    change Rg4.wp4 _ _ _ _ _ _ _ _ _ (World.drew _) _ _
    generalize World.drew _ = w at st ⊢
    (try clear hc); have hc := st.facts; (try simp only [nfl, nft, Nat.reduceAdd] at hc)
    (refine Rg4.w4_any (Rg4.want_none rfl) rfl ?_; apply Exists.intro; refine ⟨fun w' => ?_, ?_⟩; (focus (first | (go_simp; done) | (go_simp; first | rfl | (rw [if_neg] <;> first | rfl | omega) | (rw [if_pos] <;> first | rfl | omega)))); (try simp only [Rg4.nrm]))
    (refine Rg4.w4_cl (Rg4.want_none rfl) rfl ?_; apply Exists.intro; refine ⟨fun w' hcl => ?_, ?_⟩; (focus (have q0 := Blk.cell hcl 0; have q1 := Blk.cell hcl 1; have q2 := Blk.cell hcl 2; have q3 := Blk.cell hcl 3; have q4 := Blk.cell hcl 4; have q5 := Blk.cell hcl 5; (try simp at q0 q1 q2 q3 q4 q5); (focus (first | (go_simp; done) | (go_simp; first | rfl | (rw [if_neg] <;> first | rfl | omega) | (rw [if_pos] <;> first | rfl | omega)))))); (try simp only [Rg4.nrm]))
    (refine Rg4.w4_any (Rg4.want_none rfl) rfl ?_; apply Exists.intro; refine ⟨fun w' => ?_, ?_⟩; (focus (first | (go_simp; done) | (go_simp; first | rfl | (rw [if_neg] <;> first | rfl | omega) | (rw [if_pos] <;> first | rfl | omega)))); (try simp only [Rg4.nrm]))
    (refine Rg4.w4_cl (Rg4.want_none rfl) rfl ?_; apply Exists.intro; refine ⟨fun w' hcl => ?_, ?_⟩; (focus (have q0 := Blk.cell hcl 0; have q1 := Blk.cell hcl 1; have q2 := Blk.cell hcl 2; have q3 := Blk.cell hcl 3; have q4 := Blk.cell hcl 4; have q5 := Blk.cell hcl 5; (try simp at q0 q1 q2 q3 q4 q5); (focus (first | (go_simp; done) | (go_simp; first | rfl | (rw [if_neg] <;> first | rfl | omega) | (rw [if_pos] <;> first | rfl | omega)))))); (try simp only [Rg4.nrm]))
    (refine Rg4.w4_any (Rg4.want_none rfl) rfl ?_; apply Exists.intro; refine ⟨fun w' => ?_, ?_⟩; (focus (first | (go_simp; done) | (go_simp; first | rfl | (rw [if_neg] <;> first | rfl | omega) | (rw [if_pos] <;> first | rfl | omega)))); (try simp only [Rg4.nrm]))
    (refine Rg4.w4_bar (Rg4.want_none rfl) rfl (fun w' hw' hcl' _ K hK => ?_); subst hw'; (refine owp_store rfl st ?_; apply Exists.intro; apply Exists.intro; refine ⟨?_, ?_, ?_⟩; (focus (go_simp; try rfl)); (focus (go_simp; try rfl)); (with_reducible refine ⟨3, _, _, _, _, get3, rfl, rfl, ?_, ?_, ?_, ?_⟩); (kernel_rfl); (simp [Value.cells]); (rfl); (clear st; intro w st); (try simp only [nsl, Value.cells, unB] at st); (try clear hc); have hc := st.facts; (try simp only [nfl, nft, Nat.reduceAdd] at hc)); refine hK _ _ ⟨st.blk (i := 1) get1, ?_⟩; (try simp only [Rg4.nrm]))
    (refine Rg4.w4_any (Rg4.want_none rfl) rfl ?_; apply Exists.intro; refine ⟨fun w' => ?_, ?_⟩; (focus (first | (go_simp; done) | (go_simp; first | rfl | (rw [if_neg] <;> first | rfl | omega) | (rw [if_pos] <;> first | rfl | omega)))); (try simp only [Rg4.nrm]))
    (refine Rg4.w4_bar (Rg4.want_none rfl) rfl (fun w' hw' hcl' _ K hK => ?_); subst hw'; (refine owp_store rfl st ?_; apply Exists.intro; apply Exists.intro; refine ⟨?_, ?_, ?_⟩; (focus (go_simp; try rfl)); (focus (go_simp; try rfl)); (with_reducible refine ⟨3, _, _, _, _, get3, rfl, rfl, ?_, ?_, ?_, ?_⟩); (kernel_rfl); (simp [Value.cells]); (rfl); (clear st; intro w st); (try simp only [nsl, Value.cells, unB] at st); (try clear hc); have hc := st.facts; (try simp only [nfl, nft, Nat.reduceAdd] at hc)); refine hK _ _ ⟨st.blk (i := 1) get1, ?_⟩; (try simp only [Rg4.nrm]))
    refine Rg4.w4_nil (fun w' hw' hcl' _ => ?_); subst hw'; clear hcl'
    go_wp2_with ((((with_reducible refine wl_store ?_ (fun K hK => ?_)); rfl; refine owp_store rfl st ?_; apply Exists.intro; apply Exists.intro; refine ⟨?_, ?_, ?_⟩; (focus (go_simp; try rfl)); (focus (go_simp; try rfl)); (with_reducible refine ⟨2, _, _, _, _, get2, rfl, rfl, ?_, ?_, ?_, ?_⟩); (kernel_rfl); (simp [Value.cells]); (rfl); (clear st; intro w st))); (try simp only [nsl, Value.cells, unB] at st); (try clear hc); have hc := st.facts; (try simp only [nfl, nft, Nat.reduceAdd] at hc))
    (try simp only [Exit.inBlock, Exit.then])
    refine bodyPost_cell rfl rfl (st.blk (i := 2) get2) Try.underlying111 rfl (by kernel_rfl) rfl ?_
    exact ⟨by rw [H1.out], st.ext0⟩
  by_cases k2 : k = 2
  · subst k2
    have H1 : Hid (bv = .agg #[.int .i64 2, .int .i64 0, .int .i64 0, .string ⟨#[]⟩, .slice wa wn wc, .slice sa sn sc]) := Lib.hid (by rw [HB.out, if_neg (by decide), if_pos rfl]; rfl)
    go_enter Try.func147, Try.ntmps147
    go_wp2_with ((first
          | ((with_reducible refine wl_box ?_ (fun K hK => ?_)); rfl; refine owp_box (o := ⟨some 1, _, _, _, _, _⟩) rfl st ?_; apply Exists.intro; refine ⟨?_, ?_⟩; (focus (go_simp; try rfl)); (clear st; intro b1 w hb st; clear hb))
          | ((with_reducible refine wl_alloc ?_ (fun K hK => ?_)); rfl; refine owp_alloc (o := ⟨some 2, _, _, _, _, _⟩) rfl st ?_; apply Exists.intro; apply Exists.intro; refine ⟨?_, ?_⟩; (focus (first | (go_simp; done) | (go_simp; rfl))); (clear st; intro b2 w hb st; clear hb))
          | ((with_reducible refine wl_alloc ?_ (fun K hK => ?_)); rfl; refine owp_alloc (o := ⟨some 3, _, _, _, _, _⟩) rfl st ?_; apply Exists.intro; apply Exists.intro; refine ⟨?_, ?_⟩; (focus (first | (go_simp; done) | (go_simp; rfl))); (clear st; intro b3 w hb st; clear hb))
          | ((with_reducible refine wl_store ?_ (fun K hK => ?_)); rfl; refine owp_store rfl st ?_; apply Exists.intro; apply Exists.intro; refine ⟨?_, ?_, ?_⟩; (focus (go_simp; try rfl)); (focus (go_simp; try rfl)); (with_reducible refine ⟨3, _, _, _, _, get3, rfl, rfl, ?_, ?_, ?_, ?_⟩); (kernel_rfl); (simp [Value.cells]); (rfl); (clear st; intro w st))); (try simp only [nsl, Value.cells, unB] at st); (try clear hc); have hc := st.facts; (try simp only [nfl, nft, Nat.reduceAdd] at hc))
    refine Rg4.wp_region4_eq #[0, 1, 0, 4, 3, 19, 63, 127] [5, 7] [] (fun W' => Blk W' b1 [.int .i64 2, .int .i64 p, .int .i64 e, .string ⟨nm.toArray⟩, .slice wa wn wc, .slice sa sn sc]) [0, 1, 2, 3, 4, 5, 6, 7] (by kernel_rfl) (by kernel_rfl) (by kernel_rfl) (by kernel_rfl) (show Rg4.PB _ by repeat (first | with_reducible exact Rg4.pb_body | with_reducible exact Rg4.pb_bodyD rfl | with_reducible refine Rg4.pb_then ?_ | with_reducible refine Rg4.pb_inBlock ?_ | with_reducible refine Rg4.pb_noGoto ?_)) (st.drew.blk (i := 1) get1) ?_
    replace st := st.drew
    change Rg4.wp4 _ _ _ _ _ _ _ _ _ (World.drew _) _ _
    generalize World.drew _ = w at st ⊢
    (try clear hc); have hc := st.facts; (try simp only [nfl, nft, Nat.reduceAdd] at hc)
    (refine Rg4.w4_any (Rg4.want_none rfl) rfl ?_; apply Exists.intro; refine ⟨fun w' => ?_, ?_⟩; (focus (first | (go_simp; done) | (go_simp; first | rfl | (rw [if_neg] <;> first | rfl | omega) | (rw [if_pos] <;> first | rfl | omega)))); (try simp only [Rg4.nrm]))
    (refine Rg4.w4_cl (Rg4.want_none rfl) rfl ?_; apply Exists.intro; refine ⟨fun w' hcl => ?_, ?_⟩; (focus (have q0 := Blk.cell hcl 0; have q1 := Blk.cell hcl 1; have q2 := Blk.cell hcl 2; have q3 := Blk.cell hcl 3; have q4 := Blk.cell hcl 4; have q5 := Blk.cell hcl 5; (try simp at q0 q1 q2 q3 q4 q5); (focus (first | (go_simp; done) | (go_simp; first | rfl | (rw [if_neg] <;> first | rfl | omega) | (rw [if_pos] <;> first | rfl | omega)))))); (try simp only [Rg4.nrm]))
    (refine Rg4.w4_any (Rg4.want_none rfl) rfl ?_; apply Exists.intro; refine ⟨fun w' => ?_, ?_⟩; (focus (first | (go_simp; done) | (go_simp; first | rfl | (rw [if_neg] <;> first | rfl | omega) | (rw [if_pos] <;> first | rfl | omega)))); (try simp only [Rg4.nrm]))
    (refine Rg4.w4_cl (Rg4.want_none rfl) rfl ?_; apply Exists.intro; refine ⟨fun w' hcl => ?_, ?_⟩; (focus (have q0 := Blk.cell hcl 0; have q1 := Blk.cell hcl 1; have q2 := Blk.cell hcl 2; have q3 := Blk.cell hcl 3; have q4 := Blk.cell hcl 4; have q5 := Blk.cell hcl 5; (try simp at q0 q1 q2 q3 q4 q5); (focus (first | (go_simp; done) | (go_simp; first | rfl | (rw [if_neg] <;> first | rfl | omega) | (rw [if_pos] <;> first | rfl | omega)))))); (try simp only [Rg4.nrm]))
    (refine Rg4.w4_any (Rg4.want_none rfl) rfl ?_; apply Exists.intro; refine ⟨fun w' => ?_, ?_⟩; (focus (first | (go_simp; done) | (go_simp; first | rfl | (rw [if_neg] <;> first | rfl | omega) | (rw [if_pos] <;> first | rfl | omega)))); (try simp only [Rg4.nrm]))
    (refine Rg4.w4_bar (Rg4.want_none rfl) rfl (fun w' hw' hcl' _ K hK => ?_); subst hw'; (refine owp_store rfl st ?_; apply Exists.intro; apply Exists.intro; refine ⟨?_, ?_, ?_⟩; (focus (go_simp; try rfl)); (focus (go_simp; try rfl)); (with_reducible refine ⟨3, _, _, _, _, get3, rfl, rfl, ?_, ?_, ?_, ?_⟩); (kernel_rfl); (simp [Value.cells]); (rfl); (clear st; intro w st); (try simp only [nsl, Value.cells, unB] at st); (try clear hc); have hc := st.facts; (try simp only [nfl, nft, Nat.reduceAdd] at hc)); refine hK _ _ ⟨st.blk (i := 1) get1, ?_⟩; (try simp only [Rg4.nrm]))
    (refine Rg4.w4_any (Rg4.want_none rfl) rfl ?_; apply Exists.intro; refine ⟨fun w' => ?_, ?_⟩; (focus (first | (go_simp; done) | (go_simp; first | rfl | (rw [if_neg] <;> first | rfl | omega) | (rw [if_pos] <;> first | rfl | omega)))); (try simp only [Rg4.nrm]))
    (refine Rg4.w4_bar (Rg4.want_none rfl) rfl (fun w' hw' hcl' _ K hK => ?_); subst hw'; (refine owp_store rfl st ?_; apply Exists.intro; apply Exists.intro; refine ⟨?_, ?_, ?_⟩; (focus (go_simp; try rfl)); (focus (go_simp; try rfl)); (with_reducible refine ⟨3, _, _, _, _, get3, rfl, rfl, ?_, ?_, ?_, ?_⟩); (kernel_rfl); (simp [Value.cells]); (rfl); (clear st; intro w st); (try simp only [nsl, Value.cells, unB] at st); (try clear hc); have hc := st.facts; (try simp only [nfl, nft, Nat.reduceAdd] at hc)); refine hK _ _ ⟨st.blk (i := 1) get1, ?_⟩; (try simp only [Rg4.nrm]))
    refine Rg4.w4_nil (fun w' hw' hcl' _ => ?_); subst hw'; clear hcl'
    go_wp2_with ((((with_reducible refine wl_store ?_ (fun K hK => ?_)); rfl; refine owp_store rfl st ?_; apply Exists.intro; apply Exists.intro; refine ⟨?_, ?_, ?_⟩; (focus (go_simp; try rfl)); (focus (go_simp; try rfl)); (with_reducible refine ⟨2, _, _, _, _, get2, rfl, rfl, ?_, ?_, ?_, ?_⟩); (kernel_rfl); (simp [Value.cells]); (rfl); (clear st; intro w st))); (try simp only [nsl, Value.cells, unB] at st); (try clear hc); have hc := st.facts; (try simp only [nfl, nft, Nat.reduceAdd] at hc))
    (try simp only [Exit.inBlock, Exit.then])
    refine bodyPost_cell rfl rfl (st.blk (i := 2) get2) Try.underlying111 rfl (by kernel_rfl) rfl ?_
    exact ⟨by rw [H1.out], st.ext0⟩
  by_cases k5 : k = 5
  · subst k5
    have H1 : Hid (bv = .agg #[.int .i64 5, .int .i64 0, .int .i64 e, .string ⟨#[]⟩, .slice none 0 0, .slice none 0 0]) := Lib.hid (by rw [HB.out, if_neg (by decide), if_neg (by decide), if_pos rfl]; rfl)
    go_enter Try.func147, Try.ntmps147
    go_wp2_with ((first
          | ((with_reducible refine wl_box ?_ (fun K hK => ?_)); rfl; refine owp_box (o := ⟨some 1, _, _, _, _, _⟩) rfl st ?_; apply Exists.intro; refine ⟨?_, ?_⟩; (focus (go_simp; try rfl)); (clear st; intro b1 w hb st; clear hb))
          | ((with_reducible refine wl_alloc ?_ (fun K hK => ?_)); rfl; refine owp_alloc (o := ⟨some 2, _, _, _, _, _⟩) rfl st ?_; apply Exists.intro; apply Exists.intro; refine ⟨?_, ?_⟩; (focus (first | (go_simp; done) | (go_simp; rfl))); (clear st; intro b2 w hb st; clear hb))
          | ((with_reducible refine wl_alloc ?_ (fun K hK => ?_)); rfl; refine owp_alloc (o := ⟨some 3, _, _, _, _, _⟩) rfl st ?_; apply Exists.intro; apply Exists.intro; refine ⟨?_, ?_⟩; (focus (first | (go_simp; done) | (go_simp; rfl))); (clear st; intro b3 w hb st; clear hb))
          | ((with_reducible refine wl_store ?_ (fun K hK => ?_)); rfl; refine owp_store rfl st ?_; apply Exists.intro; apply Exists.intro; refine ⟨?_, ?_, ?_⟩; (focus (go_simp; try rfl)); (focus (go_simp; try rfl)); (first | (with_reducible refine ⟨2, _, _, _, _, get2, rfl, rfl, ?_, ?_, ?_, ?_⟩) | (with_reducible refine ⟨3, _, _, _, _, get3, rfl, rfl, ?_, ?_, ?_, ?_⟩)); (kernel_rfl); (simp [Value.cells]); (rfl); (clear st; intro w st))); (try simp only [nsl, Value.cells, unB] at st); (try clear hc); have hc := st.facts; (try simp only [nfl, nft, Nat.reduceAdd] at hc))
    go_wp2_with fail
    (try simp only [Exit.inBlock, Exit.then])
    refine bodyPost_cell rfl rfl (st.blk (i := 2) get2) Try.underlying111 rfl (by kernel_rfl) rfl ?_
    exact ⟨by rw [H1.out], st.ext0⟩
  have H1 : Hid (bv = .agg #[.int .i64 k, .int .i64 0, .int .i64 0, .string ⟨#[]⟩, .slice none 0 0, .slice none 0 0]) := Lib.hid (by rw [HB.out, if_neg k1, if_neg k2, if_neg k5]; rfl)
  have k1b : (k == 1) = false := by simpa using k1
  have k2b : (k == 2) = false := by simpa using k2
  have k5b : (k == 5) = false := by simpa using k5
  clear k1 k2 k5
  go_enter Try.func147, Try.ntmps147
  go_wp2_with ((first
        | ((with_reducible refine wl_box ?_ (fun K hK => ?_)); rfl; refine owp_box (o := ⟨some 1, _, _, _, _, _⟩) rfl st ?_; apply Exists.intro; refine ⟨?_, ?_⟩; (focus (go_simp; try rfl)); (clear st; intro b1 w hb st; clear hb))
        | ((with_reducible refine wl_alloc ?_ (fun K hK => ?_)); rfl; refine owp_alloc (o := ⟨some 2, _, _, _, _, _⟩) rfl st ?_; apply Exists.intro; apply Exists.intro; refine ⟨?_, ?_⟩; (focus (first | (go_simp; done) | (go_simp; rfl))); (clear st; intro b2 w hb st; clear hb))
        | ((with_reducible refine wl_alloc ?_ (fun K hK => ?_)); rfl; refine owp_alloc (o := ⟨some 3, _, _, _, _, _⟩) rfl st ?_; apply Exists.intro; apply Exists.intro; refine ⟨?_, ?_⟩; (focus (first | (go_simp; done) | (go_simp; rfl))); (clear st; intro b3 w hb st; clear hb))
        | ((with_reducible refine wl_store ?_ (fun K hK => ?_)); rfl; refine owp_store rfl st ?_; apply Exists.intro; apply Exists.intro; refine ⟨?_, ?_, ?_⟩; (focus (go_simp; try rfl)); (focus (go_simp; try rfl)); (first | (with_reducible refine ⟨2, _, _, _, _, get2, rfl, rfl, ?_, ?_, ?_, ?_⟩) | (with_reducible refine ⟨3, _, _, _, _, get3, rfl, rfl, ?_, ?_, ?_, ?_⟩)); (kernel_rfl); (simp [Value.cells]); (rfl); (clear st; intro w st))); (try simp only [nsl, Value.cells, unB] at st); (try clear hc); have hc := st.facts; (try simp only [nfl, nft, Nat.reduceAdd] at hc))
  go_wp2_with fail
  (try simp only [Exit.inBlock, Exit.then])
  refine bodyPost_cell rfl rfl (st.blk (i := 2) get2) Try.underlying111 rfl (by kernel_rfl) rfl ?_
  exact ⟨by rw [H1.out], st.ext0⟩
/-- Which wants may be. -/
def wantsR (l : List Role) : Bool := decide (l.length ≤ 16) && decide (roleSet l = l)
set_option maxRecDepth 100000 in
set_option maxHeartbeats 1000000 in
theorem wants_any (a : Option Addr) (n c : Nat) (l : List Role) (W : World) (h : Fl W a n l) (hn : n ≤ 1000000) (hs : ∀ x ∈ l, x.1.length ≤ 100000 ∧ x.2.length ≤ 100000) :
    Calls Try.prog 149 #[.slice a n c] W fun e w' => e = .returned (.bool (wantsR l)) ∧ Ext W w' := by
  have H := Lib.hid h
  have HRS := Lib.hid (fun W' h => roleSet_any a n c l W' h (by omega) hs)
  have hsl := roleSet_len l
  have HNL : Hid (n = l.length) := Lib.hid h.1
  obtain ⟨r, hr⟩ : ∃ r, wantsR l = r := ⟨_, rfl⟩
  have HR : Hid (r = (decide (l.length ≤ 16) && decide (roleSet l = l))) := Lib.hid (by rw [← hr]; rfl)
  rw [hr]
  have HEQ := Lib.hid (fun va vc W' h1 h2 => roleEqual_any va (roleSet l).length vc (roleSet l) a n c l W' h1 h2 (by have := HNL.out; omega) (by omega))
  obtain ⟨q, hq⟩ : ∃ q, decide (roleSet l = l) = q := ⟨_, rfl⟩
  rw [hq] at HEQ HR
  obtain ⟨m, hm⟩ : ∃ m, (roleSet l).length = m := ⟨_, rfl⟩
  rw [hm] at HRS HEQ hsl
  have hmn : m ≤ n := by have := HNL.out; omega
  clear h hs hr hq hm hsl
  have st := Own.startOld W
  (try simp only [nsl, Value.cells, unB] at st)
  (try clear hc); have hc := st.facts; (try simp only [nfl, nft, Nat.reduceAdd] at hc)
  by_cases h16 : n ≤ 16
  · have H1 : Hid (r = q) := Lib.hid (by rw [HR.out, decide_eq_true (by have := HNL.out; omega)]; rfl)
    go_enter Try.func149, Try.ntmps149
    go_wp2_with fail
    refine (HRS.out _ (st.oldFl (i := 0) get0 H.out)).mono ?_
    rintro en w ⟨va, vc, rfl, hfr⟩
    replace st := st.fresh hfr
    clear hfr
    (try simp only [nsl, Value.cells, unB] at st)
    (try clear hc); have hc := st.facts; (try simp only [nfl, nft, Nat.reduceAdd] at hc)
    go_wp2_with fail
    refine (HEQ.out _ _ _ (rowFl' (α := Role) st (i := 1) get1).2 (st.oldFl (i := 0) get0 H.out)).mono ?_
    rintro en w ⟨rfl, hx⟩
    replace st := st.ext hx
    clear hx
    (try clear hc); have hc := st.facts; (try simp only [nfl, nft, Nat.reduceAdd] at hc)
    go_wp2_with fail
    go_ret
    exact ⟨by rw [H1.out]; rfl, st.ext0⟩
  · have H1 : Hid (r = false) := Lib.hid (by rw [HR.out, decide_eq_false (by have := HNL.out; omega)]; rfl)
    go_enter Try.func149, Try.ntmps149
    go_wp2_with fail
    go_ret
    exact ⟨by rw [H1.out]; rfl, st.ext0⟩
/-- Which shows may be. -/
def shAt (l : List SgnT) (j : Nat) : Bool := match l[j]? with
  | some x => credR x.c && (x.n == 8) && (if j = 0 then true else match l[j - 1]? with | some y => decide (credCmp y.c x.c < 0) | none => true)
  | none => true
def showsR (l : List SgnT) : Bool := (List.range l.length).all (shAt l) && decide (l.length ≤ 8)
theorem showsR_bad {l : List SgnT} {j : Nat} (hj : j < l.length) (h : shAt l j = false) : showsR l = false := by
  unfold showsR
  rw [show (List.range l.length).all (shAt l) = false from by rw [List.all_eq_false]; exact ⟨j, by simpa using hj, by rw [h]; decide⟩]
  rfl
theorem showsR_all {l : List SgnT} (h : ∀ i, i < l.length → shAt l i = true) : showsR l = decide (l.length ≤ 8) := by
  unfold showsR
  rw [show (List.range l.length).all (shAt l) = true from List.all_eq_true.2 fun i hi => h i (by simpa using hi)]
  rfl
theorem shAt_0 {l : List SgnT} (h : 0 < l.length) : shAt l 0 = (credR l[0].c && (l[0].n == 8)) := by
  unfold shAt; rw [List.getElem?_eq_getElem h]; simp
theorem shAt_s {l : List SgnT} {j : Nat} (h : j + 1 < l.length) : shAt l (j + 1) = (credR l[j + 1].c && (l[j + 1].n == 8) && decide (credCmp l[j].c l[j + 1].c < 0)) := by
  unfold shAt
  rw [List.getElem?_eq_getElem h]
  simp only [Nat.add_one_sub_one]
  rw [List.getElem?_eq_getElem (by omega : j < l.length)]
  simp
def SgL (x : SgnT) : Prop := x.n ≤ 100000 ∧ CLenS x.c
set_option maxRecDepth 100000 in
set_option maxHeartbeats 8000000 in
theorem shows_any (a : Option Addr) (n c : Nat) (l : List SgnT) (W : World) (h : Fl W a n l) (hn : n ≤ 1000000) (hs : ∀ x ∈ l, SgL x) :
    Calls Try.prog 150 #[.slice a n c] W fun e w' => e = .returned (.bool (showsR l)) ∧ Ext W w' := by
  have H := Lib.hid h
  have HL := Lib.hid hs
  have HNL : Hid (n = l.length) := Lib.hid h.1
  obtain ⟨r, hr⟩ : ∃ r, showsR l = r := ⟨_, rfl⟩
  have HR := Lib.hid hr
  rw [hr]
  clear h hs hr
  have st := Own.startOld W
  (try simp only [nsl, Value.cells, unB] at st)
  (try clear hc); have hc := st.facts; (try simp only [nfl, nft, Nat.reduceAdd] at hc)
  go_enter Try.func150, Try.ntmps150
  go_wp2_with fail
  go_loopg [7] n (fun kk i wr => ∃ (j : Nat), j ≤ n ∧ kk = n - j ∧ i = .int .i64 (j : Int) ∧ Hid (∀ i, i < j → shAt l i = true) ∧ Own (fun _ => False) (fun _ => True) W [oldI W] wr)
  case atStart => exact ⟨0, by omega, by omega, rfl, Lib.hid (fun i hi => by omega), st⟩
  case round =>
    obtain ⟨j, hj, rfl, rfl, HT, st'⟩ := hrel
    clear st hc
    have st := st'
    clear st'
    (try simp only [nsl, Value.cells, unB] at st)
    (try clear hc); have hc := st.facts; (try simp only [nfl, nft, Nat.reduceAdd] at hc)
    by_cases hjn : j < n
    · obtain ⟨b, off, ha, hcell⟩ := H.out.sgn (by omega)
      have hjl : j < l.length := by have := HNL.out; omega
      have HBD : Hid (shAt l j = false → r = false) := Lib.hid (fun q => by rw [← HR.out]; exact showsR_bad hjl q)
      have hcx := hcell j l[j] (List.getElem?_eq_getElem hjl)
      have hlx := HL.out l[j] (List.getElem_mem hjl)
      cases j with
      | zero =>
        have HSA : Hid (shAt l 0 = (credR l[0].c && (l[0].n == 8))) := Lib.hid (shAt_0 hjl)
        clear hcell
        generalize l[0] = x at *
        have HCR := Lib.hid (fun W => credRight_any x.c W hlx.2)
        obtain ⟨⟨ck, ⟨ho, hd⟩, cw, ⟨bo, bd⟩, ⟨co, cd⟩, we⟩, a1, n1, m1, xs⟩ := x
        simp only [Nat.zero_mul, Nat.add_zero, Nat.zero_add] at hcx
        obtain ⟨r0, r1, r2, r3, r4, r5, r6, r7, r8, r9⟩ := hcx
        replace r0 := st.oldCell (i := 0) get0 r0
        replace r1 := st.oldCell (i := 0) get0 r1
        replace r2 := st.oldCell (i := 0) get0 r2
        replace r3 := st.oldCell (i := 0) get0 r3
        replace r4 := st.oldCell (i := 0) get0 r4
        replace r5 := st.oldCell (i := 0) get0 r5
        replace r6 := st.oldCell (i := 0) get0 r6
        replace r7 := st.oldCell (i := 0) get0 r7
        replace r8 := st.oldCell (i := 0) get0 r8
        replace r9 := st.oldCell (i := 0) get0 r9
        subst ha
        simp only at HSA
        unfold S at r1 r2 r3 r4 r5 r6 r7 r8
        unfold cV S at HCR
        simp only at HCR
        obtain ⟨cr, hcr⟩ : ∃ q, credR ⟨ck, (ho, hd), cw, (bo, bd), (co, cd), we⟩ = q := ⟨_, rfl⟩
        rw [hcr] at HCR HSA
        clear hcr hlx hjl
        go_wp2_with ((first
              | ((with_reducible refine wl_alloc ?_ (fun K hK => ?_)); rfl; refine owp_alloc (o := ⟨some 4, _, _, _, _, _⟩) rfl st ?_; apply Exists.intro; apply Exists.intro; refine ⟨?_, ?_⟩; (focus (first | (go_simp; done) | (go_simp; rfl))); (clear st; intro b4 w hb st; clear hb))
              | ((with_reducible refine wl_store ?_ (fun K hK => ?_)); rfl; refine owp_store rfl st ?_; apply Exists.intro; apply Exists.intro; refine ⟨?_, ?_, ?_⟩; (focus (go_simp; try rfl)); (focus (go_simp; try rfl)); (with_reducible refine ⟨1, _, _, _, _, get1, rfl, rfl, ?_, ?_, ?_, ?_⟩); (kernel_rfl); (simp [Value.cells]); (rfl); (clear st; intro w st))); (try simp only [nsl, Value.cells, unB] at st); (try clear hc); have hc := st.facts; (try simp only [nfl, nft, Nat.reduceAdd] at hc))
        clear r0 r1 r2 r3 r4 r5 r6 r7 r8 r9
        cases cr with
        | false =>
          have HF : Hid (r = false) := Lib.hid (HBD.out (by rw [HSA.out]; simp only [Bool.false_and]; (try simp)))
          refine Rg4.wp_region4_eq #[0, 1, 3, 7, 15, 31, 63, 127, 255, 511, 1023, 2047, 4095, 8191, 16383, 16383, 49151, 131071, 262143, 524287, 16383, 1064959, 4194303, 8388607, 16777215, 33554431] [2, 22] [1, 6, 19, 21] (fun _ => True) [0, 1, 2, 3, 4, 5, 6, 7, 8, 9, 10, 11, 12, 13, 14, 15, 16, 17, 18, 19, 20, 21, 22, 23, 24, 25] (by kernel_rfl) (by kernel_rfl) (by kernel_rfl) (by kernel_rfl) (show Rg4.PB _ by repeat (first | with_reducible exact Rg4.pb_body | with_reducible exact Rg4.pb_bodyD rfl | with_reducible refine Rg4.pb_then ?_ | with_reducible refine Rg4.pb_inBlock ?_ | with_reducible refine Rg4.pb_noGoto ?_)) (trivial) ?_
          replace st := st.drew
          change Rg4.wp4 _ _ _ _ _ _ _ _ _ (World.drew _) _ _
          generalize World.drew _ = w at st ⊢
          (try clear hc); have hc := st.facts; (try simp only [nfl, nft, Nat.reduceAdd] at hc)
          (refine Rg4.w4_any (Rg4.want_none rfl) rfl ?_; apply Exists.intro; refine ⟨fun w' => ?_, ?_⟩; (focus (first | (go_simp; done) | (go_simp; first | rfl | (rw [if_neg] <;> first | rfl | omega) | (rw [if_pos] <;> first | rfl | omega)))); (try simp only [Rg4.nrm]))
          (refine Rg4.w4_read (Rg4.want_none rfl) rfl rfl ?_; apply Exists.intro; refine ⟨fun w' hw' hcl' => ?_, ?_⟩; focus (subst hw'; (focus (first | (go_simp; done) | (go_simp; first | rfl | (rw [if_neg] <;> first | rfl | omega) | (rw [if_pos] <;> first | rfl | omega))))); (try simp only [Rg4.nrm]))
          refine Rg4.w4_bar (Rg4.want_none rfl) rfl (fun w' hw' hcl _ K hK => ?_)
          subst hw'
          go_wp2_with fail
          refine (HCR.out _).mono ?_
          rintro en w ⟨rfl, hx⟩
          replace st := st.ext hx
          clear hx
          (try clear hc); have hc := st.facts; (try simp only [nfl, nft, Nat.reduceAdd] at hc)
          refine hK _ _ ⟨trivial, ?_⟩
          clear hK
          (try simp only [Rg4.nrm])
          iterate 2 (refine Rg4.w4_any (Rg4.want_none rfl) rfl ?_; apply Exists.intro; refine ⟨fun w' => ?_, ?_⟩; (focus (first | (go_simp; done) | (go_simp; first | rfl | (rw [if_neg] <;> first | rfl | omega) | (rw [if_pos] <;> first | rfl | omega)))); (try simp only [Rg4.nrm]))
          (first | (refine Rg4.w4_any (Rg4.wt rfl rfl rfl) rfl ?_; apply Exists.intro; refine ⟨fun w' => ?_, ?_⟩; (focus (first | (go_simp; done) | (go_simp; first | rfl | (rw [if_neg] <;> first | rfl | omega) | (rw [if_pos] <;> first | rfl | omega)))); (try simp only [Rg4.nrm])) | (refine Rg4.w4_skip (Rg4.uw rfl rfl rfl) ?_; (try simp only [Rg4.nrm])) | (refine Rg4.w4_skip (Rg4.un rfl rfl rfl) ?_; (try simp only [Rg4.nrm])))
          (first | (refine Rg4.w4_read (Rg4.wt rfl rfl rfl) rfl rfl ?_; apply Exists.intro; refine ⟨fun w' hw' hcl' => ?_, ?_⟩; focus (subst hw'; (focus (first | (go_simp; done) | (go_simp; first | rfl | (rw [if_neg] <;> first | rfl | omega) | (rw [if_pos] <;> first | rfl | omega))))); (try simp only [Rg4.nrm])) | (refine Rg4.w4_skip (Rg4.uw rfl rfl rfl) ?_; (try simp only [Rg4.nrm])) | (refine Rg4.w4_skip (Rg4.un rfl rfl rfl) ?_; (try simp only [Rg4.nrm])))
          iterate 2 (first | (refine Rg4.w4_any (Rg4.wt rfl rfl rfl) rfl ?_; apply Exists.intro; refine ⟨fun w' => ?_, ?_⟩; (focus (first | (go_simp; done) | (go_simp; first | rfl | (rw [if_neg] <;> first | rfl | omega) | (rw [if_pos] <;> first | rfl | omega)))); (try simp only [Rg4.nrm])) | (refine Rg4.w4_skip (Rg4.uw rfl rfl rfl) ?_; (try simp only [Rg4.nrm])) | (refine Rg4.w4_skip (Rg4.un rfl rfl rfl) ?_; (try simp only [Rg4.nrm])))
          iterate 2 (refine Rg4.w4_any (Rg4.want_none rfl) rfl ?_; apply Exists.intro; refine ⟨fun w' => ?_, ?_⟩; (focus (first | (go_simp; done) | (go_simp; first | rfl | (rw [if_neg] <;> first | rfl | omega) | (rw [if_pos] <;> first | rfl | omega)))); (try simp only [Rg4.nrm]))
          iterate 8 (first | (refine Rg4.w4_any (Rg4.wt rfl rfl rfl) rfl ?_; apply Exists.intro; refine ⟨fun w' => ?_, ?_⟩; (focus (first | (go_simp; done) | (go_simp; first | rfl | (rw [if_neg] <;> first | rfl | omega) | (rw [if_pos] <;> first | rfl | omega)))); (try simp only [Rg4.nrm])) | (refine Rg4.w4_skip (Rg4.uw rfl rfl rfl) ?_; (try simp only [Rg4.nrm])) | (refine Rg4.w4_skip (Rg4.un rfl rfl rfl) ?_; (try simp only [Rg4.nrm])))
          (first | (refine Rg4.w4_read (Rg4.wt rfl rfl rfl) rfl rfl ?_; apply Exists.intro; refine ⟨fun w' hw' hcl' => ?_, ?_⟩; focus (subst hw'; (focus (first | (go_simp; done) | (go_simp; first | rfl | (rw [if_neg] <;> first | rfl | omega) | (rw [if_pos] <;> first | rfl | omega))))); (try simp only [Rg4.nrm])) | (refine Rg4.w4_skip (Rg4.uw rfl rfl rfl) ?_; (try simp only [Rg4.nrm])) | (refine Rg4.w4_skip (Rg4.un rfl rfl rfl) ?_; (try simp only [Rg4.nrm])))
          (first | (refine Rg4.w4_any (Rg4.wt rfl rfl rfl) rfl ?_; apply Exists.intro; refine ⟨fun w' => ?_, ?_⟩; (focus (first | (go_simp; done) | (go_simp; first | rfl | (rw [if_neg] <;> first | rfl | omega) | (rw [if_pos] <;> first | rfl | omega)))); (try simp only [Rg4.nrm])) | (refine Rg4.w4_skip (Rg4.uw rfl rfl rfl) ?_; (try simp only [Rg4.nrm])) | (refine Rg4.w4_skip (Rg4.un rfl rfl rfl) ?_; (try simp only [Rg4.nrm])))
          (first | (refine Rg4.w4_read (Rg4.wt rfl rfl rfl) rfl rfl ?_; apply Exists.intro; refine ⟨fun w' hw' hcl' => ?_, ?_⟩; focus (subst hw'; (focus (first | (go_simp; done) | (go_simp; first | rfl | (rw [if_neg] <;> first | rfl | omega) | (rw [if_pos] <;> first | rfl | omega))))); (try simp only [Rg4.nrm])) | (refine Rg4.w4_skip (Rg4.uw rfl rfl rfl) ?_; (try simp only [Rg4.nrm])) | (refine Rg4.w4_skip (Rg4.un rfl rfl rfl) ?_; (try simp only [Rg4.nrm])))
          first | refine Rg4.w4_skip (Rg4.uw rfl rfl rfl) ?_ | refine Rg4.w4_skip (Rg4.un rfl rfl rfl) ?_
          (try simp only [Rg4.nrm])
          iterate 2 (first | (refine Rg4.w4_any (Rg4.wt rfl rfl rfl) rfl ?_; apply Exists.intro; refine ⟨fun w' => ?_, ?_⟩; (focus (first | (go_simp; done) | (go_simp; first | rfl | (rw [if_neg] <;> first | rfl | omega) | (rw [if_pos] <;> first | rfl | omega)))); (try simp only [Rg4.nrm])) | (refine Rg4.w4_skip (Rg4.uw rfl rfl rfl) ?_; (try simp only [Rg4.nrm])) | (refine Rg4.w4_skip (Rg4.un rfl rfl rfl) ?_; (try simp only [Rg4.nrm])))
          (refine Rg4.w4_any (Rg4.want_none rfl) rfl ?_; apply Exists.intro; refine ⟨fun w' => ?_, ?_⟩; (focus (first | (go_simp; done) | (go_simp; first | rfl | (rw [if_neg] <;> first | rfl | omega) | (rw [if_pos] <;> first | rfl | omega)))); (try simp only [Rg4.nrm]))
          refine Rg4.w4_nil (fun w' hw' hcl' _ => ?_); subst hw'; clear hcl'
          go_wp2_with fail
          go_ret
          exact ⟨by rw [HF.out]; rfl, st.ext0⟩
        | true =>
          by_cases h8 : n1 = 8
          · subst h8
            refine Rg4.wp_region4_eq #[0, 1, 3, 7, 15, 31, 63, 127, 255, 511, 1023, 2047, 4095, 8191, 16383, 16383, 49151, 131071, 262143, 524287, 16383, 1064959, 4194303, 8388607, 16777215, 33554431] [2, 22] [1, 6, 19, 21] (fun _ => True) [0, 1, 2, 3, 4, 5, 6, 7, 8, 9, 10, 11, 12, 13, 14, 15, 16, 17, 18, 19, 20, 21, 22, 23, 24, 25] (by kernel_rfl) (by kernel_rfl) (by kernel_rfl) (by kernel_rfl) (show Rg4.PB _ by repeat (first | with_reducible exact Rg4.pb_body | with_reducible exact Rg4.pb_bodyD rfl | with_reducible refine Rg4.pb_then ?_ | with_reducible refine Rg4.pb_inBlock ?_ | with_reducible refine Rg4.pb_noGoto ?_)) (trivial) ?_
            replace st := st.drew
            change Rg4.wp4 _ _ _ _ _ _ _ _ _ (World.drew _) _ _
            generalize World.drew _ = w at st ⊢
            (try clear hc); have hc := st.facts; (try simp only [nfl, nft, Nat.reduceAdd] at hc)
            (refine Rg4.w4_any (Rg4.want_none rfl) rfl ?_; apply Exists.intro; refine ⟨fun w' => ?_, ?_⟩; (focus (first | (go_simp; done) | (go_simp; first | rfl | (rw [if_neg] <;> first | rfl | omega) | (rw [if_pos] <;> first | rfl | omega)))); (try simp only [Rg4.nrm]))
            (refine Rg4.w4_read (Rg4.want_none rfl) rfl rfl ?_; apply Exists.intro; refine ⟨fun w' hw' hcl' => ?_, ?_⟩; focus (subst hw'; (focus (first | (go_simp; done) | (go_simp; first | rfl | (rw [if_neg] <;> first | rfl | omega) | (rw [if_pos] <;> first | rfl | omega))))); (try simp only [Rg4.nrm]))
            refine Rg4.w4_bar (Rg4.want_none rfl) rfl (fun w' hw' hcl _ K hK => ?_)
            subst hw'
            go_wp2_with fail
            refine (HCR.out _).mono ?_
            rintro en w ⟨rfl, hx⟩
            replace st := st.ext hx
            clear hx
            (try clear hc); have hc := st.facts; (try simp only [nfl, nft, Nat.reduceAdd] at hc)
            refine hK _ _ ⟨trivial, ?_⟩
            clear hK
            (try simp only [Rg4.nrm])
            iterate 2 (refine Rg4.w4_any (Rg4.want_none rfl) rfl ?_; apply Exists.intro; refine ⟨fun w' => ?_, ?_⟩; (focus (first | (go_simp; done) | (go_simp; first | rfl | (rw [if_neg] <;> first | rfl | omega) | (rw [if_pos] <;> first | rfl | omega)))); (try simp only [Rg4.nrm]))
            (first | (refine Rg4.w4_any (Rg4.wt rfl rfl rfl) rfl ?_; apply Exists.intro; refine ⟨fun w' => ?_, ?_⟩; (focus (first | (go_simp; done) | (go_simp; first | rfl | (rw [if_neg] <;> first | rfl | omega) | (rw [if_pos] <;> first | rfl | omega)))); (try simp only [Rg4.nrm])) | (refine Rg4.w4_skip (Rg4.uw rfl rfl rfl) ?_; (try simp only [Rg4.nrm])) | (refine Rg4.w4_skip (Rg4.un rfl rfl rfl) ?_; (try simp only [Rg4.nrm])))
            (first | (refine Rg4.w4_read (Rg4.wt rfl rfl rfl) rfl rfl ?_; apply Exists.intro; refine ⟨fun w' hw' hcl' => ?_, ?_⟩; focus (subst hw'; (focus (first | (go_simp; done) | (go_simp; first | rfl | (rw [if_neg] <;> first | rfl | omega) | (rw [if_pos] <;> first | rfl | omega))))); (try simp only [Rg4.nrm])) | (refine Rg4.w4_skip (Rg4.uw rfl rfl rfl) ?_; (try simp only [Rg4.nrm])) | (refine Rg4.w4_skip (Rg4.un rfl rfl rfl) ?_; (try simp only [Rg4.nrm])))
            iterate 2 (first | (refine Rg4.w4_any (Rg4.wt rfl rfl rfl) rfl ?_; apply Exists.intro; refine ⟨fun w' => ?_, ?_⟩; (focus (first | (go_simp; done) | (go_simp; first | rfl | (rw [if_neg] <;> first | rfl | omega) | (rw [if_pos] <;> first | rfl | omega)))); (try simp only [Rg4.nrm])) | (refine Rg4.w4_skip (Rg4.uw rfl rfl rfl) ?_; (try simp only [Rg4.nrm])) | (refine Rg4.w4_skip (Rg4.un rfl rfl rfl) ?_; (try simp only [Rg4.nrm])))
            iterate 2 (refine Rg4.w4_any (Rg4.want_none rfl) rfl ?_; apply Exists.intro; refine ⟨fun w' => ?_, ?_⟩; (focus (first | (go_simp; done) | (go_simp; first | rfl | (rw [if_neg] <;> first | rfl | omega) | (rw [if_pos] <;> first | rfl | omega)))); (try simp only [Rg4.nrm]))
            iterate 8 (first | (refine Rg4.w4_any (Rg4.wt rfl rfl rfl) rfl ?_; apply Exists.intro; refine ⟨fun w' => ?_, ?_⟩; (focus (first | (go_simp; done) | (go_simp; first | rfl | (rw [if_neg] <;> first | rfl | omega) | (rw [if_pos] <;> first | rfl | omega)))); (try simp only [Rg4.nrm])) | (refine Rg4.w4_skip (Rg4.uw rfl rfl rfl) ?_; (try simp only [Rg4.nrm])) | (refine Rg4.w4_skip (Rg4.un rfl rfl rfl) ?_; (try simp only [Rg4.nrm])))
            (first | (refine Rg4.w4_read (Rg4.wt rfl rfl rfl) rfl rfl ?_; apply Exists.intro; refine ⟨fun w' hw' hcl' => ?_, ?_⟩; focus (subst hw'; (focus (first | (go_simp; done) | (go_simp; first | rfl | (rw [if_neg] <;> first | rfl | omega) | (rw [if_pos] <;> first | rfl | omega))))); (try simp only [Rg4.nrm])) | (refine Rg4.w4_skip (Rg4.uw rfl rfl rfl) ?_; (try simp only [Rg4.nrm])) | (refine Rg4.w4_skip (Rg4.un rfl rfl rfl) ?_; (try simp only [Rg4.nrm])))
            (first | (refine Rg4.w4_any (Rg4.wt rfl rfl rfl) rfl ?_; apply Exists.intro; refine ⟨fun w' => ?_, ?_⟩; (focus (first | (go_simp; done) | (go_simp; first | rfl | (rw [if_neg] <;> first | rfl | omega) | (rw [if_pos] <;> first | rfl | omega)))); (try simp only [Rg4.nrm])) | (refine Rg4.w4_skip (Rg4.uw rfl rfl rfl) ?_; (try simp only [Rg4.nrm])) | (refine Rg4.w4_skip (Rg4.un rfl rfl rfl) ?_; (try simp only [Rg4.nrm])))
            (first | (refine Rg4.w4_read (Rg4.wt rfl rfl rfl) rfl rfl ?_; apply Exists.intro; refine ⟨fun w' hw' hcl' => ?_, ?_⟩; focus (subst hw'; (focus (first | (go_simp; done) | (go_simp; first | rfl | (rw [if_neg] <;> first | rfl | omega) | (rw [if_pos] <;> first | rfl | omega))))); (try simp only [Rg4.nrm])) | (refine Rg4.w4_skip (Rg4.uw rfl rfl rfl) ?_; (try simp only [Rg4.nrm])) | (refine Rg4.w4_skip (Rg4.un rfl rfl rfl) ?_; (try simp only [Rg4.nrm])))
            first | refine Rg4.w4_skip (Rg4.uw rfl rfl rfl) ?_ | refine Rg4.w4_skip (Rg4.un rfl rfl rfl) ?_
            (try simp only [Rg4.nrm])
            iterate 2 (first | (refine Rg4.w4_any (Rg4.wt rfl rfl rfl) rfl ?_; apply Exists.intro; refine ⟨fun w' => ?_, ?_⟩; (focus (first | (go_simp; done) | (go_simp; first | rfl | (rw [if_neg] <;> first | rfl | omega) | (rw [if_pos] <;> first | rfl | omega)))); (try simp only [Rg4.nrm])) | (refine Rg4.w4_skip (Rg4.uw rfl rfl rfl) ?_; (try simp only [Rg4.nrm])) | (refine Rg4.w4_skip (Rg4.un rfl rfl rfl) ?_; (try simp only [Rg4.nrm])))
            (refine Rg4.w4_any (Rg4.want_none rfl) rfl ?_; apply Exists.intro; refine ⟨fun w' => ?_, ?_⟩; (focus (first | (go_simp; done) | (go_simp; first | rfl | (rw [if_neg] <;> first | rfl | omega) | (rw [if_pos] <;> first | rfl | omega)))); (try simp only [Rg4.nrm]))
            refine Rg4.w4_nil (fun w' hw' hcl' _ => ?_); subst hw'; clear hcl'
            have HF : Hid (∀ i, i < 0 + 1 → shAt l i = true) := Lib.hid (fun i hi => by
              rcases Nat.lt_succ_iff_lt_or_eq.1 hi with z | z
              · exact HT.out i z
              · rw [z, HSA.out]; (try simp only []); (try simp))
            go_wp2_with fail
            have st' := st.keep [0] (by decide) (by simp)
            go_roundg (n - (0 + 1))
            case measure => omega
            case rel => exact ⟨0 + 1, by omega, by omega, by go_num, HF, by simpa [pick] using st'⟩
          · have h8b : ((n1 : Int) != 8) = true := by simpa using (by omega : (n1 : Int) ≠ 8)
            have h8c : (n1 == 8) = false := by simpa using h8
            have H8 := Lib.hid h8c
            clear h8 h8c
            have HF : Hid (r = false) := Lib.hid (HBD.out (by rw [HSA.out]; simp only [H8.out]; (try simp)))
            refine Rg4.wp_region4_eq #[0, 1, 3, 7, 15, 31, 63, 127, 255, 511, 1023, 2047, 4095, 8191, 16383, 16383, 49151, 131071, 262143, 524287, 16383, 1064959, 4194303, 8388607, 16777215, 33554431] [2, 22] [1, 6, 19, 21] (fun _ => True) [0, 1, 2, 3, 4, 5, 6, 7, 8, 9, 10, 11, 12, 13, 14, 15, 16, 17, 18, 19, 20, 21, 22, 23, 24, 25] (by kernel_rfl) (by kernel_rfl) (by kernel_rfl) (by kernel_rfl) (show Rg4.PB _ by repeat (first | with_reducible exact Rg4.pb_body | with_reducible exact Rg4.pb_bodyD rfl | with_reducible refine Rg4.pb_then ?_ | with_reducible refine Rg4.pb_inBlock ?_ | with_reducible refine Rg4.pb_noGoto ?_)) (trivial) ?_
            replace st := st.drew
            change Rg4.wp4 _ _ _ _ _ _ _ _ _ (World.drew _) _ _
            generalize World.drew _ = w at st ⊢
            (try clear hc); have hc := st.facts; (try simp only [nfl, nft, Nat.reduceAdd] at hc)
            (refine Rg4.w4_any (Rg4.want_none rfl) rfl ?_; apply Exists.intro; refine ⟨fun w' => ?_, ?_⟩; (focus (first | (go_simp; done) | (go_simp; first | rfl | (rw [if_neg] <;> first | rfl | omega) | (rw [if_pos] <;> first | rfl | omega)))); (try simp only [Rg4.nrm]))
            (refine Rg4.w4_read (Rg4.want_none rfl) rfl rfl ?_; apply Exists.intro; refine ⟨fun w' hw' hcl' => ?_, ?_⟩; focus (subst hw'; (focus (first | (go_simp; done) | (go_simp; first | rfl | (rw [if_neg] <;> first | rfl | omega) | (rw [if_pos] <;> first | rfl | omega))))); (try simp only [Rg4.nrm]))
            refine Rg4.w4_bar (Rg4.want_none rfl) rfl (fun w' hw' hcl _ K hK => ?_)
            subst hw'
            go_wp2_with fail
            refine (HCR.out _).mono ?_
            rintro en w ⟨rfl, hx⟩
            replace st := st.ext hx
            clear hx
            (try clear hc); have hc := st.facts; (try simp only [nfl, nft, Nat.reduceAdd] at hc)
            refine hK _ _ ⟨trivial, ?_⟩
            clear hK
            (try simp only [Rg4.nrm])
            iterate 2 (refine Rg4.w4_any (Rg4.want_none rfl) rfl ?_; apply Exists.intro; refine ⟨fun w' => ?_, ?_⟩; (focus (first | (go_simp; done) | (go_simp; first | rfl | (rw [if_neg] <;> first | rfl | omega) | (rw [if_pos] <;> first | rfl | omega)))); (try simp only [Rg4.nrm]))
            (first | (refine Rg4.w4_any (Rg4.wt rfl rfl rfl) rfl ?_; apply Exists.intro; refine ⟨fun w' => ?_, ?_⟩; (focus (first | (go_simp; done) | (go_simp; first | rfl | (rw [if_neg] <;> first | rfl | omega) | (rw [if_pos] <;> first | rfl | omega)))); (try simp only [Rg4.nrm])) | (refine Rg4.w4_skip (Rg4.uw rfl rfl rfl) ?_; (try simp only [Rg4.nrm])) | (refine Rg4.w4_skip (Rg4.un rfl rfl rfl) ?_; (try simp only [Rg4.nrm])))
            (first | (refine Rg4.w4_read (Rg4.wt rfl rfl rfl) rfl rfl ?_; apply Exists.intro; refine ⟨fun w' hw' hcl' => ?_, ?_⟩; focus (subst hw'; (focus (first | (go_simp; done) | (go_simp; first | rfl | (rw [if_neg] <;> first | rfl | omega) | (rw [if_pos] <;> first | rfl | omega))))); (try simp only [Rg4.nrm])) | (refine Rg4.w4_skip (Rg4.uw rfl rfl rfl) ?_; (try simp only [Rg4.nrm])) | (refine Rg4.w4_skip (Rg4.un rfl rfl rfl) ?_; (try simp only [Rg4.nrm])))
            iterate 2 (first | (refine Rg4.w4_any (Rg4.wt rfl rfl rfl) rfl ?_; apply Exists.intro; refine ⟨fun w' => ?_, ?_⟩; (focus (first | (go_simp; done) | (go_simp; first | rfl | (rw [if_neg] <;> first | rfl | omega) | (rw [if_pos] <;> first | rfl | omega)))); (try simp only [Rg4.nrm])) | (refine Rg4.w4_skip (Rg4.uw rfl rfl rfl) ?_; (try simp only [Rg4.nrm])) | (refine Rg4.w4_skip (Rg4.un rfl rfl rfl) ?_; (try simp only [Rg4.nrm])))
            iterate 2 (refine Rg4.w4_any (Rg4.want_none rfl) rfl ?_; apply Exists.intro; refine ⟨fun w' => ?_, ?_⟩; (focus (first | (go_simp; done) | (go_simp; first | rfl | (rw [if_neg] <;> first | rfl | omega) | (rw [if_pos] <;> first | rfl | omega)))); (try simp only [Rg4.nrm]))
            iterate 8 (first | (refine Rg4.w4_any (Rg4.wt rfl rfl rfl) rfl ?_; apply Exists.intro; refine ⟨fun w' => ?_, ?_⟩; (focus (first | (go_simp; done) | (go_simp; first | rfl | (rw [if_neg] <;> first | rfl | omega) | (rw [if_pos] <;> first | rfl | omega)))); (try simp only [Rg4.nrm])) | (refine Rg4.w4_skip (Rg4.uw rfl rfl rfl) ?_; (try simp only [Rg4.nrm])) | (refine Rg4.w4_skip (Rg4.un rfl rfl rfl) ?_; (try simp only [Rg4.nrm])))
            (first | (refine Rg4.w4_read (Rg4.wt rfl rfl rfl) rfl rfl ?_; apply Exists.intro; refine ⟨fun w' hw' hcl' => ?_, ?_⟩; focus (subst hw'; (focus (first | (go_simp; done) | (go_simp; first | rfl | (rw [if_neg] <;> first | rfl | omega) | (rw [if_pos] <;> first | rfl | omega))))); (try simp only [Rg4.nrm])) | (refine Rg4.w4_skip (Rg4.uw rfl rfl rfl) ?_; (try simp only [Rg4.nrm])) | (refine Rg4.w4_skip (Rg4.un rfl rfl rfl) ?_; (try simp only [Rg4.nrm])))
            (first | (refine Rg4.w4_any (Rg4.wt rfl rfl rfl) rfl ?_; apply Exists.intro; refine ⟨fun w' => ?_, ?_⟩; (focus (first | (go_simp; done) | (go_simp; first | rfl | (rw [if_neg] <;> first | rfl | omega) | (rw [if_pos] <;> first | rfl | omega)))); (try simp only [Rg4.nrm])) | (refine Rg4.w4_skip (Rg4.uw rfl rfl rfl) ?_; (try simp only [Rg4.nrm])) | (refine Rg4.w4_skip (Rg4.un rfl rfl rfl) ?_; (try simp only [Rg4.nrm])))
            (first | (refine Rg4.w4_read (Rg4.wt rfl rfl rfl) rfl rfl ?_; apply Exists.intro; refine ⟨fun w' hw' hcl' => ?_, ?_⟩; focus (subst hw'; (focus (first | (go_simp; done) | (go_simp; first | rfl | (rw [if_neg] <;> first | rfl | omega) | (rw [if_pos] <;> first | rfl | omega))))); (try simp only [Rg4.nrm])) | (refine Rg4.w4_skip (Rg4.uw rfl rfl rfl) ?_; (try simp only [Rg4.nrm])) | (refine Rg4.w4_skip (Rg4.un rfl rfl rfl) ?_; (try simp only [Rg4.nrm])))
            first | refine Rg4.w4_skip (Rg4.uw rfl rfl rfl) ?_ | refine Rg4.w4_skip (Rg4.un rfl rfl rfl) ?_
            (try simp only [Rg4.nrm])
            iterate 2 (first | (refine Rg4.w4_any (Rg4.wt rfl rfl rfl) rfl ?_; apply Exists.intro; refine ⟨fun w' => ?_, ?_⟩; (focus (first | (go_simp; done) | (go_simp; first | rfl | (rw [if_neg] <;> first | rfl | omega) | (rw [if_pos] <;> first | rfl | omega)))); (try simp only [Rg4.nrm])) | (refine Rg4.w4_skip (Rg4.uw rfl rfl rfl) ?_; (try simp only [Rg4.nrm])) | (refine Rg4.w4_skip (Rg4.un rfl rfl rfl) ?_; (try simp only [Rg4.nrm])))
            (refine Rg4.w4_any (Rg4.want_none rfl) rfl ?_; apply Exists.intro; refine ⟨fun w' => ?_, ?_⟩; (focus (first | (go_simp; done) | (go_simp; first | rfl | (rw [if_neg] <;> first | rfl | omega) | (rw [if_pos] <;> first | rfl | omega)))); (try simp only [Rg4.nrm]))
            refine Rg4.w4_nil (fun w' hw' hcl' _ => ?_); subst hw'; clear hcl'
            go_wp2_with fail
            go_ret
            exact ⟨by rw [HF.out]; rfl, st.ext0⟩
      | succ j =>
        have HSA : Hid (shAt l (j + 1) = (credR l[j + 1].c && (l[j + 1].n == 8) && decide (credCmp l[j].c l[j + 1].c < 0))) := Lib.hid (shAt_s hjl)
        have hcy := hcell j l[j] (List.getElem?_eq_getElem (by omega))
        have hly := HL.out l[j] (List.getElem_mem (by omega))
        clear hcell
        generalize l[j + 1] = x at *
        generalize l[j]'(by omega) = y at *
        have HCR := Lib.hid (fun W => credRight_any x.c W hlx.2)
        have HCC := Lib.hid (fun W => credCompare_any y.c x.c W hly.2.L hlx.2.L)
        obtain ⟨⟨ck, ⟨ho, hd⟩, cw, ⟨bo, bd⟩, ⟨co, cd⟩, we⟩, a1, n1, m1, xs⟩ := x
        obtain ⟨⟨ck', ⟨ho', hd'⟩, cw', ⟨bo', bd'⟩, ⟨co', cd'⟩, we'⟩, a2, n2, m2, ys⟩ := y
        obtain ⟨r0, r1, r2, r3, r4, r5, r6, r7, r8, r9⟩ := hcx
        replace r0 := st.oldCell (i := 0) get0 r0
        replace r1 := st.oldCell (i := 0) get0 r1
        replace r2 := st.oldCell (i := 0) get0 r2
        replace r3 := st.oldCell (i := 0) get0 r3
        replace r4 := st.oldCell (i := 0) get0 r4
        replace r5 := st.oldCell (i := 0) get0 r5
        replace r6 := st.oldCell (i := 0) get0 r6
        replace r7 := st.oldCell (i := 0) get0 r7
        replace r8 := st.oldCell (i := 0) get0 r8
        replace r9 := st.oldCell (i := 0) get0 r9
        subst ha
        simp only at r0 r1 r2 r3 r4 r5 r6 r7 r8 r9 HSA hcy
        unfold S at r1 r2 r3 r4 r5 r6 r7 r8 hcy
        unfold cV S at HCR HCC
        simp only at HCR HCC
        obtain ⟨cr, hcr⟩ : ∃ q, credR ⟨ck, (ho, hd), cw, (bo, bd), (co, cd), we⟩ = q := ⟨_, rfl⟩
        rw [hcr] at HCR HSA
        obtain ⟨cc, hcc⟩ : ∃ q, credCmp ⟨ck', (ho', hd'), cw', (bo', bd'), (co', cd'), we'⟩ ⟨ck, (ho, hd), cw, (bo, bd), (co, cd), we⟩ = q := ⟨_, rfl⟩
        rw [hcc] at HCC HSA
        have HCY := Lib.hid hcy
        clear hcr hlx hly hjl hcc hcy
        have hwj : IntKind.i64.wrap (j : Int) = (j : Int) := IntWalk.i64_in _ ⟨by omega, by omega⟩
        go_wp2_with ((first
              | ((with_reducible refine wl_alloc ?_ (fun K hK => ?_)); rfl; refine owp_alloc (o := ⟨some 4, _, _, _, _, _⟩) rfl st ?_; apply Exists.intro; apply Exists.intro; refine ⟨?_, ?_⟩; (focus (first | (go_simp; done) | (go_simp; rfl))); (clear st; intro b4 w hb st; clear hb))
              | ((with_reducible refine wl_store ?_ (fun K hK => ?_)); rfl; refine owp_store rfl st ?_; apply Exists.intro; apply Exists.intro; refine ⟨?_, ?_, ?_⟩; (focus (go_simp; try rfl)); (focus (go_simp; try rfl)); (with_reducible refine ⟨1, _, _, _, _, get1, rfl, rfl, ?_, ?_, ?_, ?_⟩); (kernel_rfl); (simp [Value.cells]); (rfl); (clear st; intro w st))); (try simp only [nsl, Value.cells, unB] at st); (try clear hc); have hc := st.facts; (try simp only [nfl, nft, Nat.reduceAdd] at hc))
        clear r0 r1 r2 r3 r4 r5 r6 r7 r8 r9
        cases cr with
        | false =>
          have HF : Hid (r = false) := Lib.hid (HBD.out (by rw [HSA.out]; simp only [Bool.false_and]; (try simp)))
          refine Rg4.wp_region4_eq #[0, 1, 3, 7, 15, 31, 63, 127, 255, 511, 1023, 2047, 4095, 8191, 16383, 16383, 49151, 131071, 262143, 524287, 16383, 1064959, 4194303, 8388607, 16777215, 33554431] [2, 22] [1, 6, 19, 21] (fun _ => True) [0, 1, 2, 3, 4, 5, 6, 7, 8, 9, 10, 11, 12, 13, 14, 15, 16, 17, 18, 19, 20, 21, 22, 23, 24, 25] (by kernel_rfl) (by kernel_rfl) (by kernel_rfl) (by kernel_rfl) (show Rg4.PB _ by repeat (first | with_reducible exact Rg4.pb_body | with_reducible exact Rg4.pb_bodyD rfl | with_reducible refine Rg4.pb_then ?_ | with_reducible refine Rg4.pb_inBlock ?_ | with_reducible refine Rg4.pb_noGoto ?_)) (trivial) ?_
          replace st := st.drew
          change Rg4.wp4 _ _ _ _ _ _ _ _ _ (World.drew _) _ _
          generalize World.drew _ = w at st ⊢
          (try clear hc); have hc := st.facts; (try simp only [nfl, nft, Nat.reduceAdd] at hc)
          (refine Rg4.w4_any (Rg4.want_none rfl) rfl ?_; apply Exists.intro; refine ⟨fun w' => ?_, ?_⟩; (focus (first | (go_simp; done) | (go_simp; first | rfl | (rw [if_neg] <;> first | rfl | omega) | (rw [if_pos] <;> first | rfl | omega)))); (try simp only [Rg4.nrm]))
          (refine Rg4.w4_read (Rg4.want_none rfl) rfl rfl ?_; apply Exists.intro; refine ⟨fun w' hw' hcl' => ?_, ?_⟩; focus (subst hw'; (focus (first | (go_simp; done) | (go_simp; first | rfl | (rw [if_neg] <;> first | rfl | omega) | (rw [if_pos] <;> first | rfl | omega))))); (try simp only [Rg4.nrm]))
          refine Rg4.w4_bar (Rg4.want_none rfl) rfl (fun w' hw' hcl _ K hK => ?_)
          subst hw'
          go_wp2_with fail
          refine (HCR.out _).mono ?_
          rintro en w ⟨rfl, hx⟩
          replace st := st.ext hx
          clear hx
          (try clear hc); have hc := st.facts; (try simp only [nfl, nft, Nat.reduceAdd] at hc)
          refine hK _ _ ⟨trivial, ?_⟩
          clear hK
          (try simp only [Rg4.nrm])
          iterate 2 (refine Rg4.w4_any (Rg4.want_none rfl) rfl ?_; apply Exists.intro; refine ⟨fun w' => ?_, ?_⟩; (focus (first | (go_simp; done) | (go_simp; first | rfl | (rw [if_neg] <;> first | rfl | omega) | (rw [if_pos] <;> first | rfl | omega)))); (try simp only [Rg4.nrm]))
          (first | (refine Rg4.w4_any (Rg4.wt rfl rfl rfl) rfl ?_; apply Exists.intro; refine ⟨fun w' => ?_, ?_⟩; (focus (first | (go_simp; done) | (go_simp; first | rfl | (rw [if_neg] <;> first | rfl | omega) | (rw [if_pos] <;> first | rfl | omega)))); (try simp only [Rg4.nrm])) | (refine Rg4.w4_skip (Rg4.uw rfl rfl rfl) ?_; (try simp only [Rg4.nrm])) | (refine Rg4.w4_skip (Rg4.un rfl rfl rfl) ?_; (try simp only [Rg4.nrm])))
          (first | (refine Rg4.w4_read (Rg4.wt rfl rfl rfl) rfl rfl ?_; apply Exists.intro; refine ⟨fun w' hw' hcl' => ?_, ?_⟩; focus (subst hw'; (focus (first | (go_simp; done) | (go_simp; first | rfl | (rw [if_neg] <;> first | rfl | omega) | (rw [if_pos] <;> first | rfl | omega))))); (try simp only [Rg4.nrm])) | (refine Rg4.w4_skip (Rg4.uw rfl rfl rfl) ?_; (try simp only [Rg4.nrm])) | (refine Rg4.w4_skip (Rg4.un rfl rfl rfl) ?_; (try simp only [Rg4.nrm])))
          iterate 2 (first | (refine Rg4.w4_any (Rg4.wt rfl rfl rfl) rfl ?_; apply Exists.intro; refine ⟨fun w' => ?_, ?_⟩; (focus (first | (go_simp; done) | (go_simp; first | rfl | (rw [if_neg] <;> first | rfl | omega) | (rw [if_pos] <;> first | rfl | omega)))); (try simp only [Rg4.nrm])) | (refine Rg4.w4_skip (Rg4.uw rfl rfl rfl) ?_; (try simp only [Rg4.nrm])) | (refine Rg4.w4_skip (Rg4.un rfl rfl rfl) ?_; (try simp only [Rg4.nrm])))
          iterate 2 (refine Rg4.w4_any (Rg4.want_none rfl) rfl ?_; apply Exists.intro; refine ⟨fun w' => ?_, ?_⟩; (focus (first | (go_simp; done) | (go_simp; first | rfl | (rw [if_neg] <;> first | rfl | omega) | (rw [if_pos] <;> first | rfl | omega)))); (try simp only [Rg4.nrm]))
          iterate 8 (first | (refine Rg4.w4_any (Rg4.wt rfl rfl rfl) rfl ?_; apply Exists.intro; refine ⟨fun w' => ?_, ?_⟩; (focus (first | (go_simp; done) | (go_simp; first | rfl | (rw [if_neg] <;> first | rfl | omega) | (rw [if_pos] <;> first | rfl | omega)))); (try simp only [Rg4.nrm])) | (refine Rg4.w4_skip (Rg4.uw rfl rfl rfl) ?_; (try simp only [Rg4.nrm])) | (refine Rg4.w4_skip (Rg4.un rfl rfl rfl) ?_; (try simp only [Rg4.nrm])))
          (first | (refine Rg4.w4_read (Rg4.wt rfl rfl rfl) rfl rfl ?_; apply Exists.intro; refine ⟨fun w' hw' hcl' => ?_, ?_⟩; focus (subst hw'; (focus (first | (go_simp; done) | (go_simp; first | rfl | (rw [if_neg] <;> first | rfl | omega) | (rw [if_pos] <;> first | rfl | omega))))); (try simp only [Rg4.nrm])) | (refine Rg4.w4_skip (Rg4.uw rfl rfl rfl) ?_; (try simp only [Rg4.nrm])) | (refine Rg4.w4_skip (Rg4.un rfl rfl rfl) ?_; (try simp only [Rg4.nrm])))
          (first | (refine Rg4.w4_any (Rg4.wt rfl rfl rfl) rfl ?_; apply Exists.intro; refine ⟨fun w' => ?_, ?_⟩; (focus (first | (go_simp; done) | (go_simp; first | rfl | (rw [if_neg] <;> first | rfl | omega) | (rw [if_pos] <;> first | rfl | omega)))); (try simp only [Rg4.nrm])) | (refine Rg4.w4_skip (Rg4.uw rfl rfl rfl) ?_; (try simp only [Rg4.nrm])) | (refine Rg4.w4_skip (Rg4.un rfl rfl rfl) ?_; (try simp only [Rg4.nrm])))
          (first | (refine Rg4.w4_read (Rg4.wt rfl rfl rfl) rfl rfl ?_; apply Exists.intro; refine ⟨fun w' hw' hcl' => ?_, ?_⟩; focus (subst hw'; (focus (first | (go_simp; done) | (go_simp; first | rfl | (rw [if_neg] <;> first | rfl | omega) | (rw [if_pos] <;> first | rfl | omega))))); (try simp only [Rg4.nrm])) | (refine Rg4.w4_skip (Rg4.uw rfl rfl rfl) ?_; (try simp only [Rg4.nrm])) | (refine Rg4.w4_skip (Rg4.un rfl rfl rfl) ?_; (try simp only [Rg4.nrm])))
          first | refine Rg4.w4_skip (Rg4.uw rfl rfl rfl) ?_ | refine Rg4.w4_skip (Rg4.un rfl rfl rfl) ?_
          (try simp only [Rg4.nrm])
          iterate 2 (first | (refine Rg4.w4_any (Rg4.wt rfl rfl rfl) rfl ?_; apply Exists.intro; refine ⟨fun w' => ?_, ?_⟩; (focus (first | (go_simp; done) | (go_simp; first | rfl | (rw [if_neg] <;> first | rfl | omega) | (rw [if_pos] <;> first | rfl | omega)))); (try simp only [Rg4.nrm])) | (refine Rg4.w4_skip (Rg4.uw rfl rfl rfl) ?_; (try simp only [Rg4.nrm])) | (refine Rg4.w4_skip (Rg4.un rfl rfl rfl) ?_; (try simp only [Rg4.nrm])))
          (refine Rg4.w4_any (Rg4.want_none rfl) rfl ?_; apply Exists.intro; refine ⟨fun w' => ?_, ?_⟩; (focus (first | (go_simp; done) | (go_simp; first | rfl | (rw [if_neg] <;> first | rfl | omega) | (rw [if_pos] <;> first | rfl | omega)))); (try simp only [Rg4.nrm]))
          refine Rg4.w4_nil (fun w' hw' hcl' _ => ?_); subst hw'; clear hcl'
          go_wp2_with fail
          go_ret
          exact ⟨by rw [HF.out]; rfl, st.ext0⟩
        | true =>
          by_cases h8 : n1 = 8
          · subst h8
            by_cases hlt : cc < 0
            · have HCL := Lib.hid hlt
              have hge : decide (cc ≥ 0) = false := by simpa using hlt
              clear hlt
              refine Rg4.wp_region4_eq #[0, 1, 3, 7, 15, 31, 63, 127, 255, 511, 1023, 2047, 4095, 8191, 16383, 16383, 49151, 131071, 262143, 524287, 16383, 1064959, 4194303, 8388607, 16777215, 33554431] [2, 22] [1, 6, 19, 21] (fun _ => True) [0, 1, 2, 3, 4, 5, 6, 7, 8, 9, 10, 11, 12, 13, 14, 15, 16, 17, 18, 19, 20, 21, 22, 23, 24, 25] (by kernel_rfl) (by kernel_rfl) (by kernel_rfl) (by kernel_rfl) (show Rg4.PB _ by repeat (first | with_reducible exact Rg4.pb_body | with_reducible exact Rg4.pb_bodyD rfl | with_reducible refine Rg4.pb_then ?_ | with_reducible refine Rg4.pb_inBlock ?_ | with_reducible refine Rg4.pb_noGoto ?_)) (trivial) ?_
              replace st := st.drew
              change Rg4.wp4 _ _ _ _ _ _ _ _ _ (World.drew _) _ _
              generalize World.drew _ = w at st ⊢
              (try clear hc); have hc := st.facts; (try simp only [nfl, nft, Nat.reduceAdd] at hc)
              (refine Rg4.w4_any (Rg4.want_none rfl) rfl ?_; apply Exists.intro; refine ⟨fun w' => ?_, ?_⟩; (focus (first | (go_simp; done) | (go_simp; first | rfl | (rw [if_neg] <;> first | rfl | omega) | (rw [if_pos] <;> first | rfl | omega)))); (try simp only [Rg4.nrm]))
              (refine Rg4.w4_read (Rg4.want_none rfl) rfl rfl ?_; apply Exists.intro; refine ⟨fun w' hw' hcl' => ?_, ?_⟩; focus (subst hw'; obtain ⟨p0, p1, p2, p3, p4, p5, p6, p7, p8, p9⟩ := HCY.out; replace p0 := st.oldCell (i := 0) get0 p0; replace p1 := st.oldCell (i := 0) get0 p1; replace p2 := st.oldCell (i := 0) get0 p2; replace p3 := st.oldCell (i := 0) get0 p3; replace p4 := st.oldCell (i := 0) get0 p4; replace p5 := st.oldCell (i := 0) get0 p5; replace p6 := st.oldCell (i := 0) get0 p6; replace p7 := st.oldCell (i := 0) get0 p7; replace p8 := st.oldCell (i := 0) get0 p8; (focus (first | (go_simp; done) | (go_simp; first | rfl | (rw [if_neg] <;> first | rfl | omega) | (rw [if_pos] <;> first | rfl | omega))))); (try simp only [Rg4.nrm]))
              refine Rg4.w4_bar (Rg4.want_none rfl) rfl (fun w' hw' hcl _ K hK => ?_)
              subst hw'
              go_wp2_with fail
              refine (HCR.out _).mono ?_
              rintro en w ⟨rfl, hx⟩
              replace st := st.ext hx
              clear hx
              (try clear hc); have hc := st.facts; (try simp only [nfl, nft, Nat.reduceAdd] at hc)
              refine hK _ _ ⟨trivial, ?_⟩
              clear hK
              (try simp only [Rg4.nrm])
              iterate 2 (refine Rg4.w4_any (Rg4.want_none rfl) rfl ?_; apply Exists.intro; refine ⟨fun w' => ?_, ?_⟩; (focus (first | (go_simp; done) | (go_simp; first | rfl | (rw [if_neg] <;> first | rfl | omega) | (rw [if_pos] <;> first | rfl | omega)))); (try simp only [Rg4.nrm]))
              (first | (refine Rg4.w4_any (Rg4.wt rfl rfl rfl) rfl ?_; apply Exists.intro; refine ⟨fun w' => ?_, ?_⟩; (focus (first | (go_simp; done) | (go_simp; first | rfl | (rw [if_neg] <;> first | rfl | omega) | (rw [if_pos] <;> first | rfl | omega)))); (try simp only [Rg4.nrm])) | (refine Rg4.w4_skip (Rg4.uw rfl rfl rfl) ?_; (try simp only [Rg4.nrm])) | (refine Rg4.w4_skip (Rg4.un rfl rfl rfl) ?_; (try simp only [Rg4.nrm])))
              (first | (refine Rg4.w4_read (Rg4.wt rfl rfl rfl) rfl rfl ?_; apply Exists.intro; refine ⟨fun w' hw' hcl' => ?_, ?_⟩; focus (subst hw'; obtain ⟨p0, p1, p2, p3, p4, p5, p6, p7, p8, p9⟩ := HCY.out; replace p0 := st.oldCell (i := 0) get0 p0; replace p1 := st.oldCell (i := 0) get0 p1; replace p2 := st.oldCell (i := 0) get0 p2; replace p3 := st.oldCell (i := 0) get0 p3; replace p4 := st.oldCell (i := 0) get0 p4; replace p5 := st.oldCell (i := 0) get0 p5; replace p6 := st.oldCell (i := 0) get0 p6; replace p7 := st.oldCell (i := 0) get0 p7; replace p8 := st.oldCell (i := 0) get0 p8; (focus (first | (go_simp; done) | (go_simp; first | rfl | (rw [if_neg] <;> first | rfl | omega) | (rw [if_pos] <;> first | rfl | omega))))); (try simp only [Rg4.nrm])) | (refine Rg4.w4_skip (Rg4.uw rfl rfl rfl) ?_; (try simp only [Rg4.nrm])) | (refine Rg4.w4_skip (Rg4.un rfl rfl rfl) ?_; (try simp only [Rg4.nrm])))
              iterate 2 (first | (refine Rg4.w4_any (Rg4.wt rfl rfl rfl) rfl ?_; apply Exists.intro; refine ⟨fun w' => ?_, ?_⟩; (focus (first | (go_simp; done) | (go_simp; first | rfl | (rw [if_neg] <;> first | rfl | omega) | (rw [if_pos] <;> first | rfl | omega)))); (try simp only [Rg4.nrm])) | (refine Rg4.w4_skip (Rg4.uw rfl rfl rfl) ?_; (try simp only [Rg4.nrm])) | (refine Rg4.w4_skip (Rg4.un rfl rfl rfl) ?_; (try simp only [Rg4.nrm])))
              iterate 2 (refine Rg4.w4_any (Rg4.want_none rfl) rfl ?_; apply Exists.intro; refine ⟨fun w' => ?_, ?_⟩; (focus (first | (go_simp; done) | (go_simp; first | rfl | (rw [if_neg] <;> first | rfl | omega) | (rw [if_pos] <;> first | rfl | omega)))); (try simp only [Rg4.nrm]))
              iterate 8 (first | (refine Rg4.w4_any (Rg4.wt rfl rfl rfl) rfl ?_; apply Exists.intro; refine ⟨fun w' => ?_, ?_⟩; (focus (first | (go_simp; done) | (go_simp; first | rfl | (rw [if_neg] <;> first | rfl | omega) | (rw [if_pos] <;> first | rfl | omega)))); (try simp only [Rg4.nrm])) | (refine Rg4.w4_skip (Rg4.uw rfl rfl rfl) ?_; (try simp only [Rg4.nrm])) | (refine Rg4.w4_skip (Rg4.un rfl rfl rfl) ?_; (try simp only [Rg4.nrm])))
              (first | (refine Rg4.w4_read (Rg4.wt rfl rfl rfl) rfl rfl ?_; apply Exists.intro; refine ⟨fun w' hw' hcl' => ?_, ?_⟩; focus (subst hw'; obtain ⟨p0, p1, p2, p3, p4, p5, p6, p7, p8, p9⟩ := HCY.out; replace p0 := st.oldCell (i := 0) get0 p0; replace p1 := st.oldCell (i := 0) get0 p1; replace p2 := st.oldCell (i := 0) get0 p2; replace p3 := st.oldCell (i := 0) get0 p3; replace p4 := st.oldCell (i := 0) get0 p4; replace p5 := st.oldCell (i := 0) get0 p5; replace p6 := st.oldCell (i := 0) get0 p6; replace p7 := st.oldCell (i := 0) get0 p7; replace p8 := st.oldCell (i := 0) get0 p8; (focus (first | (go_simp; done) | (go_simp; first | rfl | (rw [if_neg] <;> first | rfl | omega) | (rw [if_pos] <;> first | rfl | omega))))); (try simp only [Rg4.nrm])) | (refine Rg4.w4_skip (Rg4.uw rfl rfl rfl) ?_; (try simp only [Rg4.nrm])) | (refine Rg4.w4_skip (Rg4.un rfl rfl rfl) ?_; (try simp only [Rg4.nrm])))
              (first | (refine Rg4.w4_any (Rg4.wt rfl rfl rfl) rfl ?_; apply Exists.intro; refine ⟨fun w' => ?_, ?_⟩; (focus (first | (go_simp; done) | (go_simp; first | rfl | (rw [if_neg] <;> first | rfl | omega) | (rw [if_pos] <;> first | rfl | omega)))); (try simp only [Rg4.nrm])) | (refine Rg4.w4_skip (Rg4.uw rfl rfl rfl) ?_; (try simp only [Rg4.nrm])) | (refine Rg4.w4_skip (Rg4.un rfl rfl rfl) ?_; (try simp only [Rg4.nrm])))
              (first | (refine Rg4.w4_read (Rg4.wt rfl rfl rfl) rfl rfl ?_; apply Exists.intro; refine ⟨fun w' hw' hcl' => ?_, ?_⟩; focus (subst hw'; obtain ⟨p0, p1, p2, p3, p4, p5, p6, p7, p8, p9⟩ := HCY.out; replace p0 := st.oldCell (i := 0) get0 p0; replace p1 := st.oldCell (i := 0) get0 p1; replace p2 := st.oldCell (i := 0) get0 p2; replace p3 := st.oldCell (i := 0) get0 p3; replace p4 := st.oldCell (i := 0) get0 p4; replace p5 := st.oldCell (i := 0) get0 p5; replace p6 := st.oldCell (i := 0) get0 p6; replace p7 := st.oldCell (i := 0) get0 p7; replace p8 := st.oldCell (i := 0) get0 p8; (focus (first | (go_simp; done) | (go_simp; first | rfl | (rw [if_neg] <;> first | rfl | omega) | (rw [if_pos] <;> first | rfl | omega))))); (try simp only [Rg4.nrm])) | (refine Rg4.w4_skip (Rg4.uw rfl rfl rfl) ?_; (try simp only [Rg4.nrm])) | (refine Rg4.w4_skip (Rg4.un rfl rfl rfl) ?_; (try simp only [Rg4.nrm])))
              refine Rg4.w4_bar (Rg4.want_of 13 25 true rfl rfl rfl) rfl (fun w' hw' hcl _ K hK => ?_)
              subst hw'
              go_wp2_with fail
              refine (HCC.out _).mono ?_
              rintro en w ⟨rfl, hx⟩
              replace st := st.ext hx
              clear hx
              (try clear hc); have hc := st.facts; (try simp only [nfl, nft, Nat.reduceAdd] at hc)
              refine hK _ _ ⟨trivial, ?_⟩
              clear hK
              (try simp only [Rg4.nrm])
              iterate 2 (first | (refine Rg4.w4_any (Rg4.wt rfl rfl rfl) rfl ?_; apply Exists.intro; refine ⟨fun w' => ?_, ?_⟩; (focus (first | (go_simp; done) | (go_simp; first | rfl | (rw [if_neg] <;> first | rfl | omega) | (rw [if_pos] <;> first | rfl | omega)))); (try simp only [Rg4.nrm])) | (refine Rg4.w4_skip (Rg4.uw rfl rfl rfl) ?_; (try simp only [Rg4.nrm])) | (refine Rg4.w4_skip (Rg4.un rfl rfl rfl) ?_; (try simp only [Rg4.nrm])))
              (refine Rg4.w4_any (Rg4.want_none rfl) rfl ?_; apply Exists.intro; refine ⟨fun w' => ?_, ?_⟩; (focus (first | (go_simp; done) | (go_simp; first | rfl | (rw [if_neg] <;> first | rfl | omega) | (rw [if_pos] <;> first | rfl | omega)))); (try simp only [Rg4.nrm]))
              refine Rg4.w4_nil (fun w' hw' hcl' _ => ?_); subst hw'; clear hcl'
              have HF : Hid (∀ i, i < (j + 1) + 1 → shAt l i = true) := Lib.hid (fun i hi => by
                rcases Nat.lt_succ_iff_lt_or_eq.1 hi with z | z
                · exact HT.out i z
                · rw [z, HSA.out]; (try simp only [HCL.out]); (try simp))
              go_wp2_with fail
              have st' := st.keep [0] (by decide) (by simp)
              go_roundg (n - ((j + 1) + 1))
              case measure => omega
              case rel => exact ⟨(j + 1) + 1, by omega, by omega, by go_num, HF, by simpa [pick] using st'⟩
            · have HCL := Lib.hid hlt
              have hge : decide (cc ≥ 0) = true := by simp; omega
              clear hlt
              have HF : Hid (r = false) := Lib.hid (HBD.out (by rw [HSA.out]; simp only [HCL.out]; (try simp)))
              refine Rg4.wp_region4_eq #[0, 1, 3, 7, 15, 31, 63, 127, 255, 511, 1023, 2047, 4095, 8191, 16383, 16383, 49151, 131071, 262143, 524287, 16383, 1064959, 4194303, 8388607, 16777215, 33554431] [2, 22] [1, 6, 19, 21] (fun _ => True) [0, 1, 2, 3, 4, 5, 6, 7, 8, 9, 10, 11, 12, 13, 14, 15, 16, 17, 18, 19, 20, 21, 22, 23, 24, 25] (by kernel_rfl) (by kernel_rfl) (by kernel_rfl) (by kernel_rfl) (show Rg4.PB _ by repeat (first | with_reducible exact Rg4.pb_body | with_reducible exact Rg4.pb_bodyD rfl | with_reducible refine Rg4.pb_then ?_ | with_reducible refine Rg4.pb_inBlock ?_ | with_reducible refine Rg4.pb_noGoto ?_)) (trivial) ?_
              replace st := st.drew
              change Rg4.wp4 _ _ _ _ _ _ _ _ _ (World.drew _) _ _
              generalize World.drew _ = w at st ⊢
              (try clear hc); have hc := st.facts; (try simp only [nfl, nft, Nat.reduceAdd] at hc)
              (refine Rg4.w4_any (Rg4.want_none rfl) rfl ?_; apply Exists.intro; refine ⟨fun w' => ?_, ?_⟩; (focus (first | (go_simp; done) | (go_simp; first | rfl | (rw [if_neg] <;> first | rfl | omega) | (rw [if_pos] <;> first | rfl | omega)))); (try simp only [Rg4.nrm]))
              (refine Rg4.w4_read (Rg4.want_none rfl) rfl rfl ?_; apply Exists.intro; refine ⟨fun w' hw' hcl' => ?_, ?_⟩; focus (subst hw'; obtain ⟨p0, p1, p2, p3, p4, p5, p6, p7, p8, p9⟩ := HCY.out; replace p0 := st.oldCell (i := 0) get0 p0; replace p1 := st.oldCell (i := 0) get0 p1; replace p2 := st.oldCell (i := 0) get0 p2; replace p3 := st.oldCell (i := 0) get0 p3; replace p4 := st.oldCell (i := 0) get0 p4; replace p5 := st.oldCell (i := 0) get0 p5; replace p6 := st.oldCell (i := 0) get0 p6; replace p7 := st.oldCell (i := 0) get0 p7; replace p8 := st.oldCell (i := 0) get0 p8; (focus (first | (go_simp; done) | (go_simp; first | rfl | (rw [if_neg] <;> first | rfl | omega) | (rw [if_pos] <;> first | rfl | omega))))); (try simp only [Rg4.nrm]))
              refine Rg4.w4_bar (Rg4.want_none rfl) rfl (fun w' hw' hcl _ K hK => ?_)
              subst hw'
              go_wp2_with fail
              refine (HCR.out _).mono ?_
              rintro en w ⟨rfl, hx⟩
              replace st := st.ext hx
              clear hx
              (try clear hc); have hc := st.facts; (try simp only [nfl, nft, Nat.reduceAdd] at hc)
              refine hK _ _ ⟨trivial, ?_⟩
              clear hK
              (try simp only [Rg4.nrm])
              iterate 2 (refine Rg4.w4_any (Rg4.want_none rfl) rfl ?_; apply Exists.intro; refine ⟨fun w' => ?_, ?_⟩; (focus (first | (go_simp; done) | (go_simp; first | rfl | (rw [if_neg] <;> first | rfl | omega) | (rw [if_pos] <;> first | rfl | omega)))); (try simp only [Rg4.nrm]))
              (first | (refine Rg4.w4_any (Rg4.wt rfl rfl rfl) rfl ?_; apply Exists.intro; refine ⟨fun w' => ?_, ?_⟩; (focus (first | (go_simp; done) | (go_simp; first | rfl | (rw [if_neg] <;> first | rfl | omega) | (rw [if_pos] <;> first | rfl | omega)))); (try simp only [Rg4.nrm])) | (refine Rg4.w4_skip (Rg4.uw rfl rfl rfl) ?_; (try simp only [Rg4.nrm])) | (refine Rg4.w4_skip (Rg4.un rfl rfl rfl) ?_; (try simp only [Rg4.nrm])))
              (first | (refine Rg4.w4_read (Rg4.wt rfl rfl rfl) rfl rfl ?_; apply Exists.intro; refine ⟨fun w' hw' hcl' => ?_, ?_⟩; focus (subst hw'; obtain ⟨p0, p1, p2, p3, p4, p5, p6, p7, p8, p9⟩ := HCY.out; replace p0 := st.oldCell (i := 0) get0 p0; replace p1 := st.oldCell (i := 0) get0 p1; replace p2 := st.oldCell (i := 0) get0 p2; replace p3 := st.oldCell (i := 0) get0 p3; replace p4 := st.oldCell (i := 0) get0 p4; replace p5 := st.oldCell (i := 0) get0 p5; replace p6 := st.oldCell (i := 0) get0 p6; replace p7 := st.oldCell (i := 0) get0 p7; replace p8 := st.oldCell (i := 0) get0 p8; (focus (first | (go_simp; done) | (go_simp; first | rfl | (rw [if_neg] <;> first | rfl | omega) | (rw [if_pos] <;> first | rfl | omega))))); (try simp only [Rg4.nrm])) | (refine Rg4.w4_skip (Rg4.uw rfl rfl rfl) ?_; (try simp only [Rg4.nrm])) | (refine Rg4.w4_skip (Rg4.un rfl rfl rfl) ?_; (try simp only [Rg4.nrm])))
              iterate 2 (first | (refine Rg4.w4_any (Rg4.wt rfl rfl rfl) rfl ?_; apply Exists.intro; refine ⟨fun w' => ?_, ?_⟩; (focus (first | (go_simp; done) | (go_simp; first | rfl | (rw [if_neg] <;> first | rfl | omega) | (rw [if_pos] <;> first | rfl | omega)))); (try simp only [Rg4.nrm])) | (refine Rg4.w4_skip (Rg4.uw rfl rfl rfl) ?_; (try simp only [Rg4.nrm])) | (refine Rg4.w4_skip (Rg4.un rfl rfl rfl) ?_; (try simp only [Rg4.nrm])))
              iterate 2 (refine Rg4.w4_any (Rg4.want_none rfl) rfl ?_; apply Exists.intro; refine ⟨fun w' => ?_, ?_⟩; (focus (first | (go_simp; done) | (go_simp; first | rfl | (rw [if_neg] <;> first | rfl | omega) | (rw [if_pos] <;> first | rfl | omega)))); (try simp only [Rg4.nrm]))
              iterate 8 (first | (refine Rg4.w4_any (Rg4.wt rfl rfl rfl) rfl ?_; apply Exists.intro; refine ⟨fun w' => ?_, ?_⟩; (focus (first | (go_simp; done) | (go_simp; first | rfl | (rw [if_neg] <;> first | rfl | omega) | (rw [if_pos] <;> first | rfl | omega)))); (try simp only [Rg4.nrm])) | (refine Rg4.w4_skip (Rg4.uw rfl rfl rfl) ?_; (try simp only [Rg4.nrm])) | (refine Rg4.w4_skip (Rg4.un rfl rfl rfl) ?_; (try simp only [Rg4.nrm])))
              (first | (refine Rg4.w4_read (Rg4.wt rfl rfl rfl) rfl rfl ?_; apply Exists.intro; refine ⟨fun w' hw' hcl' => ?_, ?_⟩; focus (subst hw'; obtain ⟨p0, p1, p2, p3, p4, p5, p6, p7, p8, p9⟩ := HCY.out; replace p0 := st.oldCell (i := 0) get0 p0; replace p1 := st.oldCell (i := 0) get0 p1; replace p2 := st.oldCell (i := 0) get0 p2; replace p3 := st.oldCell (i := 0) get0 p3; replace p4 := st.oldCell (i := 0) get0 p4; replace p5 := st.oldCell (i := 0) get0 p5; replace p6 := st.oldCell (i := 0) get0 p6; replace p7 := st.oldCell (i := 0) get0 p7; replace p8 := st.oldCell (i := 0) get0 p8; (focus (first | (go_simp; done) | (go_simp; first | rfl | (rw [if_neg] <;> first | rfl | omega) | (rw [if_pos] <;> first | rfl | omega))))); (try simp only [Rg4.nrm])) | (refine Rg4.w4_skip (Rg4.uw rfl rfl rfl) ?_; (try simp only [Rg4.nrm])) | (refine Rg4.w4_skip (Rg4.un rfl rfl rfl) ?_; (try simp only [Rg4.nrm])))
              (first | (refine Rg4.w4_any (Rg4.wt rfl rfl rfl) rfl ?_; apply Exists.intro; refine ⟨fun w' => ?_, ?_⟩; (focus (first | (go_simp; done) | (go_simp; first | rfl | (rw [if_neg] <;> first | rfl | omega) | (rw [if_pos] <;> first | rfl | omega)))); (try simp only [Rg4.nrm])) | (refine Rg4.w4_skip (Rg4.uw rfl rfl rfl) ?_; (try simp only [Rg4.nrm])) | (refine Rg4.w4_skip (Rg4.un rfl rfl rfl) ?_; (try simp only [Rg4.nrm])))
              (first | (refine Rg4.w4_read (Rg4.wt rfl rfl rfl) rfl rfl ?_; apply Exists.intro; refine ⟨fun w' hw' hcl' => ?_, ?_⟩; focus (subst hw'; obtain ⟨p0, p1, p2, p3, p4, p5, p6, p7, p8, p9⟩ := HCY.out; replace p0 := st.oldCell (i := 0) get0 p0; replace p1 := st.oldCell (i := 0) get0 p1; replace p2 := st.oldCell (i := 0) get0 p2; replace p3 := st.oldCell (i := 0) get0 p3; replace p4 := st.oldCell (i := 0) get0 p4; replace p5 := st.oldCell (i := 0) get0 p5; replace p6 := st.oldCell (i := 0) get0 p6; replace p7 := st.oldCell (i := 0) get0 p7; replace p8 := st.oldCell (i := 0) get0 p8; (focus (first | (go_simp; done) | (go_simp; first | rfl | (rw [if_neg] <;> first | rfl | omega) | (rw [if_pos] <;> first | rfl | omega))))); (try simp only [Rg4.nrm])) | (refine Rg4.w4_skip (Rg4.uw rfl rfl rfl) ?_; (try simp only [Rg4.nrm])) | (refine Rg4.w4_skip (Rg4.un rfl rfl rfl) ?_; (try simp only [Rg4.nrm])))
              refine Rg4.w4_bar (Rg4.want_of 13 25 true rfl rfl rfl) rfl (fun w' hw' hcl _ K hK => ?_)
              subst hw'
              go_wp2_with fail
              refine (HCC.out _).mono ?_
              rintro en w ⟨rfl, hx⟩
              replace st := st.ext hx
              clear hx
              (try clear hc); have hc := st.facts; (try simp only [nfl, nft, Nat.reduceAdd] at hc)
              refine hK _ _ ⟨trivial, ?_⟩
              clear hK
              (try simp only [Rg4.nrm])
              iterate 2 (first | (refine Rg4.w4_any (Rg4.wt rfl rfl rfl) rfl ?_; apply Exists.intro; refine ⟨fun w' => ?_, ?_⟩; (focus (first | (go_simp; done) | (go_simp; first | rfl | (rw [if_neg] <;> first | rfl | omega) | (rw [if_pos] <;> first | rfl | omega)))); (try simp only [Rg4.nrm])) | (refine Rg4.w4_skip (Rg4.uw rfl rfl rfl) ?_; (try simp only [Rg4.nrm])) | (refine Rg4.w4_skip (Rg4.un rfl rfl rfl) ?_; (try simp only [Rg4.nrm])))
              (refine Rg4.w4_any (Rg4.want_none rfl) rfl ?_; apply Exists.intro; refine ⟨fun w' => ?_, ?_⟩; (focus (first | (go_simp; done) | (go_simp; first | rfl | (rw [if_neg] <;> first | rfl | omega) | (rw [if_pos] <;> first | rfl | omega)))); (try simp only [Rg4.nrm]))
              refine Rg4.w4_nil (fun w' hw' hcl' _ => ?_); subst hw'; clear hcl'
              go_wp2_with fail
              go_ret
              exact ⟨by rw [HF.out]; rfl, st.ext0⟩
          · have h8b : ((n1 : Int) != 8) = true := by simpa using (by omega : (n1 : Int) ≠ 8)
            have h8c : (n1 == 8) = false := by simpa using h8
            have H8 := Lib.hid h8c
            clear h8 h8c
            have HF : Hid (r = false) := Lib.hid (HBD.out (by rw [HSA.out]; simp only [H8.out]; (try simp)))
            refine Rg4.wp_region4_eq #[0, 1, 3, 7, 15, 31, 63, 127, 255, 511, 1023, 2047, 4095, 8191, 16383, 16383, 49151, 131071, 262143, 524287, 16383, 1064959, 4194303, 8388607, 16777215, 33554431] [2, 22] [1, 6, 19, 21] (fun _ => True) [0, 1, 2, 3, 4, 5, 6, 7, 8, 9, 10, 11, 12, 13, 14, 15, 16, 17, 18, 19, 20, 21, 22, 23, 24, 25] (by kernel_rfl) (by kernel_rfl) (by kernel_rfl) (by kernel_rfl) (show Rg4.PB _ by repeat (first | with_reducible exact Rg4.pb_body | with_reducible exact Rg4.pb_bodyD rfl | with_reducible refine Rg4.pb_then ?_ | with_reducible refine Rg4.pb_inBlock ?_ | with_reducible refine Rg4.pb_noGoto ?_)) (trivial) ?_
            replace st := st.drew
            change Rg4.wp4 _ _ _ _ _ _ _ _ _ (World.drew _) _ _
            generalize World.drew _ = w at st ⊢
            (try clear hc); have hc := st.facts; (try simp only [nfl, nft, Nat.reduceAdd] at hc)
            (refine Rg4.w4_any (Rg4.want_none rfl) rfl ?_; apply Exists.intro; refine ⟨fun w' => ?_, ?_⟩; (focus (first | (go_simp; done) | (go_simp; first | rfl | (rw [if_neg] <;> first | rfl | omega) | (rw [if_pos] <;> first | rfl | omega)))); (try simp only [Rg4.nrm]))
            (refine Rg4.w4_read (Rg4.want_none rfl) rfl rfl ?_; apply Exists.intro; refine ⟨fun w' hw' hcl' => ?_, ?_⟩; focus (subst hw'; (focus (first | (go_simp; done) | (go_simp; first | rfl | (rw [if_neg] <;> first | rfl | omega) | (rw [if_pos] <;> first | rfl | omega))))); (try simp only [Rg4.nrm]))
            refine Rg4.w4_bar (Rg4.want_none rfl) rfl (fun w' hw' hcl _ K hK => ?_)
            subst hw'
            go_wp2_with fail
            refine (HCR.out _).mono ?_
            rintro en w ⟨rfl, hx⟩
            replace st := st.ext hx
            clear hx
            (try clear hc); have hc := st.facts; (try simp only [nfl, nft, Nat.reduceAdd] at hc)
            refine hK _ _ ⟨trivial, ?_⟩
            clear hK
            (try simp only [Rg4.nrm])
            iterate 2 (refine Rg4.w4_any (Rg4.want_none rfl) rfl ?_; apply Exists.intro; refine ⟨fun w' => ?_, ?_⟩; (focus (first | (go_simp; done) | (go_simp; first | rfl | (rw [if_neg] <;> first | rfl | omega) | (rw [if_pos] <;> first | rfl | omega)))); (try simp only [Rg4.nrm]))
            (first | (refine Rg4.w4_any (Rg4.wt rfl rfl rfl) rfl ?_; apply Exists.intro; refine ⟨fun w' => ?_, ?_⟩; (focus (first | (go_simp; done) | (go_simp; first | rfl | (rw [if_neg] <;> first | rfl | omega) | (rw [if_pos] <;> first | rfl | omega)))); (try simp only [Rg4.nrm])) | (refine Rg4.w4_skip (Rg4.uw rfl rfl rfl) ?_; (try simp only [Rg4.nrm])) | (refine Rg4.w4_skip (Rg4.un rfl rfl rfl) ?_; (try simp only [Rg4.nrm])))
            (first | (refine Rg4.w4_read (Rg4.wt rfl rfl rfl) rfl rfl ?_; apply Exists.intro; refine ⟨fun w' hw' hcl' => ?_, ?_⟩; focus (subst hw'; (focus (first | (go_simp; done) | (go_simp; first | rfl | (rw [if_neg] <;> first | rfl | omega) | (rw [if_pos] <;> first | rfl | omega))))); (try simp only [Rg4.nrm])) | (refine Rg4.w4_skip (Rg4.uw rfl rfl rfl) ?_; (try simp only [Rg4.nrm])) | (refine Rg4.w4_skip (Rg4.un rfl rfl rfl) ?_; (try simp only [Rg4.nrm])))
            iterate 2 (first | (refine Rg4.w4_any (Rg4.wt rfl rfl rfl) rfl ?_; apply Exists.intro; refine ⟨fun w' => ?_, ?_⟩; (focus (first | (go_simp; done) | (go_simp; first | rfl | (rw [if_neg] <;> first | rfl | omega) | (rw [if_pos] <;> first | rfl | omega)))); (try simp only [Rg4.nrm])) | (refine Rg4.w4_skip (Rg4.uw rfl rfl rfl) ?_; (try simp only [Rg4.nrm])) | (refine Rg4.w4_skip (Rg4.un rfl rfl rfl) ?_; (try simp only [Rg4.nrm])))
            iterate 2 (refine Rg4.w4_any (Rg4.want_none rfl) rfl ?_; apply Exists.intro; refine ⟨fun w' => ?_, ?_⟩; (focus (first | (go_simp; done) | (go_simp; first | rfl | (rw [if_neg] <;> first | rfl | omega) | (rw [if_pos] <;> first | rfl | omega)))); (try simp only [Rg4.nrm]))
            iterate 8 (first | (refine Rg4.w4_any (Rg4.wt rfl rfl rfl) rfl ?_; apply Exists.intro; refine ⟨fun w' => ?_, ?_⟩; (focus (first | (go_simp; done) | (go_simp; first | rfl | (rw [if_neg] <;> first | rfl | omega) | (rw [if_pos] <;> first | rfl | omega)))); (try simp only [Rg4.nrm])) | (refine Rg4.w4_skip (Rg4.uw rfl rfl rfl) ?_; (try simp only [Rg4.nrm])) | (refine Rg4.w4_skip (Rg4.un rfl rfl rfl) ?_; (try simp only [Rg4.nrm])))
            (first | (refine Rg4.w4_read (Rg4.wt rfl rfl rfl) rfl rfl ?_; apply Exists.intro; refine ⟨fun w' hw' hcl' => ?_, ?_⟩; focus (subst hw'; (focus (first | (go_simp; done) | (go_simp; first | rfl | (rw [if_neg] <;> first | rfl | omega) | (rw [if_pos] <;> first | rfl | omega))))); (try simp only [Rg4.nrm])) | (refine Rg4.w4_skip (Rg4.uw rfl rfl rfl) ?_; (try simp only [Rg4.nrm])) | (refine Rg4.w4_skip (Rg4.un rfl rfl rfl) ?_; (try simp only [Rg4.nrm])))
            (first | (refine Rg4.w4_any (Rg4.wt rfl rfl rfl) rfl ?_; apply Exists.intro; refine ⟨fun w' => ?_, ?_⟩; (focus (first | (go_simp; done) | (go_simp; first | rfl | (rw [if_neg] <;> first | rfl | omega) | (rw [if_pos] <;> first | rfl | omega)))); (try simp only [Rg4.nrm])) | (refine Rg4.w4_skip (Rg4.uw rfl rfl rfl) ?_; (try simp only [Rg4.nrm])) | (refine Rg4.w4_skip (Rg4.un rfl rfl rfl) ?_; (try simp only [Rg4.nrm])))
            (first | (refine Rg4.w4_read (Rg4.wt rfl rfl rfl) rfl rfl ?_; apply Exists.intro; refine ⟨fun w' hw' hcl' => ?_, ?_⟩; focus (subst hw'; (focus (first | (go_simp; done) | (go_simp; first | rfl | (rw [if_neg] <;> first | rfl | omega) | (rw [if_pos] <;> first | rfl | omega))))); (try simp only [Rg4.nrm])) | (refine Rg4.w4_skip (Rg4.uw rfl rfl rfl) ?_; (try simp only [Rg4.nrm])) | (refine Rg4.w4_skip (Rg4.un rfl rfl rfl) ?_; (try simp only [Rg4.nrm])))
            first | refine Rg4.w4_skip (Rg4.uw rfl rfl rfl) ?_ | refine Rg4.w4_skip (Rg4.un rfl rfl rfl) ?_
            (try simp only [Rg4.nrm])
            iterate 2 (first | (refine Rg4.w4_any (Rg4.wt rfl rfl rfl) rfl ?_; apply Exists.intro; refine ⟨fun w' => ?_, ?_⟩; (focus (first | (go_simp; done) | (go_simp; first | rfl | (rw [if_neg] <;> first | rfl | omega) | (rw [if_pos] <;> first | rfl | omega)))); (try simp only [Rg4.nrm])) | (refine Rg4.w4_skip (Rg4.uw rfl rfl rfl) ?_; (try simp only [Rg4.nrm])) | (refine Rg4.w4_skip (Rg4.un rfl rfl rfl) ?_; (try simp only [Rg4.nrm])))
            (refine Rg4.w4_any (Rg4.want_none rfl) rfl ?_; apply Exists.intro; refine ⟨fun w' => ?_, ?_⟩; (focus (first | (go_simp; done) | (go_simp; first | rfl | (rw [if_neg] <;> first | rfl | omega) | (rw [if_pos] <;> first | rfl | omega)))); (try simp only [Rg4.nrm]))
            refine Rg4.w4_nil (fun w' hw' hcl' _ => ?_); subst hw'; clear hcl'
            go_wp2_with fail
            go_ret
            exact ⟨by rw [HF.out]; rfl, st.ext0⟩
    · obtain rfl : j = n := by omega
      have HF : Hid (r = decide (l.length ≤ 8)) := Lib.hid (by rw [← HR.out]; exact showsR_all fun i hi => HT.out i (by have := HNL.out; omega))
      by_cases h8 : j ≤ 8
      · have HG : Hid (r = true) := Lib.hid (by rw [HF.out]; exact decide_eq_true (by have := HNL.out; omega))
        go_wp2_with fail
        go_ret
        exact ⟨by rw [HG.out]; show Ending.returned (Value.bool (decide ((j : Int) ≤ 8))) = _; rw [decide_eq_true (by omega)], st.ext0⟩
      · have HG : Hid (r = false) := Lib.hid (by rw [HF.out]; exact decide_eq_false (by have := HNL.out; omega))
        go_wp2_with fail
        go_ret
        exact ⟨by rw [HG.out]; show Ending.returned (Value.bool (decide ((j : Int) ≤ 8))) = _; rw [decide_eq_false (by omega)], st.ext0⟩
end Go.Proofs.Ytekngjkjgmplpaa

namespace Go.Proofs.Ytekngjkjgmplpaa
set_option linter.unusedSimpArgs false
set_option linter.unusedVariables false
open Go Go.RowKit
def kindR (x : MsgT) : Bool :=
  if x.k = 1 then nameR x.nm && (decide (x.p = 1) || decide (x.p = 2))
  else if x.k = 2 then wantsR x.ws && showsR x.ss
  else if x.k = 5 then decide (1 ≤ x.e) && decide (x.e ≤ 99)
  else decide (x.k = 3) || decide (x.k = 4)
/-- Which messages are right. -/
def mgR (x : MsgT) : Bool := sameMg (bareMg x) x && kindR x
set_option maxRecDepth 100000 in
set_option maxHeartbeats 8000000 in
theorem msgRight_any (x : MsgT) (W : World) (hx : MgOk W x) (lx : MgL x) : Calls Try.prog 73 #[mgV x] W fun e w' => e = .returned (.bool (mgR x)) ∧ Ext W w' := by
  have HX := Lib.hid hx
  have HB := Lib.hid (fun W' => bare_any x W')
  have HS := Lib.hid (fun W' (hw : Ext W W') => msgSame_any (bareMg x) x W' (bareMg_ok (hx.ext hw)) (hx.ext hw) (bareMg_L lx) lx)
  have HN := Lib.hid (fun W' => right_any x.nm W' lx.2.2.1)
  have HW := Lib.hid (fun W' h => wants_any x.wa x.wn x.wc x.ws W' h lx.1 lx.2.2.2.1)
  have HH := Lib.hid (fun W' h => shows_any x.sa x.sn x.sc x.ss W' h lx.2.1 lx.2.2.2.2)
  obtain ⟨r, hr⟩ : ∃ r, mgR x = r := ⟨_, rfl⟩
  obtain ⟨bv, hbv⟩ : ∃ b, mgV (bareMg x) = b := ⟨_, rfl⟩
  obtain ⟨sm, hsm⟩ : ∃ b, sameMg (bareMg x) x = b := ⟨_, rfl⟩
  obtain ⟨nr, hnr⟩ : ∃ b, nameR x.nm = b := ⟨_, rfl⟩
  obtain ⟨wr, hwr⟩ : ∃ b, wantsR x.ws = b := ⟨_, rfl⟩
  obtain ⟨sr, hsr⟩ : ∃ b, showsR x.ss = b := ⟨_, rfl⟩
  have HR : Hid (r = (sm && (if x.k = 1 then nr && (decide (x.p = 1) || decide (x.p = 2)) else if x.k = 2 then wr && sr else if x.k = 5 then decide (1 ≤ x.e) && decide (x.e ≤ 99) else decide (x.k = 3) || decide (x.k = 4)))) := Lib.hid (by rw [← hr, ← hsm, ← hnr, ← hwr, ← hsr]; rfl)
  rw [hbv] at HB HS
  rw [hsm] at HS
  rw [hnr] at HN
  rw [hwr] at HW
  rw [hsr] at HH
  rw [hr]
  clear hr hbv hsm hnr hwr hsr lx hx
  obtain ⟨k, p, e, nm, wa, wn, wc, ws, sa, sn, sc, ss⟩ := x
  simp only at HR HN HW HH HX
  have st := Own.startOld W
  unfold mgV S at HS
  unfold S at HN
  unfold mgV S
  (try simp only [nsl, Value.cells, unB] at st)
  (try clear hc); have hc := st.facts; (try simp only [nfl, nft, Nat.reduceAdd] at hc)
  cases sm with
  | false =>
    have H1 : Hid (r = false) := Lib.hid (by rw [HR.out]; rfl)
    go_enter Try.func73, Try.ntmps73
    go_wp2_with ((((with_reducible refine wl_box ?_ (fun K hK => ?_)); rfl; refine owp_box (o := ⟨some 1, _, _, _, _, _⟩) rfl st ?_; apply Exists.intro; refine ⟨?_, ?_⟩; (focus (go_simp; try rfl)); (clear st; intro b1 w hb st; clear hb))); (try simp only [nsl, Value.cells, unB] at st); (try clear hc); have hc := st.facts; (try simp only [nfl, nft, Nat.reduceAdd] at hc))
    refine Rg4.wp_region4 (Rel := Ext) #[0, 1, 0, 7, 15]
      [(1, .val (bv))] [3] [0, 2] (fun _ => True) [0, 1, 2, 3, 4] (by kernel_rfl) (by kernel_rfl) (by kernel_rfl) (by kernel_rfl) Ext.refl (fun _ _ _ => Ext.trans) (show Rg4.PB _ by repeat (first | with_reducible exact Rg4.pb_body | with_reducible exact Rg4.pb_bodyD rfl | with_reducible refine Rg4.pb_then ?_ | with_reducible refine Rg4.pb_inBlock ?_ | with_reducible refine Rg4.pb_noGoto ?_)) (trivial) ?_
    replace st := st.drew
    change Rg4.wp4 _ _ _ _ _ _ _ _ _ (World.drew _) _ _
    generalize World.drew _ = w at st ⊢
    (try clear hc); have hc := st.facts; (try simp only [nfl, nft, Nat.reduceAdd] at hc)
    (refine Rg4.w4_read (Rg4.want_none rfl) rfl rfl ?_; apply Exists.intro; refine ⟨fun w' hw' hcl' => ?_, ?_⟩; focus (have st' := st.ext hw'; have hc' := st'.facts; (try simp only [nfl, nft, Nat.reduceAdd] at hc'); (focus (first | (go_simp; done) | (go_simp; first | rfl | (rw [if_neg] <;> first | rfl | omega) | (rw [if_pos] <;> first | rfl | omega))))); (try simp only [Rg4.nrm]))
    refine Rg4.w4_some (Rg4.want_none rfl) rfl (fun w' hw' hcl' _ => ?_) ?_
    · refine Rg.relAt_call (by go_simp; exact ⟨rfl, rfl⟩) ?_
      refine (HB.out _).mono ?_
      rintro en w'' ⟨rfl, hx⟩
      exact ⟨_, rfl, hx, trivial, rfl⟩
    rintro v ⟨_, _, _, rfl⟩
    (try simp only [Rg4.nrm])
    (refine Rg4.w4_read (Rg4.want_none rfl) rfl rfl ?_; apply Exists.intro; refine ⟨fun w' hw' hcl' => ?_, ?_⟩; focus (have st' := st.ext hw'; have hc' := st'.facts; (try simp only [nfl, nft, Nat.reduceAdd] at hc'); (focus (first | (go_simp; done) | (go_simp; first | rfl | (rw [if_neg] <;> first | rfl | omega) | (rw [if_pos] <;> first | rfl | omega))))); (try simp only [Rg4.nrm]))
    refine Rg4.w4_bar (Rg4.want_none rfl) rfl (fun w' hw' hcl _ K hK => ?_)
    replace st := st.ext hw'
    clear hw'
    (try clear hc); have hc := st.facts; (try simp only [nfl, nft, Nat.reduceAdd] at hc)
    go_wp2_with fail
    refine (HS.out _ st.ext0).mono ?_
    rintro en w ⟨rfl, hx⟩
    replace st := st.ext hx
    clear hx
    (try clear hc); have hc := st.facts; (try simp only [nfl, nft, Nat.reduceAdd] at hc)
    refine hK _ _ ⟨trivial, ?_⟩
    clear hK
    (try simp only [Rg4.nrm])
    (refine Rg4.w4_any (Rg4.want_none rfl) rfl ?_; apply Exists.intro; refine ⟨fun w' => ?_, ?_⟩; (focus (first | (go_simp; done) | (go_simp; first | rfl | (rw [if_neg] <;> first | rfl | omega) | (rw [if_pos] <;> first | rfl | omega)))); (try simp only [Rg4.nrm]))
    refine Rg4.w4_nil (fun w' hw' hcl' _ => ?_); replace st := st.ext hw'; clear hw' hcl'; (try clear hc); have hc := st.facts; (try simp only [nfl, nft, Nat.reduceAdd] at hc)
    go_wp2_with fail
    go_ret
    exact ⟨by rw [H1.out]; rfl, st.ext0⟩
  | true =>
    by_cases k1 : k = 1
    · subst k1
      cases nr with
      | false =>
        have H1 : Hid (r = false) := Lib.hid (by rw [HR.out]; rfl)
        go_enter Try.func73, Try.ntmps73
        go_wp2_with ((((with_reducible refine wl_box ?_ (fun K hK => ?_)); rfl; refine owp_box (o := ⟨some 1, _, _, _, _, _⟩) rfl st ?_; apply Exists.intro; refine ⟨?_, ?_⟩; (focus (go_simp; try rfl)); (clear st; intro b1 w hb st; clear hb))); (try simp only [nsl, Value.cells, unB] at st); (try clear hc); have hc := st.facts; (try simp only [nfl, nft, Nat.reduceAdd] at hc))
        refine Rg4.wp_region4 (Rel := Ext) #[0, 1, 0, 7, 15]
          [(1, .val (bv))] [3] [0, 2] (fun _ => True) [0, 1, 2, 3, 4] (by kernel_rfl) (by kernel_rfl) (by kernel_rfl) (by kernel_rfl) Ext.refl (fun _ _ _ => Ext.trans) (show Rg4.PB _ by repeat (first | with_reducible exact Rg4.pb_body | with_reducible exact Rg4.pb_bodyD rfl | with_reducible refine Rg4.pb_then ?_ | with_reducible refine Rg4.pb_inBlock ?_ | with_reducible refine Rg4.pb_noGoto ?_)) (trivial) ?_
        replace st := st.drew
        change Rg4.wp4 _ _ _ _ _ _ _ _ _ (World.drew _) _ _
        generalize World.drew _ = w at st ⊢
        (try clear hc); have hc := st.facts; (try simp only [nfl, nft, Nat.reduceAdd] at hc)
        (refine Rg4.w4_read (Rg4.want_none rfl) rfl rfl ?_; apply Exists.intro; refine ⟨fun w' hw' hcl' => ?_, ?_⟩; focus (have st' := st.ext hw'; have hc' := st'.facts; (try simp only [nfl, nft, Nat.reduceAdd] at hc'); (focus (first | (go_simp; done) | (go_simp; first | rfl | (rw [if_neg] <;> first | rfl | omega) | (rw [if_pos] <;> first | rfl | omega))))); (try simp only [Rg4.nrm]))
        refine Rg4.w4_some (Rg4.want_none rfl) rfl (fun w' hw' hcl' _ => ?_) ?_
        · refine Rg.relAt_call (by go_simp; exact ⟨rfl, rfl⟩) ?_
          refine (HB.out _).mono ?_
          rintro en w'' ⟨rfl, hx⟩
          exact ⟨_, rfl, hx, trivial, rfl⟩
        rintro v ⟨_, _, _, rfl⟩
        (try simp only [Rg4.nrm])
        (refine Rg4.w4_read (Rg4.want_none rfl) rfl rfl ?_; apply Exists.intro; refine ⟨fun w' hw' hcl' => ?_, ?_⟩; focus (have st' := st.ext hw'; have hc' := st'.facts; (try simp only [nfl, nft, Nat.reduceAdd] at hc'); (focus (first | (go_simp; done) | (go_simp; first | rfl | (rw [if_neg] <;> first | rfl | omega) | (rw [if_pos] <;> first | rfl | omega))))); (try simp only [Rg4.nrm]))
        refine Rg4.w4_bar (Rg4.want_none rfl) rfl (fun w' hw' hcl _ K hK => ?_)
        replace st := st.ext hw'
        clear hw'
        (try clear hc); have hc := st.facts; (try simp only [nfl, nft, Nat.reduceAdd] at hc)
        go_wp2_with fail
        refine (HS.out _ st.ext0).mono ?_
        rintro en w ⟨rfl, hx⟩
        replace st := st.ext hx
        clear hx
        (try clear hc); have hc := st.facts; (try simp only [nfl, nft, Nat.reduceAdd] at hc)
        refine hK _ _ ⟨trivial, ?_⟩
        clear hK
        (try simp only [Rg4.nrm])
        (refine Rg4.w4_any (Rg4.want_none rfl) rfl ?_; apply Exists.intro; refine ⟨fun w' => ?_, ?_⟩; (focus (first | (go_simp; done) | (go_simp; first | rfl | (rw [if_neg] <;> first | rfl | omega) | (rw [if_pos] <;> first | rfl | omega)))); (try simp only [Rg4.nrm]))
        refine Rg4.w4_nil (fun w' hw' hcl' _ => ?_); replace st := st.ext hw'; clear hw' hcl'; (try clear hc); have hc := st.facts; (try simp only [nfl, nft, Nat.reduceAdd] at hc)
        go_wp2_with fail
        refine (HN.out _).mono ?_
        rintro en w ⟨rfl, hx⟩
        replace st := st.ext hx
        clear hx
        (try clear hc); have hc := st.facts; (try simp only [nfl, nft, Nat.reduceAdd] at hc)
        go_wp2_with fail
        go_ret
        exact ⟨by rw [H1.out]; rfl, st.ext0⟩
      | true =>
        by_cases p1 : p = 1
        · subst p1
          have H1 : Hid (r = true) := Lib.hid (by rw [HR.out]; rfl)
          go_enter Try.func73, Try.ntmps73
          go_wp2_with ((((with_reducible refine wl_box ?_ (fun K hK => ?_)); rfl; refine owp_box (o := ⟨some 1, _, _, _, _, _⟩) rfl st ?_; apply Exists.intro; refine ⟨?_, ?_⟩; (focus (go_simp; try rfl)); (clear st; intro b1 w hb st; clear hb))); (try simp only [nsl, Value.cells, unB] at st); (try clear hc); have hc := st.facts; (try simp only [nfl, nft, Nat.reduceAdd] at hc))
          refine Rg4.wp_region4 (Rel := Ext) #[0, 1, 0, 7, 15]
            [(1, .val (bv))] [3] [0, 2] (fun _ => True) [0, 1, 2, 3, 4] (by kernel_rfl) (by kernel_rfl) (by kernel_rfl) (by kernel_rfl) Ext.refl (fun _ _ _ => Ext.trans) (show Rg4.PB _ by repeat (first | with_reducible exact Rg4.pb_body | with_reducible exact Rg4.pb_bodyD rfl | with_reducible refine Rg4.pb_then ?_ | with_reducible refine Rg4.pb_inBlock ?_ | with_reducible refine Rg4.pb_noGoto ?_)) (trivial) ?_
          replace st := st.drew
          change Rg4.wp4 _ _ _ _ _ _ _ _ _ (World.drew _) _ _
          generalize World.drew _ = w at st ⊢
          (try clear hc); have hc := st.facts; (try simp only [nfl, nft, Nat.reduceAdd] at hc)
          (refine Rg4.w4_read (Rg4.want_none rfl) rfl rfl ?_; apply Exists.intro; refine ⟨fun w' hw' hcl' => ?_, ?_⟩; focus (have st' := st.ext hw'; have hc' := st'.facts; (try simp only [nfl, nft, Nat.reduceAdd] at hc'); (focus (first | (go_simp; done) | (go_simp; first | rfl | (rw [if_neg] <;> first | rfl | omega) | (rw [if_pos] <;> first | rfl | omega))))); (try simp only [Rg4.nrm]))
          refine Rg4.w4_some (Rg4.want_none rfl) rfl (fun w' hw' hcl' _ => ?_) ?_
          · refine Rg.relAt_call (by go_simp; exact ⟨rfl, rfl⟩) ?_
            refine (HB.out _).mono ?_
            rintro en w'' ⟨rfl, hx⟩
            exact ⟨_, rfl, hx, trivial, rfl⟩
          rintro v ⟨_, _, _, rfl⟩
          (try simp only [Rg4.nrm])
          (refine Rg4.w4_read (Rg4.want_none rfl) rfl rfl ?_; apply Exists.intro; refine ⟨fun w' hw' hcl' => ?_, ?_⟩; focus (have st' := st.ext hw'; have hc' := st'.facts; (try simp only [nfl, nft, Nat.reduceAdd] at hc'); (focus (first | (go_simp; done) | (go_simp; first | rfl | (rw [if_neg] <;> first | rfl | omega) | (rw [if_pos] <;> first | rfl | omega))))); (try simp only [Rg4.nrm]))
          refine Rg4.w4_bar (Rg4.want_none rfl) rfl (fun w' hw' hcl _ K hK => ?_)
          replace st := st.ext hw'
          clear hw'
          (try clear hc); have hc := st.facts; (try simp only [nfl, nft, Nat.reduceAdd] at hc)
          go_wp2_with fail
          refine (HS.out _ st.ext0).mono ?_
          rintro en w ⟨rfl, hx⟩
          replace st := st.ext hx
          clear hx
          (try clear hc); have hc := st.facts; (try simp only [nfl, nft, Nat.reduceAdd] at hc)
          refine hK _ _ ⟨trivial, ?_⟩
          clear hK
          (try simp only [Rg4.nrm])
          (refine Rg4.w4_any (Rg4.want_none rfl) rfl ?_; apply Exists.intro; refine ⟨fun w' => ?_, ?_⟩; (focus (first | (go_simp; done) | (go_simp; first | rfl | (rw [if_neg] <;> first | rfl | omega) | (rw [if_pos] <;> first | rfl | omega)))); (try simp only [Rg4.nrm]))
          refine Rg4.w4_nil (fun w' hw' hcl' _ => ?_); replace st := st.ext hw'; clear hw' hcl'; (try clear hc); have hc := st.facts; (try simp only [nfl, nft, Nat.reduceAdd] at hc)
          go_wp2_with fail
          refine (HN.out _).mono ?_
          rintro en w ⟨rfl, hx⟩
          replace st := st.ext hx
          clear hx
          (try clear hc); have hc := st.facts; (try simp only [nfl, nft, Nat.reduceAdd] at hc)
          go_wp2_with fail
          go_ret
          exact ⟨by rw [H1.out]; rfl, st.ext0⟩
        have p1b : (p == 1) = false := by simpa using p1
        by_cases p2 : p = 2
        · subst p2
          have H1 : Hid (r = true) := Lib.hid (by rw [HR.out]; rfl)
          clear p1
          go_enter Try.func73, Try.ntmps73
          go_wp2_with ((((with_reducible refine wl_box ?_ (fun K hK => ?_)); rfl; refine owp_box (o := ⟨some 1, _, _, _, _, _⟩) rfl st ?_; apply Exists.intro; refine ⟨?_, ?_⟩; (focus (go_simp; try rfl)); (clear st; intro b1 w hb st; clear hb))); (try simp only [nsl, Value.cells, unB] at st); (try clear hc); have hc := st.facts; (try simp only [nfl, nft, Nat.reduceAdd] at hc))
          refine Rg4.wp_region4 (Rel := Ext) #[0, 1, 0, 7, 15]
            [(1, .val (bv))] [3] [0, 2] (fun _ => True) [0, 1, 2, 3, 4] (by kernel_rfl) (by kernel_rfl) (by kernel_rfl) (by kernel_rfl) Ext.refl (fun _ _ _ => Ext.trans) (show Rg4.PB _ by repeat (first | with_reducible exact Rg4.pb_body | with_reducible exact Rg4.pb_bodyD rfl | with_reducible refine Rg4.pb_then ?_ | with_reducible refine Rg4.pb_inBlock ?_ | with_reducible refine Rg4.pb_noGoto ?_)) (trivial) ?_
          replace st := st.drew
          change Rg4.wp4 _ _ _ _ _ _ _ _ _ (World.drew _) _ _
          generalize World.drew _ = w at st ⊢
          (try clear hc); have hc := st.facts; (try simp only [nfl, nft, Nat.reduceAdd] at hc)
          (refine Rg4.w4_read (Rg4.want_none rfl) rfl rfl ?_; apply Exists.intro; refine ⟨fun w' hw' hcl' => ?_, ?_⟩; focus (have st' := st.ext hw'; have hc' := st'.facts; (try simp only [nfl, nft, Nat.reduceAdd] at hc'); (focus (first | (go_simp; done) | (go_simp; first | rfl | (rw [if_neg] <;> first | rfl | omega) | (rw [if_pos] <;> first | rfl | omega))))); (try simp only [Rg4.nrm]))
          refine Rg4.w4_some (Rg4.want_none rfl) rfl (fun w' hw' hcl' _ => ?_) ?_
          · refine Rg.relAt_call (by go_simp; exact ⟨rfl, rfl⟩) ?_
            refine (HB.out _).mono ?_
            rintro en w'' ⟨rfl, hx⟩
            exact ⟨_, rfl, hx, trivial, rfl⟩
          rintro v ⟨_, _, _, rfl⟩
          (try simp only [Rg4.nrm])
          (refine Rg4.w4_read (Rg4.want_none rfl) rfl rfl ?_; apply Exists.intro; refine ⟨fun w' hw' hcl' => ?_, ?_⟩; focus (have st' := st.ext hw'; have hc' := st'.facts; (try simp only [nfl, nft, Nat.reduceAdd] at hc'); (focus (first | (go_simp; done) | (go_simp; first | rfl | (rw [if_neg] <;> first | rfl | omega) | (rw [if_pos] <;> first | rfl | omega))))); (try simp only [Rg4.nrm]))
          refine Rg4.w4_bar (Rg4.want_none rfl) rfl (fun w' hw' hcl _ K hK => ?_)
          replace st := st.ext hw'
          clear hw'
          (try clear hc); have hc := st.facts; (try simp only [nfl, nft, Nat.reduceAdd] at hc)
          go_wp2_with fail
          refine (HS.out _ st.ext0).mono ?_
          rintro en w ⟨rfl, hx⟩
          replace st := st.ext hx
          clear hx
          (try clear hc); have hc := st.facts; (try simp only [nfl, nft, Nat.reduceAdd] at hc)
          refine hK _ _ ⟨trivial, ?_⟩
          clear hK
          (try simp only [Rg4.nrm])
          (refine Rg4.w4_any (Rg4.want_none rfl) rfl ?_; apply Exists.intro; refine ⟨fun w' => ?_, ?_⟩; (focus (first | (go_simp; done) | (go_simp; first | rfl | (rw [if_neg] <;> first | rfl | omega) | (rw [if_pos] <;> first | rfl | omega)))); (try simp only [Rg4.nrm]))
          refine Rg4.w4_nil (fun w' hw' hcl' _ => ?_); replace st := st.ext hw'; clear hw' hcl'; (try clear hc); have hc := st.facts; (try simp only [nfl, nft, Nat.reduceAdd] at hc)
          go_wp2_with fail
          refine (HN.out _).mono ?_
          rintro en w ⟨rfl, hx⟩
          replace st := st.ext hx
          clear hx
          (try clear hc); have hc := st.facts; (try simp only [nfl, nft, Nat.reduceAdd] at hc)
          go_wp2_with fail
          go_ret
          exact ⟨by rw [H1.out]; rfl, st.ext0⟩
        have p2b : (p == 2) = false := by simpa using p2
        have H1 : Hid (r = false) := Lib.hid (by rw [HR.out, if_pos rfl, decide_eq_false p1, decide_eq_false p2]; rfl)
        clear p1 p2
        go_enter Try.func73, Try.ntmps73
        go_wp2_with ((((with_reducible refine wl_box ?_ (fun K hK => ?_)); rfl; refine owp_box (o := ⟨some 1, _, _, _, _, _⟩) rfl st ?_; apply Exists.intro; refine ⟨?_, ?_⟩; (focus (go_simp; try rfl)); (clear st; intro b1 w hb st; clear hb))); (try simp only [nsl, Value.cells, unB] at st); (try clear hc); have hc := st.facts; (try simp only [nfl, nft, Nat.reduceAdd] at hc))
        refine Rg4.wp_region4 (Rel := Ext) #[0, 1, 0, 7, 15]
          [(1, .val (bv))] [3] [0, 2] (fun _ => True) [0, 1, 2, 3, 4] (by kernel_rfl) (by kernel_rfl) (by kernel_rfl) (by kernel_rfl) Ext.refl (fun _ _ _ => Ext.trans) (show Rg4.PB _ by repeat (first | with_reducible exact Rg4.pb_body | with_reducible exact Rg4.pb_bodyD rfl | with_reducible refine Rg4.pb_then ?_ | with_reducible refine Rg4.pb_inBlock ?_ | with_reducible refine Rg4.pb_noGoto ?_)) (trivial) ?_
        replace st := st.drew
        change Rg4.wp4 _ _ _ _ _ _ _ _ _ (World.drew _) _ _
        generalize World.drew _ = w at st ⊢
        (try clear hc); have hc := st.facts; (try simp only [nfl, nft, Nat.reduceAdd] at hc)
        (refine Rg4.w4_read (Rg4.want_none rfl) rfl rfl ?_; apply Exists.intro; refine ⟨fun w' hw' hcl' => ?_, ?_⟩; focus (have st' := st.ext hw'; have hc' := st'.facts; (try simp only [nfl, nft, Nat.reduceAdd] at hc'); (focus (first | (go_simp; done) | (go_simp; first | rfl | (rw [if_neg] <;> first | rfl | omega) | (rw [if_pos] <;> first | rfl | omega))))); (try simp only [Rg4.nrm]))
        refine Rg4.w4_some (Rg4.want_none rfl) rfl (fun w' hw' hcl' _ => ?_) ?_
        · refine Rg.relAt_call (by go_simp; exact ⟨rfl, rfl⟩) ?_
          refine (HB.out _).mono ?_
          rintro en w'' ⟨rfl, hx⟩
          exact ⟨_, rfl, hx, trivial, rfl⟩
        rintro v ⟨_, _, _, rfl⟩
        (try simp only [Rg4.nrm])
        (refine Rg4.w4_read (Rg4.want_none rfl) rfl rfl ?_; apply Exists.intro; refine ⟨fun w' hw' hcl' => ?_, ?_⟩; focus (have st' := st.ext hw'; have hc' := st'.facts; (try simp only [nfl, nft, Nat.reduceAdd] at hc'); (focus (first | (go_simp; done) | (go_simp; first | rfl | (rw [if_neg] <;> first | rfl | omega) | (rw [if_pos] <;> first | rfl | omega))))); (try simp only [Rg4.nrm]))
        refine Rg4.w4_bar (Rg4.want_none rfl) rfl (fun w' hw' hcl _ K hK => ?_)
        replace st := st.ext hw'
        clear hw'
        (try clear hc); have hc := st.facts; (try simp only [nfl, nft, Nat.reduceAdd] at hc)
        go_wp2_with fail
        refine (HS.out _ st.ext0).mono ?_
        rintro en w ⟨rfl, hx⟩
        replace st := st.ext hx
        clear hx
        (try clear hc); have hc := st.facts; (try simp only [nfl, nft, Nat.reduceAdd] at hc)
        refine hK _ _ ⟨trivial, ?_⟩
        clear hK
        (try simp only [Rg4.nrm])
        (refine Rg4.w4_any (Rg4.want_none rfl) rfl ?_; apply Exists.intro; refine ⟨fun w' => ?_, ?_⟩; (focus (first | (go_simp; done) | (go_simp; first | rfl | (rw [if_neg] <;> first | rfl | omega) | (rw [if_pos] <;> first | rfl | omega)))); (try simp only [Rg4.nrm]))
        refine Rg4.w4_nil (fun w' hw' hcl' _ => ?_); replace st := st.ext hw'; clear hw' hcl'; (try clear hc); have hc := st.facts; (try simp only [nfl, nft, Nat.reduceAdd] at hc)
        go_wp2_with fail
        refine (HN.out _).mono ?_
        rintro en w ⟨rfl, hx⟩
        replace st := st.ext hx
        clear hx
        (try clear hc); have hc := st.facts; (try simp only [nfl, nft, Nat.reduceAdd] at hc)
        go_wp2_with fail
        go_ret
        exact ⟨by rw [H1.out]; rfl, st.ext0⟩
    have k1b : (k == 1) = false := by simpa using k1
    by_cases k2 : k = 2
    · subst k2
      clear k1
      cases wr with
      | false =>
        have H1 : Hid (r = false) := Lib.hid (by rw [HR.out]; rfl)
        go_enter Try.func73, Try.ntmps73
        go_wp2_with ((((with_reducible refine wl_box ?_ (fun K hK => ?_)); rfl; refine owp_box (o := ⟨some 1, _, _, _, _, _⟩) rfl st ?_; apply Exists.intro; refine ⟨?_, ?_⟩; (focus (go_simp; try rfl)); (clear st; intro b1 w hb st; clear hb))); (try simp only [nsl, Value.cells, unB] at st); (try clear hc); have hc := st.facts; (try simp only [nfl, nft, Nat.reduceAdd] at hc))
        refine Rg4.wp_region4 (Rel := Ext) #[0, 1, 0, 7, 15]
          [(1, .val (bv))] [3] [0, 2] (fun _ => True) [0, 1, 2, 3, 4] (by kernel_rfl) (by kernel_rfl) (by kernel_rfl) (by kernel_rfl) Ext.refl (fun _ _ _ => Ext.trans) (show Rg4.PB _ by repeat (first | with_reducible exact Rg4.pb_body | with_reducible exact Rg4.pb_bodyD rfl | with_reducible refine Rg4.pb_then ?_ | with_reducible refine Rg4.pb_inBlock ?_ | with_reducible refine Rg4.pb_noGoto ?_)) (trivial) ?_
        replace st := st.drew
        change Rg4.wp4 _ _ _ _ _ _ _ _ _ (World.drew _) _ _
        generalize World.drew _ = w at st ⊢
        (try clear hc); have hc := st.facts; (try simp only [nfl, nft, Nat.reduceAdd] at hc)
        (refine Rg4.w4_read (Rg4.want_none rfl) rfl rfl ?_; apply Exists.intro; refine ⟨fun w' hw' hcl' => ?_, ?_⟩; focus (have st' := st.ext hw'; have hc' := st'.facts; (try simp only [nfl, nft, Nat.reduceAdd] at hc'); (focus (first | (go_simp; done) | (go_simp; first | rfl | (rw [if_neg] <;> first | rfl | omega) | (rw [if_pos] <;> first | rfl | omega))))); (try simp only [Rg4.nrm]))
        refine Rg4.w4_some (Rg4.want_none rfl) rfl (fun w' hw' hcl' _ => ?_) ?_
        · refine Rg.relAt_call (by go_simp; exact ⟨rfl, rfl⟩) ?_
          refine (HB.out _).mono ?_
          rintro en w'' ⟨rfl, hx⟩
          exact ⟨_, rfl, hx, trivial, rfl⟩
        rintro v ⟨_, _, _, rfl⟩
        (try simp only [Rg4.nrm])
        (refine Rg4.w4_read (Rg4.want_none rfl) rfl rfl ?_; apply Exists.intro; refine ⟨fun w' hw' hcl' => ?_, ?_⟩; focus (have st' := st.ext hw'; have hc' := st'.facts; (try simp only [nfl, nft, Nat.reduceAdd] at hc'); (focus (first | (go_simp; done) | (go_simp; first | rfl | (rw [if_neg] <;> first | rfl | omega) | (rw [if_pos] <;> first | rfl | omega))))); (try simp only [Rg4.nrm]))
        refine Rg4.w4_bar (Rg4.want_none rfl) rfl (fun w' hw' hcl _ K hK => ?_)
        replace st := st.ext hw'
        clear hw'
        (try clear hc); have hc := st.facts; (try simp only [nfl, nft, Nat.reduceAdd] at hc)
        go_wp2_with fail
        refine (HS.out _ st.ext0).mono ?_
        rintro en w ⟨rfl, hx⟩
        replace st := st.ext hx
        clear hx
        (try clear hc); have hc := st.facts; (try simp only [nfl, nft, Nat.reduceAdd] at hc)
        refine hK _ _ ⟨trivial, ?_⟩
        clear hK
        (try simp only [Rg4.nrm])
        (refine Rg4.w4_any (Rg4.want_none rfl) rfl ?_; apply Exists.intro; refine ⟨fun w' => ?_, ?_⟩; (focus (first | (go_simp; done) | (go_simp; first | rfl | (rw [if_neg] <;> first | rfl | omega) | (rw [if_pos] <;> first | rfl | omega)))); (try simp only [Rg4.nrm]))
        refine Rg4.w4_nil (fun w' hw' hcl' _ => ?_); replace st := st.ext hw'; clear hw' hcl'; (try clear hc); have hc := st.facts; (try simp only [nfl, nft, Nat.reduceAdd] at hc)
        go_wp2_with fail
        refine (HW.out _ (st.oldFl (i := 0) get0 HX.out.1.2)).mono ?_
        rintro en w ⟨rfl, hx⟩
        replace st := st.ext hx
        clear hx
        (try clear hc); have hc := st.facts; (try simp only [nfl, nft, Nat.reduceAdd] at hc)
        go_wp2_with fail
        go_ret
        exact ⟨by rw [H1.out]; rfl, st.ext0⟩
      | true =>
        have H1 : Hid (r = sr) := Lib.hid (by rw [HR.out]; rfl)
        go_enter Try.func73, Try.ntmps73
        go_wp2_with ((((with_reducible refine wl_box ?_ (fun K hK => ?_)); rfl; refine owp_box (o := ⟨some 1, _, _, _, _, _⟩) rfl st ?_; apply Exists.intro; refine ⟨?_, ?_⟩; (focus (go_simp; try rfl)); (clear st; intro b1 w hb st; clear hb))); (try simp only [nsl, Value.cells, unB] at st); (try clear hc); have hc := st.facts; (try simp only [nfl, nft, Nat.reduceAdd] at hc))
        refine Rg4.wp_region4 (Rel := Ext) #[0, 1, 0, 7, 15]
          [(1, .val (bv))] [3] [0, 2] (fun _ => True) [0, 1, 2, 3, 4] (by kernel_rfl) (by kernel_rfl) (by kernel_rfl) (by kernel_rfl) Ext.refl (fun _ _ _ => Ext.trans) (show Rg4.PB _ by repeat (first | with_reducible exact Rg4.pb_body | with_reducible exact Rg4.pb_bodyD rfl | with_reducible refine Rg4.pb_then ?_ | with_reducible refine Rg4.pb_inBlock ?_ | with_reducible refine Rg4.pb_noGoto ?_)) (trivial) ?_
        replace st := st.drew
        change Rg4.wp4 _ _ _ _ _ _ _ _ _ (World.drew _) _ _
        generalize World.drew _ = w at st ⊢
        (try clear hc); have hc := st.facts; (try simp only [nfl, nft, Nat.reduceAdd] at hc)
        (refine Rg4.w4_read (Rg4.want_none rfl) rfl rfl ?_; apply Exists.intro; refine ⟨fun w' hw' hcl' => ?_, ?_⟩; focus (have st' := st.ext hw'; have hc' := st'.facts; (try simp only [nfl, nft, Nat.reduceAdd] at hc'); (focus (first | (go_simp; done) | (go_simp; first | rfl | (rw [if_neg] <;> first | rfl | omega) | (rw [if_pos] <;> first | rfl | omega))))); (try simp only [Rg4.nrm]))
        refine Rg4.w4_some (Rg4.want_none rfl) rfl (fun w' hw' hcl' _ => ?_) ?_
        · refine Rg.relAt_call (by go_simp; exact ⟨rfl, rfl⟩) ?_
          refine (HB.out _).mono ?_
          rintro en w'' ⟨rfl, hx⟩
          exact ⟨_, rfl, hx, trivial, rfl⟩
        rintro v ⟨_, _, _, rfl⟩
        (try simp only [Rg4.nrm])
        (refine Rg4.w4_read (Rg4.want_none rfl) rfl rfl ?_; apply Exists.intro; refine ⟨fun w' hw' hcl' => ?_, ?_⟩; focus (have st' := st.ext hw'; have hc' := st'.facts; (try simp only [nfl, nft, Nat.reduceAdd] at hc'); (focus (first | (go_simp; done) | (go_simp; first | rfl | (rw [if_neg] <;> first | rfl | omega) | (rw [if_pos] <;> first | rfl | omega))))); (try simp only [Rg4.nrm]))
        refine Rg4.w4_bar (Rg4.want_none rfl) rfl (fun w' hw' hcl _ K hK => ?_)
        replace st := st.ext hw'
        clear hw'
        (try clear hc); have hc := st.facts; (try simp only [nfl, nft, Nat.reduceAdd] at hc)
        go_wp2_with fail
        refine (HS.out _ st.ext0).mono ?_
        rintro en w ⟨rfl, hx⟩
        replace st := st.ext hx
        clear hx
        (try clear hc); have hc := st.facts; (try simp only [nfl, nft, Nat.reduceAdd] at hc)
        refine hK _ _ ⟨trivial, ?_⟩
        clear hK
        (try simp only [Rg4.nrm])
        (refine Rg4.w4_any (Rg4.want_none rfl) rfl ?_; apply Exists.intro; refine ⟨fun w' => ?_, ?_⟩; (focus (first | (go_simp; done) | (go_simp; first | rfl | (rw [if_neg] <;> first | rfl | omega) | (rw [if_pos] <;> first | rfl | omega)))); (try simp only [Rg4.nrm]))
        refine Rg4.w4_nil (fun w' hw' hcl' _ => ?_); replace st := st.ext hw'; clear hw' hcl'; (try clear hc); have hc := st.facts; (try simp only [nfl, nft, Nat.reduceAdd] at hc)
        go_wp2_with fail
        refine (HW.out _ (st.oldFl (i := 0) get0 HX.out.1.2)).mono ?_
        rintro en w ⟨rfl, hx⟩
        replace st := st.ext hx
        clear hx
        (try clear hc); have hc := st.facts; (try simp only [nfl, nft, Nat.reduceAdd] at hc)
        go_wp2_with fail
        refine (HH.out _ (st.oldFl (i := 0) get0 HX.out.2.1.2)).mono ?_
        rintro en w ⟨rfl, hx⟩
        replace st := st.ext hx
        clear hx
        (try clear hc); have hc := st.facts; (try simp only [nfl, nft, Nat.reduceAdd] at hc)
        go_wp2_with fail
        go_ret
        exact ⟨by rw [H1.out]; rfl, st.ext0⟩
    have k2b : (k == 2) = false := by simpa using k2
    by_cases k5 : k = 5
    · subst k5
      clear k1 k2
      by_cases e1 : 1 ≤ e
      · have H1 : Hid (r = decide (e ≤ 99)) := Lib.hid (by rw [HR.out, if_neg (by decide), if_neg (by decide), if_pos rfl, decide_eq_true e1]; rfl)
        go_enter Try.func73, Try.ntmps73
        go_wp2_with ((((with_reducible refine wl_box ?_ (fun K hK => ?_)); rfl; refine owp_box (o := ⟨some 1, _, _, _, _, _⟩) rfl st ?_; apply Exists.intro; refine ⟨?_, ?_⟩; (focus (go_simp; try rfl)); (clear st; intro b1 w hb st; clear hb))); (try simp only [nsl, Value.cells, unB] at st); (try clear hc); have hc := st.facts; (try simp only [nfl, nft, Nat.reduceAdd] at hc))
        refine Rg4.wp_region4 (Rel := Ext) #[0, 1, 0, 7, 15]
          [(1, .val (bv))] [3] [0, 2] (fun _ => True) [0, 1, 2, 3, 4] (by kernel_rfl) (by kernel_rfl) (by kernel_rfl) (by kernel_rfl) Ext.refl (fun _ _ _ => Ext.trans) (show Rg4.PB _ by repeat (first | with_reducible exact Rg4.pb_body | with_reducible exact Rg4.pb_bodyD rfl | with_reducible refine Rg4.pb_then ?_ | with_reducible refine Rg4.pb_inBlock ?_ | with_reducible refine Rg4.pb_noGoto ?_)) (trivial) ?_
        replace st := st.drew
        change Rg4.wp4 _ _ _ _ _ _ _ _ _ (World.drew _) _ _
        generalize World.drew _ = w at st ⊢
        (try clear hc); have hc := st.facts; (try simp only [nfl, nft, Nat.reduceAdd] at hc)
        (refine Rg4.w4_read (Rg4.want_none rfl) rfl rfl ?_; apply Exists.intro; refine ⟨fun w' hw' hcl' => ?_, ?_⟩; focus (have st' := st.ext hw'; have hc' := st'.facts; (try simp only [nfl, nft, Nat.reduceAdd] at hc'); (focus (first | (go_simp; done) | (go_simp; first | rfl | (rw [if_neg] <;> first | rfl | omega) | (rw [if_pos] <;> first | rfl | omega))))); (try simp only [Rg4.nrm]))
        refine Rg4.w4_some (Rg4.want_none rfl) rfl (fun w' hw' hcl' _ => ?_) ?_
        · refine Rg.relAt_call (by go_simp; exact ⟨rfl, rfl⟩) ?_
          refine (HB.out _).mono ?_
          rintro en w'' ⟨rfl, hx⟩
          exact ⟨_, rfl, hx, trivial, rfl⟩
        rintro v ⟨_, _, _, rfl⟩
        (try simp only [Rg4.nrm])
        (refine Rg4.w4_read (Rg4.want_none rfl) rfl rfl ?_; apply Exists.intro; refine ⟨fun w' hw' hcl' => ?_, ?_⟩; focus (have st' := st.ext hw'; have hc' := st'.facts; (try simp only [nfl, nft, Nat.reduceAdd] at hc'); (focus (first | (go_simp; done) | (go_simp; first | rfl | (rw [if_neg] <;> first | rfl | omega) | (rw [if_pos] <;> first | rfl | omega))))); (try simp only [Rg4.nrm]))
        refine Rg4.w4_bar (Rg4.want_none rfl) rfl (fun w' hw' hcl _ K hK => ?_)
        replace st := st.ext hw'
        clear hw'
        (try clear hc); have hc := st.facts; (try simp only [nfl, nft, Nat.reduceAdd] at hc)
        go_wp2_with fail
        refine (HS.out _ st.ext0).mono ?_
        rintro en w ⟨rfl, hx⟩
        replace st := st.ext hx
        clear hx
        (try clear hc); have hc := st.facts; (try simp only [nfl, nft, Nat.reduceAdd] at hc)
        refine hK _ _ ⟨trivial, ?_⟩
        clear hK
        (try simp only [Rg4.nrm])
        (refine Rg4.w4_any (Rg4.want_none rfl) rfl ?_; apply Exists.intro; refine ⟨fun w' => ?_, ?_⟩; (focus (first | (go_simp; done) | (go_simp; first | rfl | (rw [if_neg] <;> first | rfl | omega) | (rw [if_pos] <;> first | rfl | omega)))); (try simp only [Rg4.nrm]))
        refine Rg4.w4_nil (fun w' hw' hcl' _ => ?_); replace st := st.ext hw'; clear hw' hcl'; (try clear hc); have hc := st.facts; (try simp only [nfl, nft, Nat.reduceAdd] at hc)
        go_wp2_with fail
        go_ret
        exact ⟨by rw [H1.out]; rfl, st.ext0⟩
      · have H1 : Hid (r = false) := Lib.hid (by rw [HR.out, if_neg (by decide), if_neg (by decide), if_pos rfl, decide_eq_false e1]; rfl)
        go_enter Try.func73, Try.ntmps73
        go_wp2_with ((((with_reducible refine wl_box ?_ (fun K hK => ?_)); rfl; refine owp_box (o := ⟨some 1, _, _, _, _, _⟩) rfl st ?_; apply Exists.intro; refine ⟨?_, ?_⟩; (focus (go_simp; try rfl)); (clear st; intro b1 w hb st; clear hb))); (try simp only [nsl, Value.cells, unB] at st); (try clear hc); have hc := st.facts; (try simp only [nfl, nft, Nat.reduceAdd] at hc))
        refine Rg4.wp_region4 (Rel := Ext) #[0, 1, 0, 7, 15]
          [(1, .val (bv))] [3] [0, 2] (fun _ => True) [0, 1, 2, 3, 4] (by kernel_rfl) (by kernel_rfl) (by kernel_rfl) (by kernel_rfl) Ext.refl (fun _ _ _ => Ext.trans) (show Rg4.PB _ by repeat (first | with_reducible exact Rg4.pb_body | with_reducible exact Rg4.pb_bodyD rfl | with_reducible refine Rg4.pb_then ?_ | with_reducible refine Rg4.pb_inBlock ?_ | with_reducible refine Rg4.pb_noGoto ?_)) (trivial) ?_
        replace st := st.drew
        change Rg4.wp4 _ _ _ _ _ _ _ _ _ (World.drew _) _ _
        generalize World.drew _ = w at st ⊢
        (try clear hc); have hc := st.facts; (try simp only [nfl, nft, Nat.reduceAdd] at hc)
        (refine Rg4.w4_read (Rg4.want_none rfl) rfl rfl ?_; apply Exists.intro; refine ⟨fun w' hw' hcl' => ?_, ?_⟩; focus (have st' := st.ext hw'; have hc' := st'.facts; (try simp only [nfl, nft, Nat.reduceAdd] at hc'); (focus (first | (go_simp; done) | (go_simp; first | rfl | (rw [if_neg] <;> first | rfl | omega) | (rw [if_pos] <;> first | rfl | omega))))); (try simp only [Rg4.nrm]))
        refine Rg4.w4_some (Rg4.want_none rfl) rfl (fun w' hw' hcl' _ => ?_) ?_
        · refine Rg.relAt_call (by go_simp; exact ⟨rfl, rfl⟩) ?_
          refine (HB.out _).mono ?_
          rintro en w'' ⟨rfl, hx⟩
          exact ⟨_, rfl, hx, trivial, rfl⟩
        rintro v ⟨_, _, _, rfl⟩
        (try simp only [Rg4.nrm])
        (refine Rg4.w4_read (Rg4.want_none rfl) rfl rfl ?_; apply Exists.intro; refine ⟨fun w' hw' hcl' => ?_, ?_⟩; focus (have st' := st.ext hw'; have hc' := st'.facts; (try simp only [nfl, nft, Nat.reduceAdd] at hc'); (focus (first | (go_simp; done) | (go_simp; first | rfl | (rw [if_neg] <;> first | rfl | omega) | (rw [if_pos] <;> first | rfl | omega))))); (try simp only [Rg4.nrm]))
        refine Rg4.w4_bar (Rg4.want_none rfl) rfl (fun w' hw' hcl _ K hK => ?_)
        replace st := st.ext hw'
        clear hw'
        (try clear hc); have hc := st.facts; (try simp only [nfl, nft, Nat.reduceAdd] at hc)
        go_wp2_with fail
        refine (HS.out _ st.ext0).mono ?_
        rintro en w ⟨rfl, hx⟩
        replace st := st.ext hx
        clear hx
        (try clear hc); have hc := st.facts; (try simp only [nfl, nft, Nat.reduceAdd] at hc)
        refine hK _ _ ⟨trivial, ?_⟩
        clear hK
        (try simp only [Rg4.nrm])
        (refine Rg4.w4_any (Rg4.want_none rfl) rfl ?_; apply Exists.intro; refine ⟨fun w' => ?_, ?_⟩; (focus (first | (go_simp; done) | (go_simp; first | rfl | (rw [if_neg] <;> first | rfl | omega) | (rw [if_pos] <;> first | rfl | omega)))); (try simp only [Rg4.nrm]))
        refine Rg4.w4_nil (fun w' hw' hcl' _ => ?_); replace st := st.ext hw'; clear hw' hcl'; (try clear hc); have hc := st.facts; (try simp only [nfl, nft, Nat.reduceAdd] at hc)
        go_wp2_with fail
        go_ret
        exact ⟨by rw [H1.out]; rfl, st.ext0⟩
    have k5b : (k == 5) = false := by simpa using k5
    by_cases k3 : k = 3
    · subst k3
      have H1 : Hid (r = true) := Lib.hid (by rw [HR.out]; rfl)
      clear k1 k2 k5
      go_enter Try.func73, Try.ntmps73
      go_wp2_with ((((with_reducible refine wl_box ?_ (fun K hK => ?_)); rfl; refine owp_box (o := ⟨some 1, _, _, _, _, _⟩) rfl st ?_; apply Exists.intro; refine ⟨?_, ?_⟩; (focus (go_simp; try rfl)); (clear st; intro b1 w hb st; clear hb))); (try simp only [nsl, Value.cells, unB] at st); (try clear hc); have hc := st.facts; (try simp only [nfl, nft, Nat.reduceAdd] at hc))
      refine Rg4.wp_region4 (Rel := Ext) #[0, 1, 0, 7, 15]
        [(1, .val (bv))] [3] [0, 2] (fun _ => True) [0, 1, 2, 3, 4] (by kernel_rfl) (by kernel_rfl) (by kernel_rfl) (by kernel_rfl) Ext.refl (fun _ _ _ => Ext.trans) (show Rg4.PB _ by repeat (first | with_reducible exact Rg4.pb_body | with_reducible exact Rg4.pb_bodyD rfl | with_reducible refine Rg4.pb_then ?_ | with_reducible refine Rg4.pb_inBlock ?_ | with_reducible refine Rg4.pb_noGoto ?_)) (trivial) ?_
      replace st := st.drew
      change Rg4.wp4 _ _ _ _ _ _ _ _ _ (World.drew _) _ _
      generalize World.drew _ = w at st ⊢
      (try clear hc); have hc := st.facts; (try simp only [nfl, nft, Nat.reduceAdd] at hc)
      (refine Rg4.w4_read (Rg4.want_none rfl) rfl rfl ?_; apply Exists.intro; refine ⟨fun w' hw' hcl' => ?_, ?_⟩; focus (have st' := st.ext hw'; have hc' := st'.facts; (try simp only [nfl, nft, Nat.reduceAdd] at hc'); (focus (first | (go_simp; done) | (go_simp; first | rfl | (rw [if_neg] <;> first | rfl | omega) | (rw [if_pos] <;> first | rfl | omega))))); (try simp only [Rg4.nrm]))
      refine Rg4.w4_some (Rg4.want_none rfl) rfl (fun w' hw' hcl' _ => ?_) ?_
      · refine Rg.relAt_call (by go_simp; exact ⟨rfl, rfl⟩) ?_
        refine (HB.out _).mono ?_
        rintro en w'' ⟨rfl, hx⟩
        exact ⟨_, rfl, hx, trivial, rfl⟩
      rintro v ⟨_, _, _, rfl⟩
      (try simp only [Rg4.nrm])
      (refine Rg4.w4_read (Rg4.want_none rfl) rfl rfl ?_; apply Exists.intro; refine ⟨fun w' hw' hcl' => ?_, ?_⟩; focus (have st' := st.ext hw'; have hc' := st'.facts; (try simp only [nfl, nft, Nat.reduceAdd] at hc'); (focus (first | (go_simp; done) | (go_simp; first | rfl | (rw [if_neg] <;> first | rfl | omega) | (rw [if_pos] <;> first | rfl | omega))))); (try simp only [Rg4.nrm]))
      refine Rg4.w4_bar (Rg4.want_none rfl) rfl (fun w' hw' hcl _ K hK => ?_)
      replace st := st.ext hw'
      clear hw'
      (try clear hc); have hc := st.facts; (try simp only [nfl, nft, Nat.reduceAdd] at hc)
      go_wp2_with fail
      refine (HS.out _ st.ext0).mono ?_
      rintro en w ⟨rfl, hx⟩
      replace st := st.ext hx
      clear hx
      (try clear hc); have hc := st.facts; (try simp only [nfl, nft, Nat.reduceAdd] at hc)
      refine hK _ _ ⟨trivial, ?_⟩
      clear hK
      (try simp only [Rg4.nrm])
      (refine Rg4.w4_any (Rg4.want_none rfl) rfl ?_; apply Exists.intro; refine ⟨fun w' => ?_, ?_⟩; (focus (first | (go_simp; done) | (go_simp; first | rfl | (rw [if_neg] <;> first | rfl | omega) | (rw [if_pos] <;> first | rfl | omega)))); (try simp only [Rg4.nrm]))
      refine Rg4.w4_nil (fun w' hw' hcl' _ => ?_); replace st := st.ext hw'; clear hw' hcl'; (try clear hc); have hc := st.facts; (try simp only [nfl, nft, Nat.reduceAdd] at hc)
      go_wp2_with fail
      go_ret
      exact ⟨by rw [H1.out]; rfl, st.ext0⟩
    have k3b : (k == 3) = false := by simpa using k3
    by_cases k4 : k = 4
    · subst k4
      have H1 : Hid (r = true) := Lib.hid (by rw [HR.out]; rfl)
      clear k1 k2 k5 k3
      go_enter Try.func73, Try.ntmps73
      go_wp2_with ((((with_reducible refine wl_box ?_ (fun K hK => ?_)); rfl; refine owp_box (o := ⟨some 1, _, _, _, _, _⟩) rfl st ?_; apply Exists.intro; refine ⟨?_, ?_⟩; (focus (go_simp; try rfl)); (clear st; intro b1 w hb st; clear hb))); (try simp only [nsl, Value.cells, unB] at st); (try clear hc); have hc := st.facts; (try simp only [nfl, nft, Nat.reduceAdd] at hc))
      refine Rg4.wp_region4 (Rel := Ext) #[0, 1, 0, 7, 15]
        [(1, .val (bv))] [3] [0, 2] (fun _ => True) [0, 1, 2, 3, 4] (by kernel_rfl) (by kernel_rfl) (by kernel_rfl) (by kernel_rfl) Ext.refl (fun _ _ _ => Ext.trans) (show Rg4.PB _ by repeat (first | with_reducible exact Rg4.pb_body | with_reducible exact Rg4.pb_bodyD rfl | with_reducible refine Rg4.pb_then ?_ | with_reducible refine Rg4.pb_inBlock ?_ | with_reducible refine Rg4.pb_noGoto ?_)) (trivial) ?_
      replace st := st.drew
      change Rg4.wp4 _ _ _ _ _ _ _ _ _ (World.drew _) _ _
      generalize World.drew _ = w at st ⊢
      (try clear hc); have hc := st.facts; (try simp only [nfl, nft, Nat.reduceAdd] at hc)
      (refine Rg4.w4_read (Rg4.want_none rfl) rfl rfl ?_; apply Exists.intro; refine ⟨fun w' hw' hcl' => ?_, ?_⟩; focus (have st' := st.ext hw'; have hc' := st'.facts; (try simp only [nfl, nft, Nat.reduceAdd] at hc'); (focus (first | (go_simp; done) | (go_simp; first | rfl | (rw [if_neg] <;> first | rfl | omega) | (rw [if_pos] <;> first | rfl | omega))))); (try simp only [Rg4.nrm]))
      refine Rg4.w4_some (Rg4.want_none rfl) rfl (fun w' hw' hcl' _ => ?_) ?_
      · refine Rg.relAt_call (by go_simp; exact ⟨rfl, rfl⟩) ?_
        refine (HB.out _).mono ?_
        rintro en w'' ⟨rfl, hx⟩
        exact ⟨_, rfl, hx, trivial, rfl⟩
      rintro v ⟨_, _, _, rfl⟩
      (try simp only [Rg4.nrm])
      (refine Rg4.w4_read (Rg4.want_none rfl) rfl rfl ?_; apply Exists.intro; refine ⟨fun w' hw' hcl' => ?_, ?_⟩; focus (have st' := st.ext hw'; have hc' := st'.facts; (try simp only [nfl, nft, Nat.reduceAdd] at hc'); (focus (first | (go_simp; done) | (go_simp; first | rfl | (rw [if_neg] <;> first | rfl | omega) | (rw [if_pos] <;> first | rfl | omega))))); (try simp only [Rg4.nrm]))
      refine Rg4.w4_bar (Rg4.want_none rfl) rfl (fun w' hw' hcl _ K hK => ?_)
      replace st := st.ext hw'
      clear hw'
      (try clear hc); have hc := st.facts; (try simp only [nfl, nft, Nat.reduceAdd] at hc)
      go_wp2_with fail
      refine (HS.out _ st.ext0).mono ?_
      rintro en w ⟨rfl, hx⟩
      replace st := st.ext hx
      clear hx
      (try clear hc); have hc := st.facts; (try simp only [nfl, nft, Nat.reduceAdd] at hc)
      refine hK _ _ ⟨trivial, ?_⟩
      clear hK
      (try simp only [Rg4.nrm])
      (refine Rg4.w4_any (Rg4.want_none rfl) rfl ?_; apply Exists.intro; refine ⟨fun w' => ?_, ?_⟩; (focus (first | (go_simp; done) | (go_simp; first | rfl | (rw [if_neg] <;> first | rfl | omega) | (rw [if_pos] <;> first | rfl | omega)))); (try simp only [Rg4.nrm]))
      refine Rg4.w4_nil (fun w' hw' hcl' _ => ?_); replace st := st.ext hw'; clear hw' hcl'; (try clear hc); have hc := st.facts; (try simp only [nfl, nft, Nat.reduceAdd] at hc)
      go_wp2_with fail
      go_ret
      exact ⟨by rw [H1.out]; rfl, st.ext0⟩
    have k4b : (k == 4) = false := by simpa using k4
    have H1 : Hid (r = false) := Lib.hid (by rw [HR.out, if_neg k1, if_neg k2, if_neg k5, decide_eq_false k3, decide_eq_false k4]; rfl)
    clear k1 k2 k5 k3 k4
    go_enter Try.func73, Try.ntmps73
    go_wp2_with ((((with_reducible refine wl_box ?_ (fun K hK => ?_)); rfl; refine owp_box (o := ⟨some 1, _, _, _, _, _⟩) rfl st ?_; apply Exists.intro; refine ⟨?_, ?_⟩; (focus (go_simp; try rfl)); (clear st; intro b1 w hb st; clear hb))); (try simp only [nsl, Value.cells, unB] at st); (try clear hc); have hc := st.facts; (try simp only [nfl, nft, Nat.reduceAdd] at hc))
    refine Rg4.wp_region4 (Rel := Ext) #[0, 1, 0, 7, 15]
      [(1, .val (bv))] [3] [0, 2] (fun _ => True) [0, 1, 2, 3, 4] (by kernel_rfl) (by kernel_rfl) (by kernel_rfl) (by kernel_rfl) Ext.refl (fun _ _ _ => Ext.trans) (show Rg4.PB _ by repeat (first | with_reducible exact Rg4.pb_body | with_reducible exact Rg4.pb_bodyD rfl | with_reducible refine Rg4.pb_then ?_ | with_reducible refine Rg4.pb_inBlock ?_ | with_reducible refine Rg4.pb_noGoto ?_)) (trivial) ?_
    replace st := st.drew
    change Rg4.wp4 _ _ _ _ _ _ _ _ _ (World.drew _) _ _
    generalize World.drew _ = w at st ⊢
    (try clear hc); have hc := st.facts; (try simp only [nfl, nft, Nat.reduceAdd] at hc)
    (refine Rg4.w4_read (Rg4.want_none rfl) rfl rfl ?_; apply Exists.intro; refine ⟨fun w' hw' hcl' => ?_, ?_⟩; focus (have st' := st.ext hw'; have hc' := st'.facts; (try simp only [nfl, nft, Nat.reduceAdd] at hc'); (focus (first | (go_simp; done) | (go_simp; first | rfl | (rw [if_neg] <;> first | rfl | omega) | (rw [if_pos] <;> first | rfl | omega))))); (try simp only [Rg4.nrm]))
    refine Rg4.w4_some (Rg4.want_none rfl) rfl (fun w' hw' hcl' _ => ?_) ?_
    · refine Rg.relAt_call (by go_simp; exact ⟨rfl, rfl⟩) ?_
      refine (HB.out _).mono ?_
      rintro en w'' ⟨rfl, hx⟩
      exact ⟨_, rfl, hx, trivial, rfl⟩
    rintro v ⟨_, _, _, rfl⟩
    (try simp only [Rg4.nrm])
    (refine Rg4.w4_read (Rg4.want_none rfl) rfl rfl ?_; apply Exists.intro; refine ⟨fun w' hw' hcl' => ?_, ?_⟩; focus (have st' := st.ext hw'; have hc' := st'.facts; (try simp only [nfl, nft, Nat.reduceAdd] at hc'); (focus (first | (go_simp; done) | (go_simp; first | rfl | (rw [if_neg] <;> first | rfl | omega) | (rw [if_pos] <;> first | rfl | omega))))); (try simp only [Rg4.nrm]))
    refine Rg4.w4_bar (Rg4.want_none rfl) rfl (fun w' hw' hcl _ K hK => ?_)
    replace st := st.ext hw'
    clear hw'
    (try clear hc); have hc := st.facts; (try simp only [nfl, nft, Nat.reduceAdd] at hc)
    go_wp2_with fail
    refine (HS.out _ st.ext0).mono ?_
    rintro en w ⟨rfl, hx⟩
    replace st := st.ext hx
    clear hx
    (try clear hc); have hc := st.facts; (try simp only [nfl, nft, Nat.reduceAdd] at hc)
    refine hK _ _ ⟨trivial, ?_⟩
    clear hK
    (try simp only [Rg4.nrm])
    (refine Rg4.w4_any (Rg4.want_none rfl) rfl ?_; apply Exists.intro; refine ⟨fun w' => ?_, ?_⟩; (focus (first | (go_simp; done) | (go_simp; first | rfl | (rw [if_neg] <;> first | rfl | omega) | (rw [if_pos] <;> first | rfl | omega)))); (try simp only [Rg4.nrm]))
    refine Rg4.w4_nil (fun w' hw' hcl' _ => ?_); replace st := st.ext hw'; clear hw' hcl'; (try clear hc); have hc := st.facts; (try simp only [nfl, nft, Nat.reduceAdd] at hc)
    go_wp2_with fail
    go_ret
    exact ⟨by rw [H1.out]; rfl, st.ext0⟩
end Go.Proofs.Ytekngjkjgmplpaa

namespace Go.Proofs.Ytekngjkjgmplpaa
set_option linter.unusedSimpArgs false
set_option linter.unusedVariables false
open Go Go.RowKit
theorem penBytesRow_c {fr al : Nat → Prop} {w : World} {p : Nat} {xs : List UInt8} (st : Own fr al w [penI p xs] w) (hl : xs.length ≤ 100000000000000) :
    Calls Try.prog 45 #[.pointer (some ⟨p, 0, none⟩)] w fun e w' => ∃ a c, e = .returned (.slice a xs.length c) ∧ (xs.length ≤ c ∧ c ≤ maxLen) ∧ Own fr al w [penI p xs, rowI 5 1 (.slice a xs.length c) xs.length (xs.map B)] w' := by
  obtain ⟨g, hp⟩ := st.pen (i := 0) rfl
  refine (penBytes_own p g xs w hp hl).mono ?_
  rintro e w' ⟨v, rfl, h, hx⟩
  obtain ⟨a, m, c, rfl, h1, h2, h3⟩ := own_by h
  obtain rfl : m = xs.length := h3.1
  refine ⟨a, c, rfl, ⟨h1, h2⟩, ?_⟩
  have := st.new (I := rowI 5 1 (.slice a xs.length c) xs.length (xs.map B)) hx (e' := fun b => (Value.slice a xs.length c).ownBlock = some b) (s' := fun _ => False) ⟨h.mono (Nat.zero_le _), fun k hk => hk⟩ (fun b hb => ⟨(h.lt b hb).2, (h.lt b hb).1⟩) (fun _ q => q.elim) (fun _ _ q => q)
  simpa using this
theorem FreshI.by {w w' : World} {a : Option Addr} {n c : Nat} {xs : List UInt8} (h : FreshI w w' (rowI 5 1 (.slice a n c) n (xs.map B))) : (n ≤ c ∧ c ≤ maxLen) ∧ By w' a n xs := by
  obtain ⟨_, e, ⟨h1, _⟩, _⟩ := h
  obtain ⟨a', m, c', hv, h2, h3, h4⟩ := own_by h1
  injection hv with q1 q2 q3
  subst q1 q2 q3
  exact ⟨⟨h2, h3⟩, h4⟩
theorem Own.rowBy {fr al : Nat → Prop} {w0 w : World} {L : List It} (st : Own fr al w0 L w) {i : Nat} {a : Option Addr} {n c : Nat} {xs : List UInt8} (hi : L[i]? = some (rowI 5 1 (.slice a n c) n (xs.map B))) : (n ≤ c ∧ c ≤ maxLen) ∧ By w a n xs := by
  obtain ⟨a', m, c', hv, h2, h3, h4⟩ := own_by (st.row hi)
  injection hv with q1 q2 q3
  subst q1 q2 q3
  exact ⟨⟨h2, h3⟩, h4⟩
theorem Own.rowFl3 {α : Type} [Flt α] {fr al : Nat → Prop} {w0 w : World} {L : List It} (st : Own fr al w0 L w) {i n c : Nat} {a : Option Addr} {E : TypeId} {xs : List α} (hi : L[i]? = some (rowI E (Flt.k α) (.slice a n c) n (cellsL xs))) : (n ≤ c ∧ c ≤ maxLen) ∧ Fl w a n xs := by
  obtain ⟨a1, c1, hv, hc1, hfl⟩ := st.rowFl hi
  injection hv with hv1 _ hv3
  subst hv1 hv3
  exact ⟨hc1, hfl⟩
set_option maxRecDepth 100000 in
set_option maxHeartbeats 1000000 in
theorem credBytes_f (x : CredT) (W : World) (hl : CredL 100000 x) :
    Calls Try.prog 119 #[cV x] W fun e w' => ∃ a n c, e = .returned (.slice a n c) ∧ FreshI W w' (rowI 5 1 (.slice a n c) n ((credBy x).map B)) := by
  have HR := Lib.hid (fun W => credRight_any x W (by unfold CredL at hl; omega))
  have HE := Lib.hid (show credBy x = if credR x = true then credB x else [] from rfl)
  generalize credBy x = r at *
  cases hr : credR x with
  | false =>
    have H := Lib.hid hr
    obtain ⟨k, ⟨ho, hd⟩, nw, ⟨bo, bd⟩, ⟨co, cd⟩, we⟩ := x
    clear hl hr
    have st := Own.startOld W
    unfold cV S at *
    simp only at HR
    (try simp only [nsl, Value.cells, unB] at st)
    (try clear hc); have hc := st.facts; (try simp only [nfl, nft, Nat.reduceAdd] at hc)
    go_enter Try.func119, Try.ntmps119
    go_wp2_with ((((with_reducible refine wl_box ?_ (fun K hK => ?_)); rfl; refine owp_box (o := ⟨some 1, _, _, _, _, _⟩) rfl st ?_; apply Exists.intro; refine ⟨?_, ?_⟩; (focus (go_simp; try rfl)); (clear st; intro b1 w hb st; clear hb))); (try simp only [nsl, Value.cells, unB] at st); (try clear hc); have hc := st.facts; (try simp only [nfl, nft, Nat.reduceAdd] at hc))
    refine (HR.out _).mono ?_
    rintro en w ⟨rfl, hx⟩
    replace st := st.ext hx
    clear hx
    (try clear hc); have hc := st.facts; (try simp only [nfl, nft, Nat.reduceAdd] at hc)
    rw [H.out]
    go_wp2_with fail
    go_ret
    exact ⟨none, 0, 0, rfl, by rw [HE.out, H.out]; exact (st.row_nil 5 1).toFresh (i := 2) get2⟩
  | true =>
    obtain ⟨hh, hcs⟩ := credR_cases hr
    have H := Lib.hid hr
    obtain ⟨k, ⟨ho, hd⟩, nw, ⟨bo, bd⟩, ⟨co, cd⟩, we⟩ := x
    simp only at hh hcs
    have hb1 := roleB_len hh
    have HH := Lib.hid hh
    clear hl hr hh
    have st := Own.startOld W
    unfold cV S at *
    simp only at HR
    (try simp only [nsl, Value.cells, unB] at st)
    (try clear hc); have hc := st.facts; (try simp only [nfl, nft, Nat.reduceAdd] at hc)
    rcases hcs with ⟨rfl, hw, -, -, -⟩ | ⟨-, hbr, ⟨rfl, -, -⟩ | ⟨rfl, -, -, he⟩ | ⟨rfl, -, hcr, -⟩⟩
    · have hl2 := (nameR_len hw).2
      have hb2 : (numB nw.length).length ≤ 10 := numF_len 10 nw.length
      have hnk : (numB 1).length = 1 := by decide +kernel
      have HW := Lib.hid hw
      clear hw
      go_enter Try.func119, Try.ntmps119
      go_wp2_with ((((with_reducible refine wl_box ?_ (fun K hK => ?_)); rfl; refine owp_box (o := ⟨some 1, _, _, _, _, _⟩) rfl st ?_; apply Exists.intro; refine ⟨?_, ?_⟩; (focus (go_simp; try rfl)); (clear st; intro b1 w hb st; clear hb))); (try simp only [nsl, Value.cells, unB] at st); (try clear hc); have hc := st.facts; (try simp only [nfl, nft, Nat.reduceAdd] at hc))
      refine (HR.out _).mono ?_
      rintro en w ⟨rfl, hx⟩
      replace st := st.ext hx
      clear hx
      (try clear hc); have hc := st.facts; (try simp only [nfl, nft, Nat.reduceAdd] at hc)
      rw [H.out]
      go_wp2_with ((((with_reducible refine wl_box ?_ (fun K hK => ?_)); rfl; refine owp_box (o := ⟨some 8, _, _, _, _, _⟩) rfl st ?_; apply Exists.intro; refine ⟨?_, ?_⟩; (focus (go_simp; try rfl)); (clear st; intro b8 w hb st; clear hb))); (try simp only [nsl, Value.cells, unB] at st); (try clear hc); have hc := st.facts; (try simp only [nfl, nft, Nat.reduceAdd] at hc))
      replace st := st.newPen (i := 2) get2
      (try simp only [nsl, Value.cells, unB] at st)
      (try clear hc); have hc := st.facts; (try simp only [nfl, nft, Nat.reduceAdd] at hc)
      obtain ⟨fr', al', st', back⟩ := st.sub [2] (by decide) (by simp)
      (try simp only [nsl, Value.cells, unB] at st')
      refine (penNumber_c st' 1 (by decide) (by simp)).mono ?_
      clear st'
      rintro en w ⟨rfl, st'⟩
      replace st := back _ _ (by simp) st'
      clear back st'
      (try simp only [nsl, Value.cells, unB] at st)
      (try clear hc); have hc := st.facts; (try simp only [nfl, nft, Nat.reduceAdd] at hc)
      go_wp2_with fail
      (try rw [List.nil_append] at st)
      obtain ⟨fr', al', st', back⟩ := st.sub [2] (by decide) (by simp)
      (try simp only [nsl, Value.cells, unB] at st')
      refine (rolePut_yes st' (ho, hd) HH.out (by omega)).mono ?_
      clear st'
      rintro en w ⟨rfl, st'⟩
      replace st := back _ _ (by simp) st'
      clear back st'
      (try simp only [nsl, Value.cells, unB] at st)
      (try clear hc); have hc := st.facts; (try simp only [nfl, nft, Nat.reduceAdd] at hc)
      go_wp2_with fail
      obtain ⟨fr', al', st', back⟩ := st.sub [2] (by decide) (by simp)
      (try simp only [nsl, Value.cells, unB] at st')
      refine (namePut_yes st' nw HW.out (by simp; omega)).mono ?_
      clear st'
      rintro en w ⟨rfl, st'⟩
      replace st := back _ _ (by simp) st'
      clear back st'
      (try simp only [nsl, Value.cells, unB] at st)
      (try clear hc); have hc := st.facts; (try simp only [nfl, nft, Nat.reduceAdd] at hc)
      obtain ⟨u, hu⟩ : ∃ u, (numB 1 ++ roleB (ho, hd) ++ (numB nw.length ++ nw)) = u := ⟨_, rfl⟩
      rw [hu] at st
      have HU : Hid (r = u) := Lib.hid (by rw [HE.out, if_pos H.out, ← hu]; simp [credB])
      have hul : u.length ≤ 300 := by rw [← hu]; simp; omega
      clear hu
      go_wp2_with fail
      obtain ⟨fr', al', st', back⟩ := st.sub [2] (by decide) (by simp)
      (try simp only [nsl, Value.cells, unB] at st')
      refine (penBytesRow_c st' (by omega)).mono ?_
      clear st'
      rintro en w ⟨pa, pc, rfl, hpc, st'⟩
      replace st := back _ _ (by simp) st'
      clear back st'
      (try simp only [nsl, Value.cells, unB] at st)
      (try clear hc); have hc := st.facts; (try simp only [nfl, nft, Nat.reduceAdd] at hc)
      go_wp2_with fail
      go_ret
      exact ⟨_, _, _, rfl, by rw [HU.out]; exact st.toFresh (i := 3) get3⟩
    · have hb2 := roleB_len hbr
      have HW := Lib.hid hbr
      have hnk : (numB 2).length = 1 := by decide +kernel
      clear hbr
      go_enter Try.func119, Try.ntmps119
      go_wp2_with ((((with_reducible refine wl_box ?_ (fun K hK => ?_)); rfl; refine owp_box (o := ⟨some 1, _, _, _, _, _⟩) rfl st ?_; apply Exists.intro; refine ⟨?_, ?_⟩; (focus (go_simp; try rfl)); (clear st; intro b1 w hb st; clear hb))); (try simp only [nsl, Value.cells, unB] at st); (try clear hc); have hc := st.facts; (try simp only [nfl, nft, Nat.reduceAdd] at hc))
      refine (HR.out _).mono ?_
      rintro en w ⟨rfl, hx⟩
      replace st := st.ext hx
      clear hx
      (try clear hc); have hc := st.facts; (try simp only [nfl, nft, Nat.reduceAdd] at hc)
      rw [H.out]
      go_wp2_with ((((with_reducible refine wl_box ?_ (fun K hK => ?_)); rfl; refine owp_box (o := ⟨some 8, _, _, _, _, _⟩) rfl st ?_; apply Exists.intro; refine ⟨?_, ?_⟩; (focus (go_simp; try rfl)); (clear st; intro b8 w hb st; clear hb))); (try simp only [nsl, Value.cells, unB] at st); (try clear hc); have hc := st.facts; (try simp only [nfl, nft, Nat.reduceAdd] at hc))
      replace st := st.newPen (i := 2) get2
      (try simp only [nsl, Value.cells, unB] at st)
      (try clear hc); have hc := st.facts; (try simp only [nfl, nft, Nat.reduceAdd] at hc)
      obtain ⟨fr', al', st', back⟩ := st.sub [2] (by decide) (by simp)
      (try simp only [nsl, Value.cells, unB] at st')
      refine (penNumber_c st' 2 (by decide) (by simp)).mono ?_
      clear st'
      rintro en w ⟨rfl, st'⟩
      replace st := back _ _ (by simp) st'
      clear back st'
      (try simp only [nsl, Value.cells, unB] at st)
      (try clear hc); have hc := st.facts; (try simp only [nfl, nft, Nat.reduceAdd] at hc)
      go_wp2_with fail
      (try rw [List.nil_append] at st)
      obtain ⟨fr', al', st', back⟩ := st.sub [2] (by decide) (by simp)
      (try simp only [nsl, Value.cells, unB] at st')
      refine (rolePut_yes st' (ho, hd) HH.out (by omega)).mono ?_
      clear st'
      rintro en w ⟨rfl, st'⟩
      replace st := back _ _ (by simp) st'
      clear back st'
      (try simp only [nsl, Value.cells, unB] at st)
      (try clear hc); have hc := st.facts; (try simp only [nfl, nft, Nat.reduceAdd] at hc)
      go_wp2_with fail
      obtain ⟨fr', al', st', back⟩ := st.sub [2] (by decide) (by simp)
      (try simp only [nsl, Value.cells, unB] at st')
      refine (rolePut_yes st' (bo, bd) HW.out (by simp; omega)).mono ?_
      clear st'
      rintro en w ⟨rfl, st'⟩
      replace st := back _ _ (by simp) st'
      clear back st'
      (try simp only [nsl, Value.cells, unB] at st)
      (try clear hc); have hc := st.facts; (try simp only [nfl, nft, Nat.reduceAdd] at hc)
      obtain ⟨u, hu⟩ : ∃ u, (numB 2 ++ roleB (ho, hd) ++ roleB (bo, bd)) = u := ⟨_, rfl⟩
      rw [hu] at st
      have HU : Hid (r = u) := Lib.hid (by rw [HE.out, if_pos H.out, ← hu]; simp [credB])
      have hul : u.length ≤ 300 := by rw [← hu]; simp; omega
      clear hu
      go_wp2_with fail
      obtain ⟨fr', al', st', back⟩ := st.sub [2] (by decide) (by simp)
      (try simp only [nsl, Value.cells, unB] at st')
      refine (penBytesRow_c st' (by omega)).mono ?_
      clear st'
      rintro en w ⟨pa, pc, rfl, hpc, st'⟩
      replace st := back _ _ (by simp) st'
      clear back st'
      (try simp only [nsl, Value.cells, unB] at st)
      (try clear hc); have hc := st.facts; (try simp only [nfl, nft, Nat.reduceAdd] at hc)
      go_wp2_with fail
      go_ret
      exact ⟨_, _, _, rfl, by rw [HU.out]; exact st.toFresh (i := 3) get3⟩
    · have hb2 := roleB_len hbr
      have HW := Lib.hid hbr
      have HN := Lib.hid he
      have hl2 := (nameR_len he).2
      have hb3 : (numB we.length).length ≤ 10 := numF_len 10 we.length
      have hnk : (numB 3).length = 1 := by decide +kernel
      clear hbr he
      go_enter Try.func119, Try.ntmps119
      go_wp2_with ((((with_reducible refine wl_box ?_ (fun K hK => ?_)); rfl; refine owp_box (o := ⟨some 1, _, _, _, _, _⟩) rfl st ?_; apply Exists.intro; refine ⟨?_, ?_⟩; (focus (go_simp; try rfl)); (clear st; intro b1 w hb st; clear hb))); (try simp only [nsl, Value.cells, unB] at st); (try clear hc); have hc := st.facts; (try simp only [nfl, nft, Nat.reduceAdd] at hc))
      refine (HR.out _).mono ?_
      rintro en w ⟨rfl, hx⟩
      replace st := st.ext hx
      clear hx
      (try clear hc); have hc := st.facts; (try simp only [nfl, nft, Nat.reduceAdd] at hc)
      rw [H.out]
      go_wp2_with ((((with_reducible refine wl_box ?_ (fun K hK => ?_)); rfl; refine owp_box (o := ⟨some 8, _, _, _, _, _⟩) rfl st ?_; apply Exists.intro; refine ⟨?_, ?_⟩; (focus (go_simp; try rfl)); (clear st; intro b8 w hb st; clear hb))); (try simp only [nsl, Value.cells, unB] at st); (try clear hc); have hc := st.facts; (try simp only [nfl, nft, Nat.reduceAdd] at hc))
      replace st := st.newPen (i := 2) get2
      (try simp only [nsl, Value.cells, unB] at st)
      (try clear hc); have hc := st.facts; (try simp only [nfl, nft, Nat.reduceAdd] at hc)
      obtain ⟨fr', al', st', back⟩ := st.sub [2] (by decide) (by simp)
      (try simp only [nsl, Value.cells, unB] at st')
      refine (penNumber_c st' 3 (by decide) (by simp)).mono ?_
      clear st'
      rintro en w ⟨rfl, st'⟩
      replace st := back _ _ (by simp) st'
      clear back st'
      (try simp only [nsl, Value.cells, unB] at st)
      (try clear hc); have hc := st.facts; (try simp only [nfl, nft, Nat.reduceAdd] at hc)
      go_wp2_with fail
      (try rw [List.nil_append] at st)
      obtain ⟨fr', al', st', back⟩ := st.sub [2] (by decide) (by simp)
      (try simp only [nsl, Value.cells, unB] at st')
      refine (rolePut_yes st' (ho, hd) HH.out (by omega)).mono ?_
      clear st'
      rintro en w ⟨rfl, st'⟩
      replace st := back _ _ (by simp) st'
      clear back st'
      (try simp only [nsl, Value.cells, unB] at st)
      (try clear hc); have hc := st.facts; (try simp only [nfl, nft, Nat.reduceAdd] at hc)
      go_wp2_with fail
      obtain ⟨fr', al', st', back⟩ := st.sub [2] (by decide) (by simp)
      (try simp only [nsl, Value.cells, unB] at st')
      refine (rolePut_yes st' (bo, bd) HW.out (by simp; omega)).mono ?_
      clear st'
      rintro en w ⟨rfl, st'⟩
      replace st := back _ _ (by simp) st'
      clear back st'
      (try simp only [nsl, Value.cells, unB] at st)
      (try clear hc); have hc := st.facts; (try simp only [nfl, nft, Nat.reduceAdd] at hc)
      go_wp2_with fail
      obtain ⟨fr', al', st', back⟩ := st.sub [2] (by decide) (by simp)
      (try simp only [nsl, Value.cells, unB] at st')
      refine (namePut_yes st' we HN.out (by simp; omega)).mono ?_
      clear st'
      rintro en w ⟨rfl, st'⟩
      replace st := back _ _ (by simp) st'
      clear back st'
      (try simp only [nsl, Value.cells, unB] at st)
      (try clear hc); have hc := st.facts; (try simp only [nfl, nft, Nat.reduceAdd] at hc)
      obtain ⟨u, hu⟩ : ∃ u, (numB 3 ++ roleB (ho, hd) ++ roleB (bo, bd) ++ (numB we.length ++ we)) = u := ⟨_, rfl⟩
      rw [hu] at st
      have HU : Hid (r = u) := Lib.hid (by rw [HE.out, if_pos H.out, ← hu]; simp [credB])
      have hul : u.length ≤ 300 := by rw [← hu]; simp; omega
      clear hu
      go_wp2_with fail
      obtain ⟨fr', al', st', back⟩ := st.sub [2] (by decide) (by simp)
      (try simp only [nsl, Value.cells, unB] at st')
      refine (penBytesRow_c st' (by omega)).mono ?_
      clear st'
      rintro en w ⟨pa, pc, rfl, hpc, st'⟩
      replace st := back _ _ (by simp) st'
      clear back st'
      (try simp only [nsl, Value.cells, unB] at st)
      (try clear hc); have hc := st.facts; (try simp only [nfl, nft, Nat.reduceAdd] at hc)
      go_wp2_with fail
      go_ret
      exact ⟨_, _, _, rfl, by rw [HU.out]; exact st.toFresh (i := 3) get3⟩
    · have hb2 := roleB_len hbr
      have hb3 := roleB_len hcr
      have HW := Lib.hid hbr
      have HN := Lib.hid hcr
      have hnk : (numB 4).length = 1 := by decide +kernel
      clear hbr hcr
      go_enter Try.func119, Try.ntmps119
      go_wp2_with ((((with_reducible refine wl_box ?_ (fun K hK => ?_)); rfl; refine owp_box (o := ⟨some 1, _, _, _, _, _⟩) rfl st ?_; apply Exists.intro; refine ⟨?_, ?_⟩; (focus (go_simp; try rfl)); (clear st; intro b1 w hb st; clear hb))); (try simp only [nsl, Value.cells, unB] at st); (try clear hc); have hc := st.facts; (try simp only [nfl, nft, Nat.reduceAdd] at hc))
      refine (HR.out _).mono ?_
      rintro en w ⟨rfl, hx⟩
      replace st := st.ext hx
      clear hx
      (try clear hc); have hc := st.facts; (try simp only [nfl, nft, Nat.reduceAdd] at hc)
      rw [H.out]
      go_wp2_with ((((with_reducible refine wl_box ?_ (fun K hK => ?_)); rfl; refine owp_box (o := ⟨some 8, _, _, _, _, _⟩) rfl st ?_; apply Exists.intro; refine ⟨?_, ?_⟩; (focus (go_simp; try rfl)); (clear st; intro b8 w hb st; clear hb))); (try simp only [nsl, Value.cells, unB] at st); (try clear hc); have hc := st.facts; (try simp only [nfl, nft, Nat.reduceAdd] at hc))
      replace st := st.newPen (i := 2) get2
      (try simp only [nsl, Value.cells, unB] at st)
      (try clear hc); have hc := st.facts; (try simp only [nfl, nft, Nat.reduceAdd] at hc)
      obtain ⟨fr', al', st', back⟩ := st.sub [2] (by decide) (by simp)
      (try simp only [nsl, Value.cells, unB] at st')
      refine (penNumber_c st' 4 (by decide) (by simp)).mono ?_
      clear st'
      rintro en w ⟨rfl, st'⟩
      replace st := back _ _ (by simp) st'
      clear back st'
      (try simp only [nsl, Value.cells, unB] at st)
      (try clear hc); have hc := st.facts; (try simp only [nfl, nft, Nat.reduceAdd] at hc)
      go_wp2_with fail
      (try rw [List.nil_append] at st)
      obtain ⟨fr', al', st', back⟩ := st.sub [2] (by decide) (by simp)
      (try simp only [nsl, Value.cells, unB] at st')
      refine (rolePut_yes st' (ho, hd) HH.out (by omega)).mono ?_
      clear st'
      rintro en w ⟨rfl, st'⟩
      replace st := back _ _ (by simp) st'
      clear back st'
      (try simp only [nsl, Value.cells, unB] at st)
      (try clear hc); have hc := st.facts; (try simp only [nfl, nft, Nat.reduceAdd] at hc)
      go_wp2_with fail
      obtain ⟨fr', al', st', back⟩ := st.sub [2] (by decide) (by simp)
      (try simp only [nsl, Value.cells, unB] at st')
      refine (rolePut_yes st' (bo, bd) HW.out (by simp; omega)).mono ?_
      clear st'
      rintro en w ⟨rfl, st'⟩
      replace st := back _ _ (by simp) st'
      clear back st'
      (try simp only [nsl, Value.cells, unB] at st)
      (try clear hc); have hc := st.facts; (try simp only [nfl, nft, Nat.reduceAdd] at hc)
      go_wp2_with fail
      obtain ⟨fr', al', st', back⟩ := st.sub [2] (by decide) (by simp)
      (try simp only [nsl, Value.cells, unB] at st')
      refine (rolePut_yes st' (co, cd) HN.out (by simp; omega)).mono ?_
      clear st'
      rintro en w ⟨rfl, st'⟩
      replace st := back _ _ (by simp) st'
      clear back st'
      (try simp only [nsl, Value.cells, unB] at st)
      (try clear hc); have hc := st.facts; (try simp only [nfl, nft, Nat.reduceAdd] at hc)
      obtain ⟨u, hu⟩ : ∃ u, (numB 4 ++ roleB (ho, hd) ++ roleB (bo, bd) ++ roleB (co, cd)) = u := ⟨_, rfl⟩
      rw [hu] at st
      have HU : Hid (r = u) := Lib.hid (by rw [HE.out, if_pos H.out, ← hu]; simp [credB])
      have hul : u.length ≤ 300 := by rw [← hu]; simp; omega
      clear hu
      go_wp2_with fail
      obtain ⟨fr', al', st', back⟩ := st.sub [2] (by decide) (by simp)
      (try simp only [nsl, Value.cells, unB] at st')
      refine (penBytesRow_c st' (by omega)).mono ?_
      clear st'
      rintro en w ⟨pa, pc, rfl, hpc, st'⟩
      replace st := back _ _ (by simp) st'
      clear back st'
      (try simp only [nsl, Value.cells, unB] at st)
      (try clear hc); have hc := st.facts; (try simp only [nfl, nft, Nat.reduceAdd] at hc)
      go_wp2_with fail
      go_ret
      exact ⟨_, _, _, rfl, by rw [HU.out]; exact st.toFresh (i := 3) get3⟩
end Go.Proofs.Ytekngjkjgmplpaa

namespace Go.Proofs.Ytekngjkjgmplpaa
set_option linter.unusedSimpArgs false
set_option linter.unusedVariables false
open Go Go.RowKit
def sgB (x : SgnT) : List UInt8 := credB x.c ++ (numB x.n ++ x.xs)
def mgB (x : MsgT) : List UInt8 := numB x.k.toNat ++
  (if x.k = 1 then (numB x.nm.length ++ x.nm) ++ numB x.p.toNat else if x.k = 2 then numB x.wn ++ x.ws.flatMap roleB ++ numB x.sn ++ x.ss.flatMap sgB else if x.k = 5 then numB x.e.toNat else [])
/-- The bytes of any message. -/
def mgBy (x : MsgT) : List UInt8 := if mgR x = true then mgB x else []
theorem sgB_len {x : SgnT} (h : credR x.c = true) (hn : x.n = 8) (hx : x.n = x.xs.length) : (sgB x).length ≤ 400 := by
  have h1 := credB_len2 h
  have h2 : (numB x.n).length ≤ 10 := numF_len 10 x.n
  unfold sgB
  simp only [List.length_append]
  omega
theorem showsR_is {l : List SgnT} (h : showsR l = true) : l.length ≤ 8 ∧ ∀ x ∈ l, credR x.c = true ∧ x.n = 8 := by
  unfold showsR at h
  rw [Bool.and_eq_true, decide_eq_true_eq, List.all_eq_true] at h
  refine ⟨h.2, fun x hx => ?_⟩
  obtain ⟨j, hj, rfl⟩ := List.mem_iff_getElem.1 hx
  have := h.1 j (by simpa using hj)
  unfold shAt at this
  rw [List.getElem?_eq_getElem hj] at this
  simp only [Bool.and_eq_true, beq_iff_eq] at this
  exact ⟨this.1.1, this.1.2⟩
theorem wantsR_is {l : List Role} (h : wantsR l = true) : l.length ≤ 16 ∧ ∀ x ∈ l, roleR x = true := by
  unfold wantsR at h
  rw [Bool.and_eq_true, decide_eq_true_eq, decide_eq_true_eq] at h
  refine ⟨h.1, fun x hx => ?_⟩
  rw [← h.2] at hx
  exact ((roleSet_set l).2 x).1 hx |>.2
theorem mgR_k {x : MsgT} (h : mgR x = true) : kindR x = true ∧ (x.k = 1 ∨ x.k = 2 ∨ x.k = 3 ∨ x.k = 4 ∨ x.k = 5) := by
  unfold mgR at h
  rw [Bool.and_eq_true] at h
  refine ⟨h.2, ?_⟩
  have h2 := h.2
  unfold kindR at h2
  split at h2
  · exact .inl (by assumption)
  · split at h2
    · exact .inr (.inl (by assumption))
    · split at h2
      · exact .inr (.inr (.inr (.inr (by assumption))))
      · simp at h2
        rcases h2 with q | q
        · exact .inr (.inr (.inl q))
        · exact .inr (.inr (.inr (.inl q)))
theorem mgR_1 {x : MsgT} (h : mgR x = true) (k : x.k = 1) : nameR x.nm = true ∧ (x.p = 1 ∨ x.p = 2) := by
  have := (mgR_k h).1
  unfold kindR at this
  rw [if_pos k] at this
  simpa using this
theorem mgR_2 {x : MsgT} (h : mgR x = true) (k : x.k = 2) : wantsR x.ws = true ∧ showsR x.ss = true := by
  have := (mgR_k h).1
  unfold kindR at this
  rw [if_neg (by omega), if_pos k] at this
  simpa using this
theorem mgR_5 {x : MsgT} (h : mgR x = true) (k : x.k = 5) : 1 ≤ x.e ∧ x.e ≤ 99 := by
  have := (mgR_k h).1
  unfold kindR at this
  rw [if_neg (by omega), if_neg (by omega), if_pos k] at this
  simpa using this
theorem flatLen {α : Type} (f : α → List UInt8) (n : Nat) : ∀ l : List α, (∀ x ∈ l, (f x).length ≤ n) → (l.flatMap f).length ≤ n * l.length
  | [], _ => by simp
  | x :: l, h => by
    have h1 := h x (by simp)
    have h2 := flatLen f n l fun y hy => h y (by simp [hy])
    simp only [List.flatMap_cons, List.length_append, List.length_cons, Nat.mul_add, Nat.mul_one]
    omega
set_option maxRecDepth 100000 in
set_option maxHeartbeats 2000000 in
theorem keysPut_yes {fr al : Nat → Prop} {W : World} {p : Nat} {xs : List UInt8} (x : SgnT) (st : Own fr al W [penI p xs, byI x.a x.n x.xs] W) (hr : credR x.c = true) (hn : x.n = 8) (hl : xs.length ≤ 1000000) :
    Calls Try.prog 146 #[.pointer (some ⟨p, 0, none⟩), sgV x] W fun e w' => e = .returned (.bool true) ∧ Own fr al W [penI p (xs ++ sgB x), byI x.a x.n x.xs] w' := by
  have hb1 := credB_len2 hr
  have HC1 : Hid (credBy x.c = credB x.c) := Lib.hid (by unfold credBy; rw [if_pos hr])
  have HQ := Lib.hid (fun W => credBytes_f x.c W (credR_L hr))
  rw [HC1.out] at HQ
  have HCR := Lib.hid (fun W => credRight_any x.c W (credR_S hr))
  rw [hr] at HCR
  obtain ⟨u, hu⟩ : ∃ u, credB x.c = u := ⟨_, rfl⟩
  have HX : Hid (sgB x = u ++ (numB x.n ++ x.xs)) := Lib.hid (by rw [← hu]; rfl)
  rw [hu] at HQ hb1
  clear hu HC1 hr
  obtain ⟨⟨ck, ⟨ho, hd⟩, cw, ⟨bo, bd⟩, ⟨co, cd⟩, we⟩, a1, n1, m1, tg⟩ := x
  simp only at st hn HX
  subst hn
  unfold cV S at HQ HCR
  unfold sgV S
  simp only at HQ HCR ⊢
  (try simp only [nsl, Value.cells, unB] at st)
  (try clear hc); have hc := st.facts; (try simp only [nfl, nft, Nat.reduceAdd] at hc)
  go_enter Try.func146, Try.ntmps146
  go_wp2_with ((((with_reducible refine wl_box ?_ (fun K hK => ?_)); rfl; refine owp_box (o := ⟨some 3, _, _, _, _, _⟩) rfl st ?_; apply Exists.intro; refine ⟨?_, ?_⟩; (focus (go_simp; try rfl)); (clear st; intro b3 w hb st; clear hb))); (try simp only [nsl, Value.cells, unB] at st); (try clear hc); have hc := st.facts; (try simp only [nfl, nft, Nat.reduceAdd] at hc))
  refine (HCR.out _).mono ?_
  rintro en w ⟨rfl, hx⟩
  replace st := st.ext hx
  clear hx
  (try clear hc); have hc := st.facts; (try simp only [nfl, nft, Nat.reduceAdd] at hc)
  go_wp2_with fail
  refine (HQ.out _).mono ?_
  rintro en w ⟨pa, pn, pc, rfl, hfr⟩
  have hpn : pn = u.length := (hfr.by).2.1
  subst hpn
  replace st := st.fresh hfr
  clear hfr
  (try simp only [nsl, Value.cells, unB] at st)
  (try clear hc); have hc := st.facts; (try simp only [nfl, nft, Nat.reduceAdd] at hc)
  replace st := st.freezeRow (i := 3) get3
  (try simp only [nsl, Value.cells, unB] at st)
  (try clear hc); have hc := st.facts; (try simp only [nfl, nft, Nat.reduceAdd] at hc)
  go_wp2_with fail
  obtain ⟨fr', al', st', back⟩ := st.sub [0, 3] (by decide) (by simp)
  (try simp only [nsl, Value.cells, unB] at st')
  refine (penRaw_c st' (by omega)).mono ?_
  clear st'
  rintro en w ⟨rfl, st'⟩
  replace st := back _ _ (by simp) st'
  clear back st'
  (try simp only [nsl, Value.cells, unB] at st)
  (try clear hc); have hc := st.facts; (try simp only [nfl, nft, Nat.reduceAdd] at hc)
  go_wp2_with fail
  obtain ⟨fr', al', st', back⟩ := st.sub [0, 1] (by decide) (by simp)
  (try simp only [nsl, Value.cells, unB] at st')
  refine (penText_c st' (by omega) (by simp; omega)).mono ?_
  clear st'
  rintro en w ⟨rfl, st'⟩
  replace st := back _ _ (by simp) st'
  clear back st'
  (try simp only [nsl, Value.cells, unB] at st)
  (try clear hc); have hc := st.facts; (try simp only [nfl, nft, Nat.reduceAdd] at hc)
  go_wp2_with fail
  go_ret
  have st' := st.keep [0, 1] (by decide) (by simp)
  exact ⟨rfl, by rw [HX.out]; simpa [pick] using st'⟩
theorem Own.oldMg {fr al : Nat → Prop} {w0 w W0 : World} {L : List It} (st : Own fr al w0 L w) {i : Nat} (hi : L[i]? = some (oldI W0)) {x : MsgT} (h : MgOk W0 x) : MgOk w x :=
  ⟨⟨h.1.1, st.oldFl hi h.1.2⟩, ⟨h.2.1.1, st.oldFl hi h.2.1.2⟩, fun y hy => ⟨(h.2.2 y hy).1, st.oldBy hi (h.2.2 y hy).2⟩⟩
set_option maxRecDepth 100000 in
set_option maxHeartbeats 8000000 in
theorem msgPut_yes {fr al : Nat → Prop} {W W0 : World} {p : Nat} {xs : List UInt8} (x : MsgT) (st : Own fr al W [penI p xs, oldI W0] W) (hx0 : MgOk W0 x) (lx : MgL x) (hr : mgR x = true) (hl : xs.length ≤ 100000) :
    Calls Try.prog 72 #[.pointer (some ⟨p, 0, none⟩), mgV x] W fun e w' => e = .returned (.bool true) ∧ Own fr al W [penI p (xs ++ mgB x), oldI W0] w' := by
  have HMR := Lib.hid (fun W' (h : MgOk W' x) => msgRight_any x W' h lx)
  rw [hr] at HMR
  have hk := (mgR_k hr).2
  have HX0 := Lib.hid hx0
  have HX := Lib.hid hx0
  have HB : Hid (mgB x = numB x.k.toNat ++
    (if x.k = 1 then (numB x.nm.length ++ x.nm) ++ numB x.p.toNat else if x.k = 2 then numB x.wn ++ x.ws.flatMap roleB ++ numB x.sn ++ x.ss.flatMap sgB else if x.k = 5 then numB x.e.toNat else [])) := Lib.hid rfl
  have H1 := Lib.hid (mgR_1 hr)
  have H2 := Lib.hid (fun q => (And.intro (wantsR_is (mgR_2 hr q).1) (showsR_is (mgR_2 hr q).2)))
  have H5 := Lib.hid (mgR_5 hr)
  have lnm := lx.2.2.1
  clear hx0 lx hr
  obtain ⟨k, pl, e, nm, wa, wn, wc, ws, sa, sn, sc, ss⟩ := x
  simp only at hk HB H1 H2 H5 lnm
  unfold mgV S at HMR
  unfold MgOk at HX
  simp only at HX
  unfold mgV S
  (try simp only [nsl, Value.cells, unB] at st)
  (try clear hc); have hc := st.facts; (try simp only [nfl, nft, Nat.reduceAdd] at hc)
  rcases hk with rfl | rfl | rfl | rfl | rfl
  · obtain ⟨hn1, hp1⟩ := H1.out rfl
    obtain ⟨pn, rfl⟩ : ∃ q : Nat, pl = (q : Int) := ⟨pl.toNat, by omega⟩
    have HN1 := Lib.hid hn1
    have hl3 := (nameR_len hn1).2
    have hb3 : (numB nm.length).length ≤ 10 := numF_len 10 nm.length
    have hb1 : (numB 1).length ≤ 10 := numF_len 10 1
    have HF : Hid (mgB { k := 1, p := (pn : Int), e := e, nm := nm, wa := wa, wn := wn, wc := wc, ws := ws, sa := sa, sn := sn, sc := sc, ss := ss } = numB 1 ++ (numB nm.length ++ nm) ++ numB pn) := Lib.hid (by rw [HB.out, if_pos rfl]; simp)
    have hpn : pn ≤ 2 := by omega
    clear hn1 hp1 HB H1 H2 H5
    go_enter Try.func72, Try.ntmps72
    go_wp2_with ((((with_reducible refine wl_box ?_ (fun K hK => ?_)); rfl; refine owp_box (o := ⟨some 3, _, _, _, _, _⟩) rfl st ?_; apply Exists.intro; refine ⟨?_, ?_⟩; (focus (go_simp; try rfl)); (clear st; intro b3 w hb st; clear hb))); (try simp only [nsl, Value.cells, unB] at st); (try clear hc); have hc := st.facts; (try simp only [nfl, nft, Nat.reduceAdd] at hc))
    refine (HMR.out _ (st.oldMg (i := 1) get1 HX0.out)).mono ?_
    rintro en w ⟨rfl, hx⟩
    replace st := st.ext hx
    clear hx
    (try simp only [nsl, Value.cells, unB] at st)
    (try clear hc); have hc := st.facts; (try simp only [nfl, nft, Nat.reduceAdd] at hc)
    go_wp2_with fail
    obtain ⟨fr', al', st', back⟩ := st.sub [0] (by decide) (by simp)
    (try simp only [nsl, Value.cells, unB] at st')
    refine (penNumber_c st' 1 (by decide) (by omega)).mono ?_
    clear st'
    rintro en w ⟨rfl, st'⟩
    replace st := back _ _ (by simp) st'
    clear back st'
    (try simp only [nsl, Value.cells, unB] at st)
    (try clear hc); have hc := st.facts; (try simp only [nfl, nft, Nat.reduceAdd] at hc)
    go_wp2_with fail
    obtain ⟨fr', al', st', back⟩ := st.sub [0] (by decide) (by simp)
    (try simp only [nsl, Value.cells, unB] at st')
    refine (namePut_yes st' nm HN1.out (by simp; omega)).mono ?_
    clear st'
    rintro en w ⟨rfl, st'⟩
    replace st := back _ _ (by simp) st'
    clear back st'
    (try simp only [nsl, Value.cells, unB] at st)
    (try clear hc); have hc := st.facts; (try simp only [nfl, nft, Nat.reduceAdd] at hc)
    go_wp2_with fail
    obtain ⟨fr', al', st', back⟩ := st.sub [0] (by decide) (by simp)
    (try simp only [nsl, Value.cells, unB] at st')
    refine (penNumber_c st' pn (by omega) (by simp; omega)).mono ?_
    clear st'
    rintro en w ⟨rfl, st'⟩
    replace st := back _ _ (by simp) st'
    clear back st'
    (try simp only [nsl, Value.cells, unB] at st)
    (try clear hc); have hc := st.facts; (try simp only [nfl, nft, Nat.reduceAdd] at hc)
    go_wp2_with fail
    go_ret
    have st' := st.keep [0, 1] (by decide) (by simp)
    exact ⟨rfl, by rw [HF.out]; simpa [pick] using st'⟩
  · obtain ⟨⟨hwl, hwr⟩, hsl, hsr⟩ := H2.out rfl
    have HF : Hid (mgB { k := 2, p := pl, e := e, nm := nm, wa := wa, wn := wn, wc := wc, ws := ws, sa := sa, sn := sn, sc := sc, ss := ss } = numB 2 ++ (numB wn ++ ws.flatMap roleB ++ numB sn ++ ss.flatMap sgB)) := Lib.hid (by rw [HB.out, if_neg (by decide), if_pos rfl]; rfl)
    have hw1 : wn = ws.length := HX.out.1.2.1
    have hs1 : sn = ss.length := HX.out.2.1.2.1
    have HWR := Lib.hid (And.intro hwr hw1)
    have HSR := Lib.hid (And.intro hsr hs1)
    have hwn : wn ≤ 16 := by omega
    have hsn : sn ≤ 8 := by omega
    have hb1 : (numB 2).length ≤ 10 := numF_len 10 2
    have hb2 : (numB wn).length ≤ 10 := numF_len 10 wn
    have hb3 : (numB sn).length ≤ 10 := numF_len 10 sn
    clear hwl hwr hsl hsr HB H1 H2 H5 hw1 hs1
    go_enter Try.func72, Try.ntmps72
    go_wp2_with ((((with_reducible refine wl_box ?_ (fun K hK => ?_)); rfl; refine owp_box (o := ⟨some 3, _, _, _, _, _⟩) rfl st ?_; apply Exists.intro; refine ⟨?_, ?_⟩; (focus (go_simp; try rfl)); (clear st; intro b3 w hb st; clear hb))); (try simp only [nsl, Value.cells, unB] at st); (try clear hc); have hc := st.facts; (try simp only [nfl, nft, Nat.reduceAdd] at hc))
    refine (HMR.out _ (st.oldMg (i := 1) get1 HX0.out)).mono ?_
    rintro en w ⟨rfl, hx⟩
    replace st := st.ext hx
    clear hx
    (try simp only [nsl, Value.cells, unB] at st)
    (try clear hc); have hc := st.facts; (try simp only [nfl, nft, Nat.reduceAdd] at hc)
    go_wp2_with fail
    obtain ⟨fr', al', st', back⟩ := st.sub [0] (by decide) (by simp)
    (try simp only [nsl, Value.cells, unB] at st')
    refine (penNumber_c st' 2 (by decide) (by omega)).mono ?_
    clear st'
    rintro en w ⟨rfl, st'⟩
    replace st := back _ _ (by simp) st'
    clear back st'
    (try simp only [nsl, Value.cells, unB] at st)
    (try clear hc); have hc := st.facts; (try simp only [nfl, nft, Nat.reduceAdd] at hc)
    go_wp2_with fail
    obtain ⟨fr', al', st', back⟩ := st.sub [0] (by decide) (by simp)
    (try simp only [nsl, Value.cells, unB] at st')
    refine (penNumber_c st' wn (by omega) (by simp; omega)).mono ?_
    clear st'
    rintro en w ⟨rfl, st'⟩
    replace st := back _ _ (by simp) st'
    clear back st'
    (try simp only [nsl, Value.cells, unB] at st)
    (try clear hc); have hc := st.facts; (try simp only [nfl, nft, Nat.reduceAdd] at hc)
    go_wp2_with fail
    obtain ⟨y0, hy0⟩ : ∃ y, xs ++ numB 2 ++ numB wn = y := ⟨_, rfl⟩
    have hyl : y0.length ≤ 100020 := by rw [← hy0]; simp; omega
    rw [hy0] at st
    have HY0 := Lib.hid hy0
    clear hy0
    go_loopg [42] wn (fun kk i wr => ∃ (j m : Nat) (ys : List UInt8), j ≤ wn ∧ kk = wn - j ∧ i = .int .i64 (j : Int) ∧ Hid (ys = y0 ++ (ws.take j).flatMap roleB) ∧ Hid (m = ys.length) ∧ m ≤ 100020 + 100 * j ∧ Own fr al W [penI p ys, oldI W0, blkI b3 [.int .i64 2, .int .i64 pl, .int .i64 e, .string ⟨nm.toArray⟩, .slice wa wn wc, .slice sa sn sc]] wr)
    case atStart => exact ⟨0, _, y0, by omega, by omega, rfl, Lib.hid (by simp), Lib.hid rfl, by omega, st⟩
    case round =>
      obtain ⟨j, m, ys, hj, rfl, rfl, HY, HM, hm, st'⟩ := hrel
      clear st hc
      have st := st'
      clear st'
      (try simp only [nsl, Value.cells, unB] at st)
      (try clear hc); have hc := st.facts; (try simp only [nfl, nft, Nat.reduceAdd] at hc)
      by_cases hjn : j < wn
      · obtain ⟨b, off, ha, hcell⟩ := HX.out.1.2.role (by omega)
        have hjl : j < ws.length := by have := HWR.out.2; omega
        obtain ⟨r0, r1⟩ := hcell j ws[j] (List.getElem?_eq_getElem hjl)
        replace r0 := st.oldCell (i := 1) get1 r0
        replace r1 := st.oldCell (i := 1) get1 r1
        have hts : ws.take (j + 1) = ws.take j ++ [ws[j]] := (List.take_append_getElem hjl).symm
        have hR := HWR.out.1 ws[j] (List.getElem_mem hjl)
        have hbl := roleB_len hR
        clear hcell
        generalize ws[j] = x at *
        obtain ⟨ro, rd⟩ := x
        have HX2 := Lib.hid (And.intro hts hR)
        clear hts hR hjl
        subst ha
        simp only at r0 r1
        unfold S at r0 r1
        have hml : ys.length ≤ 100020 + 100 * j := by have := HM.out; omega
        go_wp2_with ((first
              | ((with_reducible refine wl_alloc ?_ (fun K hK => ?_)); rfl; refine owp_alloc (o := ⟨some 6, _, _, _, _, _⟩) rfl st ?_; apply Exists.intro; apply Exists.intro; refine ⟨?_, ?_⟩; (focus (first | (go_simp; done) | (go_simp; rfl))); (clear st; intro b6 w hb st; clear hb))
              | ((with_reducible refine wl_store ?_ (fun K hK => ?_)); rfl; refine owp_store rfl st ?_; apply Exists.intro; apply Exists.intro; refine ⟨?_, ?_, ?_⟩; (focus (go_simp; try rfl)); (focus (go_simp; try rfl)); (with_reducible refine ⟨3, _, _, _, _, get3, rfl, rfl, ?_, ?_, ?_, ?_⟩); (kernel_rfl); (simp [Value.cells]); (rfl); (clear st; intro w st))); (try simp only [nsl, Value.cells, unB] at st); (try clear hc); have hc := st.facts; (try simp only [nfl, nft, Nat.reduceAdd] at hc))
        obtain ⟨fr', al', st', back⟩ := st.sub [0] (by decide) (by simp)
        (try simp only [nsl, Value.cells, unB] at st')
        refine (rolePut_yes st' (ro, rd) HX2.out.2 (by omega)).mono ?_
        clear st'
        rintro en w ⟨rfl, st'⟩
        replace st := back _ _ (by simp) st'
        clear back st'
        (try simp only [nsl, Value.cells, unB] at st)
        (try clear hc); have hc := st.facts; (try simp only [nfl, nft, Nat.reduceAdd] at hc)
        go_wp2_with fail
        have st' := st.keep [0, 1, 2] (by decide) (by simp)
        go_roundg (wn - (j + 1))
        case measure => omega
        case rel => exact ⟨j + 1, _, ys ++ roleB (ro, rd), by omega, by omega, by go_num, Lib.hid (by rw [HX2.out.1, List.flatMap_append, ← List.append_assoc, ← HY.out]; simp), Lib.hid rfl, by simp; omega, by simpa [pick] using st'⟩
      · obtain rfl : j = wn := by omega
        have HF2 : Hid (mgB { k := 2, p := pl, e := e, nm := nm, wa := wa, wn := j, wc := wc, ws := ws, sa := sa, sn := sn, sc := sc, ss := ss } = numB 2 ++ (numB j ++ ws.flatMap roleB ++ numB sn ++ ss.flatMap sgB)) := Lib.hid HF.out
        have HYE : Hid (xs ++ numB 2 ++ numB j ++ ws.flatMap roleB = ys) := Lib.hid (by rw [HY.out, HY0.out, List.take_of_length_le (by have := HWR.out.2; omega)])
        have hml : ys.length ≤ 102000 := by have := HM.out; omega
        clear HY HM hm HY0
        go_wp2_with fail
        obtain ⟨fr', al', st', back⟩ := st.sub [0] (by decide) (by simp)
        (try simp only [nsl, Value.cells, unB] at st')
        refine (penNumber_c st' sn (by omega) (by omega)).mono ?_
        clear st'
        rintro en w ⟨rfl, st'⟩
        replace st := back _ _ (by simp) st'
        clear back st'
        (try simp only [nsl, Value.cells, unB] at st)
        (try clear hc); have hc := st.facts; (try simp only [nfl, nft, Nat.reduceAdd] at hc)
        go_wp2_with fail
        obtain ⟨z0, hz0⟩ : ∃ z, ys ++ numB sn = z := ⟨_, rfl⟩
        have hzl : z0.length ≤ 102010 := by rw [← hz0]; simp; omega
        rw [hz0] at st
        have HZ0 := Lib.hid hz0
        clear hz0
        go_loopg [58] sn (fun kk i wr => ∃ (q m : Nat) (zs : List UInt8), q ≤ sn ∧ kk = sn - q ∧ i = .int .i64 (q : Int) ∧ Hid (zs = z0 ++ (ss.take q).flatMap sgB) ∧ Hid (m = zs.length) ∧ m ≤ 102010 + 400 * q ∧ Own fr al W [penI p zs, oldI W0, blkI b3 [.int .i64 2, .int .i64 pl, .int .i64 e, .string ⟨nm.toArray⟩, .slice wa j wc, .slice sa sn sc]] wr)
        case atStart => exact ⟨0, _, z0, by omega, by omega, rfl, Lib.hid (by simp), Lib.hid rfl, by omega, st⟩
        case round =>
          obtain ⟨q, m, zs, hq, rfl, rfl, HZ, HM, hm, st'⟩ := hrel
          clear st hc
          have st := st'
          clear st'
          (try simp only [nsl, Value.cells, unB] at st)
          (try clear hc); have hc := st.facts; (try simp only [nfl, nft, Nat.reduceAdd] at hc)
          by_cases hqn : q < sn
          · obtain ⟨b, off, ha, hcell⟩ := HX.out.2.1.2.sgn (by omega)
            have hql : q < ss.length := by have := HSR.out.2; omega
            obtain ⟨r0, r1, r2, r3, r4, r5, r6, r7, r8, r9⟩ := hcell q ss[q] (List.getElem?_eq_getElem hql)
            replace r0 := st.oldCell (i := 1) get1 r0
            replace r1 := st.oldCell (i := 1) get1 r1
            replace r2 := st.oldCell (i := 1) get1 r2
            replace r3 := st.oldCell (i := 1) get1 r3
            replace r4 := st.oldCell (i := 1) get1 r4
            replace r5 := st.oldCell (i := 1) get1 r5
            replace r6 := st.oldCell (i := 1) get1 r6
            replace r7 := st.oldCell (i := 1) get1 r7
            replace r8 := st.oldCell (i := 1) get1 r8
            replace r9 := st.oldCell (i := 1) get1 r9
            have hts : ss.take (q + 1) = ss.take q ++ [ss[q]] := (List.take_append_getElem hql).symm
            have hR := HSR.out.1 ss[q] (List.getElem_mem hql)
            have hSO := HX.out.2.2 ss[q] (List.getElem_mem hql)
            have hbl := sgB_len hR.1 hR.2 hSO.2.1
            replace st := st.addOldBy (i := 1) get1 hSO.2
            clear hcell
            generalize ss[q] = x at *
            have HX2 := Lib.hid (And.intro hts hR)
            have HKP := Lib.hid (fun (fr al : Nat → Prop) (W : World) (zs : List UInt8) (st : Own fr al W [penI p zs, byI x.a x.n x.xs] W) hl => keysPut_yes x st hR.1 hR.2 hl)
            obtain ⟨sb, hsb⟩ : ∃ s, sgB x = s := ⟨_, rfl⟩
            rw [hsb] at hbl HKP
            have HSB := Lib.hid hsb
            clear hts hR hql hSO hsb
            obtain ⟨⟨ck, ⟨ho, hd⟩, cw, ⟨bo, bd⟩, ⟨co, cd⟩, we⟩, a1, n1, m1, tg⟩ := x
            subst ha
            simp only at r0 r1 r2 r3 r4 r5 r6 r7 r8 r9
            unfold S at r1 r2 r3 r4 r5 r6 r7 r8
            unfold sgV S at HKP
            simp only at HKP st
            have hml : zs.length ≤ 102010 + 400 * q := by have := HM.out; omega
            (try simp only [nsl, Value.cells, unB] at st)
            (try clear hc); have hc := st.facts; (try simp only [nfl, nft, Nat.reduceAdd] at hc)
            go_wp2_with ((first
                  | ((with_reducible refine wl_store ?_ (fun K hK => ?_)); rfl; refine owp_store rfl st ?_; apply Exists.intro; apply Exists.intro; refine ⟨?_, ?_, ?_⟩; (focus (go_simp; try rfl)); (focus (go_simp; try rfl)); (with_reducible refine ⟨4, _, _, _, _, get4, rfl, rfl, ?_, ?_, ?_, ?_⟩); (kernel_rfl); (simp [Value.cells]); (rfl); (clear st; intro w st))
                  | ((with_reducible refine wl_alloc ?_ (fun K hK => ?_)); rfl; refine owp_alloc (o := ⟨some 8, _, _, _, _, _⟩) rfl st ?_; apply Exists.intro; apply Exists.intro; refine ⟨?_, ?_⟩; (focus (first | (go_simp; done) | (go_simp; rfl))); (clear st; intro b8 w hb st; clear hb))); (try simp only [nsl, Value.cells, unB] at st); (try clear hc); have hc := st.facts; (try simp only [nfl, nft, Nat.reduceAdd] at hc))
            obtain ⟨fr', al', st', back⟩ := st.sub [0, 3] (by decide) (by simp)
            (try simp only [nsl, Value.cells, unB] at st')
            refine (HKP.out _ _ _ _ st' (by omega)).mono ?_
            clear st'
            rintro en w ⟨rfl, st'⟩
            replace st := back _ _ (by simp) st'
            clear back st'
            (try simp only [nsl, Value.cells, unB] at st)
            (try clear hc); have hc := st.facts; (try simp only [nfl, nft, Nat.reduceAdd] at hc)
            go_wp2_with fail
            have st' := st.keep [0, 1, 2] (by decide) (by simp)
            go_roundg (sn - (q + 1))
            case measure => omega
            case rel => exact ⟨q + 1, _, zs ++ sb, by omega, by omega, by go_num, Lib.hid (by rw [HX2.out.1, List.flatMap_append, ← List.append_assoc, ← HZ.out]; simp [HSB.out]), Lib.hid rfl, by simp; omega, by simpa [pick] using st'⟩
          · obtain rfl : q = sn := by omega
            have HFF : Hid (xs ++ mgB { k := 2, p := pl, e := e, nm := nm, wa := wa, wn := j, wc := wc, ws := ws, sa := sa, sn := q, sc := sc, ss := ss } = zs) := Lib.hid (by rw [HF2.out, HZ.out, ← HZ0.out, ← HYE.out, List.take_of_length_le (by have := HSR.out.2; omega)]; simp)
            rw [← HFF.out] at st
            go_wp2_with fail
            go_ret
            have st' := st.keep [0, 1] (by decide) (by simp)
            exact ⟨rfl, by simpa [pick] using st'⟩
  · have HF : Hid (mgB { k := 3, p := pl, e := e, nm := nm, wa := wa, wn := wn, wc := wc, ws := ws, sa := sa, sn := sn, sc := sc, ss := ss } = numB 3) := Lib.hid (by rw [HB.out, if_neg (by decide), if_neg (by decide), if_neg (by decide)]; simp)
    clear HB H1 H2 H5
    go_enter Try.func72, Try.ntmps72
    go_wp2_with ((((with_reducible refine wl_box ?_ (fun K hK => ?_)); rfl; refine owp_box (o := ⟨some 3, _, _, _, _, _⟩) rfl st ?_; apply Exists.intro; refine ⟨?_, ?_⟩; (focus (go_simp; try rfl)); (clear st; intro b3 w hb st; clear hb))); (try simp only [nsl, Value.cells, unB] at st); (try clear hc); have hc := st.facts; (try simp only [nfl, nft, Nat.reduceAdd] at hc))
    refine (HMR.out _ (st.oldMg (i := 1) get1 HX0.out)).mono ?_
    rintro en w ⟨rfl, hx⟩
    replace st := st.ext hx
    clear hx
    (try simp only [nsl, Value.cells, unB] at st)
    (try clear hc); have hc := st.facts; (try simp only [nfl, nft, Nat.reduceAdd] at hc)
    go_wp2_with fail
    obtain ⟨fr', al', st', back⟩ := st.sub [0] (by decide) (by simp)
    (try simp only [nsl, Value.cells, unB] at st')
    refine (penNumber_c st' 3 (by decide) (by omega)).mono ?_
    clear st'
    rintro en w ⟨rfl, st'⟩
    replace st := back _ _ (by simp) st'
    clear back st'
    (try simp only [nsl, Value.cells, unB] at st)
    (try clear hc); have hc := st.facts; (try simp only [nfl, nft, Nat.reduceAdd] at hc)
    go_wp2_with fail
    go_ret
    have st' := st.keep [0, 1] (by decide) (by simp)
    exact ⟨rfl, by rw [HF.out]; simpa [pick] using st'⟩
  · have HF : Hid (mgB { k := 4, p := pl, e := e, nm := nm, wa := wa, wn := wn, wc := wc, ws := ws, sa := sa, sn := sn, sc := sc, ss := ss } = numB 4) := Lib.hid (by rw [HB.out, if_neg (by decide), if_neg (by decide), if_neg (by decide)]; simp)
    clear HB H1 H2 H5
    go_enter Try.func72, Try.ntmps72
    go_wp2_with ((((with_reducible refine wl_box ?_ (fun K hK => ?_)); rfl; refine owp_box (o := ⟨some 3, _, _, _, _, _⟩) rfl st ?_; apply Exists.intro; refine ⟨?_, ?_⟩; (focus (go_simp; try rfl)); (clear st; intro b3 w hb st; clear hb))); (try simp only [nsl, Value.cells, unB] at st); (try clear hc); have hc := st.facts; (try simp only [nfl, nft, Nat.reduceAdd] at hc))
    refine (HMR.out _ (st.oldMg (i := 1) get1 HX0.out)).mono ?_
    rintro en w ⟨rfl, hx⟩
    replace st := st.ext hx
    clear hx
    (try simp only [nsl, Value.cells, unB] at st)
    (try clear hc); have hc := st.facts; (try simp only [nfl, nft, Nat.reduceAdd] at hc)
    go_wp2_with fail
    obtain ⟨fr', al', st', back⟩ := st.sub [0] (by decide) (by simp)
    (try simp only [nsl, Value.cells, unB] at st')
    refine (penNumber_c st' 4 (by decide) (by omega)).mono ?_
    clear st'
    rintro en w ⟨rfl, st'⟩
    replace st := back _ _ (by simp) st'
    clear back st'
    (try simp only [nsl, Value.cells, unB] at st)
    (try clear hc); have hc := st.facts; (try simp only [nfl, nft, Nat.reduceAdd] at hc)
    go_wp2_with fail
    go_ret
    have st' := st.keep [0, 1] (by decide) (by simp)
    exact ⟨rfl, by rw [HF.out]; simpa [pick] using st'⟩
  · obtain ⟨he1, he2⟩ := H5.out rfl
    obtain ⟨en, rfl⟩ : ∃ q : Nat, e = (q : Int) := ⟨e.toNat, by omega⟩
    have HF : Hid (mgB { k := 5, p := pl, e := (en : Int), nm := nm, wa := wa, wn := wn, wc := wc, ws := ws, sa := sa, sn := sn, sc := sc, ss := ss } = numB 5 ++ numB en) := Lib.hid (by rw [HB.out, if_neg (by decide), if_neg (by decide), if_pos rfl]; simp)
    have hb1 : (numB 5).length ≤ 10 := numF_len 10 5
    have hen : en ≤ 99 := by omega
    clear HB H1 H2 H5 he1 he2
    go_enter Try.func72, Try.ntmps72
    go_wp2_with ((((with_reducible refine wl_box ?_ (fun K hK => ?_)); rfl; refine owp_box (o := ⟨some 3, _, _, _, _, _⟩) rfl st ?_; apply Exists.intro; refine ⟨?_, ?_⟩; (focus (go_simp; try rfl)); (clear st; intro b3 w hb st; clear hb))); (try simp only [nsl, Value.cells, unB] at st); (try clear hc); have hc := st.facts; (try simp only [nfl, nft, Nat.reduceAdd] at hc))
    refine (HMR.out _ (st.oldMg (i := 1) get1 HX0.out)).mono ?_
    rintro en w ⟨rfl, hx⟩
    replace st := st.ext hx
    clear hx
    (try simp only [nsl, Value.cells, unB] at st)
    (try clear hc); have hc := st.facts; (try simp only [nfl, nft, Nat.reduceAdd] at hc)
    go_wp2_with fail
    obtain ⟨fr', al', st', back⟩ := st.sub [0] (by decide) (by simp)
    (try simp only [nsl, Value.cells, unB] at st')
    refine (penNumber_c st' 5 (by decide) (by omega)).mono ?_
    clear st'
    rintro en w ⟨rfl, st'⟩
    replace st := back _ _ (by simp) st'
    clear back st'
    (try simp only [nsl, Value.cells, unB] at st)
    (try clear hc); have hc := st.facts; (try simp only [nfl, nft, Nat.reduceAdd] at hc)
    go_wp2_with fail
    obtain ⟨fr', al', st', back⟩ := st.sub [0] (by decide) (by simp)
    (try simp only [nsl, Value.cells, unB] at st')
    refine (penNumber_c st' en (by omega) (by simp; omega)).mono ?_
    clear st'
    rintro en w ⟨rfl, st'⟩
    replace st := back _ _ (by simp) st'
    clear back st'
    (try simp only [nsl, Value.cells, unB] at st)
    (try clear hc); have hc := st.facts; (try simp only [nfl, nft, Nat.reduceAdd] at hc)
    go_wp2_with fail
    go_ret
    have st' := st.keep [0, 1] (by decide) (by simp)
    exact ⟨rfl, by rw [HF.out]; simpa [pick] using st'⟩
set_option maxRecDepth 100000 in
set_option maxHeartbeats 1000000 in
theorem msgPut_no (p : Option Addr) (x : MsgT) (W : World) (hx : MgOk W x) (lx : MgL x) (h : p = none ∨ mgR x = false) :
    Calls Try.prog 72 #[.pointer p, mgV x] W fun e w' => e = .returned (.bool false) ∧ Ext W w' := by
  have HMR := Lib.hid (fun W' (h : Ext W W') => msgRight_any x W' (hx.ext h) lx)
  obtain ⟨r, hr⟩ : ∃ r, mgR x = r := ⟨_, rfl⟩
  rw [hr] at HMR h
  clear hr hx lx
  obtain ⟨k, pl, e, nm, wa, wn, wc, ws, sa, sn, sc, ss⟩ := x
  unfold mgV S at HMR
  unfold mgV S
  have st := Own.startOld W
  (try simp only [nsl, Value.cells, unB] at st)
  (try clear hc); have hc := st.facts; (try simp only [nfl, nft, Nat.reduceAdd] at hc)
  cases p with
  | none =>
    clear h
    go_enter Try.func72, Try.ntmps72
    go_wp2_with ((((with_reducible refine wl_box ?_ (fun K hK => ?_)); rfl; refine owp_box (o := ⟨some 3, _, _, _, _, _⟩) rfl st ?_; apply Exists.intro; refine ⟨?_, ?_⟩; (focus (go_simp; try rfl)); (clear st; intro b3 w hb st; clear hb))); (try simp only [nsl, Value.cells, unB] at st); (try clear hc); have hc := st.facts; (try simp only [nfl, nft, Nat.reduceAdd] at hc))
    go_ret
    exact ⟨rfl, st.ext0⟩
  | some ad =>
    have hb : r = false := by rcases h with h | h; cases h; exact h
    subst hb
    clear h
    go_enter Try.func72, Try.ntmps72
    go_wp2_with ((((with_reducible refine wl_box ?_ (fun K hK => ?_)); rfl; refine owp_box (o := ⟨some 3, _, _, _, _, _⟩) rfl st ?_; apply Exists.intro; refine ⟨?_, ?_⟩; (focus (go_simp; try rfl)); (clear st; intro b3 w hb st; clear hb))); (try simp only [nsl, Value.cells, unB] at st); (try clear hc); have hc := st.facts; (try simp only [nfl, nft, Nat.reduceAdd] at hc))
    refine (HMR.out _ st.ext0).mono ?_
    rintro en w ⟨rfl, hx⟩
    replace st := st.ext hx
    clear hx
    (try clear hc); have hc := st.facts; (try simp only [nfl, nft, Nat.reduceAdd] at hc)
    go_wp2_with fail
    go_ret
    exact ⟨rfl, st.ext0⟩
end Go.Proofs.Ytekngjkjgmplpaa

namespace Go.Proofs.Ytekngjkjgmplpaa
set_option linter.unusedSimpArgs false
set_option linter.unusedVariables false
open Go Go.RowKit
/-- How great credentials are. -/
def wtC (x : CredT) : Nat := 20 + x.h.1.length + x.h.2.length + x.w.length + x.b.1.length + x.b.2.length + x.c.1.length + x.c.2.length + x.e.length
def weightC (l : List CredT) : Nat := (l.map wtC).sum
theorem weightC_snoc (l : List CredT) (x : CredT) : weightC (l ++ [x]) = weightC l + wtC x := by simp [weightC]
theorem weightC_cons (l : List CredT) (x : CredT) : weightC (x :: l) = wtC x + weightC l := by simp [weightC]
theorem weightC_take : ∀ (l : List CredT) (j : Nat), weightC (l.take j) ≤ weightC l
  | [], j => by simp [weightC]
  | x :: l, 0 => by simp [weightC]
  | x :: l, j + 1 => by have := weightC_take l j; rw [List.take_succ_cons, weightC_cons, weightC_cons]; omega
theorem weightC_len : ∀ (l : List CredT), 20 * l.length ≤ weightC l
  | [] => by simp [weightC]
  | x :: l => by have := weightC_len l; rw [weightC_cons, List.length_cons]; unfold wtC; omega
theorem weightC_mem : ∀ (l : List CredT) (x : CredT), x ∈ l → wtC x ≤ weightC l
  | [], x, h => by simp at h
  | y :: l, x, h => by
    rw [weightC_cons]
    rcases List.mem_cons.1 h with e | e
    · subst e; omega
    · have := weightC_mem l x e; omega
theorem wtC_L {x : CredT} (h : wtC x ≤ 100000) : CredL 100000 x := by unfold wtC at h; unfold CredL; omega
theorem Fl.cred {w : World} {a : Option Addr} {n : Nat} {xs : List CredT} (h : Fl w a n xs) (h0 : 0 < n) : ∃ b off, a = some ⟨b, off, none⟩ ∧ ∀ j x, xs[j]? = some x → w.cell? ⟨b, off + j * 9, none⟩ = some (.int .i64 x.k) ∧ w.cell? ⟨b, off + j * 9 + 1, none⟩ = some (S x.h.1) ∧ w.cell? ⟨b, off + j * 9 + 2, none⟩ = some (S x.h.2) ∧ w.cell? ⟨b, off + j * 9 + 3, none⟩ = some (S x.w) ∧ w.cell? ⟨b, off + j * 9 + 4, none⟩ = some (S x.b.1) ∧ w.cell? ⟨b, off + j * 9 + 5, none⟩ = some (S x.b.2) ∧ w.cell? ⟨b, off + j * 9 + 6, none⟩ = some (S x.c.1) ∧ w.cell? ⟨b, off + j * 9 + 7, none⟩ = some (S x.c.2) ∧ w.cell? ⟨b, off + j * 9 + 8, none⟩ = some (S x.e) := by
  obtain ⟨b, off, rfl, hc⟩ := h.2 h0
  exact ⟨b, off, rfl, fun j x hj => ⟨hc j x hj 0 _ rfl, hc j x hj 1 _ rfl, hc j x hj 2 _ rfl, hc j x hj 3 _ rfl, hc j x hj 4 _ rfl, hc j x hj 5 _ rfl, hc j x hj 6 _ rfl, hc j x hj 7 _ rfl, hc j x hj 8 _ rfl⟩⟩
end Go.Proofs.Ytekngjkjgmplpaa

namespace Go.Proofs.Ytekngjkjgmplpaa
set_option linter.unusedSimpArgs false
set_option linter.unusedVariables false
open Go Go.RowKit
set_option maxRecDepth 100000 in
set_option maxHeartbeats 1000000 in
theorem credGreat_any (a : Option Addr) (n c : Nat) (l : List CredT) (W : World) (h : Fl W a n l) (hw : weightC l ≤ 2000000000) :
    Calls Try.prog 35 #[.slice a n c] W fun e w' => e = .returned (.int .i64 (weightC l : Int)) ∧ Ext W w' := by
  have hnw : n ≤ 2000000000 := by have := weightC_len l; have := h.1; omega
  have H := Lib.hid h
  have HN := Lib.hid (And.intro h.1 hw)
  have st := Own.startOld W
  clear h hw
  (try simp only [nsl, Value.cells, unB] at st)
  (try clear hc); have hc := st.facts; (try simp only [nfl, nft, Nat.reduceAdd] at hc)
  go_enter Try.func35, Try.ntmps35
  go_wp2_with fail
  go_loopg [3, 8] n (fun k v i wr => ∃ (j q : Nat), j ≤ n ∧ k = n - j ∧ q ≤ 2000000000 ∧ Hid (q = weightC (l.take j)) ∧ i = .int .i64 (j : Int) ∧ v = .int .i64 (q : Int) ∧ Own (fun _ => False) (fun _ => True) W [oldI W] wr)
  case atStart => exact ⟨0, 0, by omega, by omega, by omega, Lib.hid (by simp [weightC]), rfl, rfl, st⟩
  case round =>
    obtain ⟨j, q, hj, rfl, hq, HQ, rfl, rfl, st'⟩ := hrel
    clear st hc
    have st := st'
    clear st'
    (try simp only [nsl, Value.cells, unB] at st)
    (try clear hc); have hc := st.facts; (try simp only [nfl, nft, Nat.reduceAdd] at hc)
    by_cases hjn : j < n
    · obtain ⟨b, off, ha, hcell⟩ := H.out.cred (by omega)
      have hjl : j < l.length := by have := HN.out.1; omega
      have hcc := hcell j l[j] (List.getElem?_eq_getElem hjl)
      obtain ⟨r0, r1, r2, r3, r4, r5, r6, r7, r8⟩ := hcc
      replace r0 := st.oldCell (i := 0) get0 r0
      replace r1 := st.oldCell (i := 0) get0 r1
      replace r2 := st.oldCell (i := 0) get0 r2
      replace r3 := st.oldCell (i := 0) get0 r3
      replace r4 := st.oldCell (i := 0) get0 r4
      replace r5 := st.oldCell (i := 0) get0 r5
      replace r6 := st.oldCell (i := 0) get0 r6
      replace r7 := st.oldCell (i := 0) get0 r7
      replace r8 := st.oldCell (i := 0) get0 r8
      have hts : l.take (j + 1) = l.take j ++ [l[j]] := (List.take_append_getElem hjl).symm
      have hw1 := weightC_take l (j + 1)
      rw [hts, weightC_snoc, ← HQ.out] at hw1
      have hw2 : q + wtC l[j] ≤ 2000000000 := by have := HN.out.2; omega
      have HX : Hid (q + wtC l[j] = weightC (l.take (j + 1))) := Lib.hid (by rw [hts, weightC_snoc, ← HQ.out])
      clear hcell hts hw1
      generalize l[j] = x at *
      clear hjl
      subst ha
      unfold S at r1 r2 r3 r4 r5 r6 r7 r8
      have hszz : ∀ s : List UInt8, (⟨s.toArray⟩ : ByteArray).size = s.length := fun s => by simp [ByteArray.size]
      have HW : Hid (wtC x = 20 + x.h.1.length + x.h.2.length + x.w.length + x.b.1.length + x.b.2.length + x.c.1.length + x.c.2.length + x.e.length) := Lib.hid rfl
      have hw3 : q + (20 + x.h.1.length + x.h.2.length + x.w.length + x.b.1.length + x.b.2.length + x.c.1.length + x.c.2.length + x.e.length) ≤ 2000000000 := by rw [← HW.out]; exact hw2
      clear hw2
      go_wp2_with ((first
            | ((with_reducible refine wl_alloc ?_ (fun K hK => ?_)); rfl; refine owp_alloc (o := ⟨some 5, _, _, _, _, _⟩) rfl st ?_; apply Exists.intro; apply Exists.intro; refine ⟨?_, ?_⟩; (focus (first | (go_simp; done) | (go_simp; rfl))); (clear st; intro b5 w hb st; clear hb))
            | ((with_reducible refine wl_store ?_ (fun K hK => ?_)); rfl; refine owp_store rfl st ?_; apply Exists.intro; apply Exists.intro; refine ⟨?_, ?_, ?_⟩; (focus (go_simp; try rfl)); (focus (go_simp; try rfl)); (first | (with_reducible refine ⟨0, _, _, _, _, get0, rfl, rfl, ?_, ?_, ?_, ?_⟩) | (with_reducible refine ⟨1, _, _, _, _, get1, rfl, rfl, ?_, ?_, ?_, ?_⟩) | (with_reducible refine ⟨2, _, _, _, _, get2, rfl, rfl, ?_, ?_, ?_, ?_⟩) | (with_reducible refine ⟨3, _, _, _, _, get3, rfl, rfl, ?_, ?_, ?_, ?_⟩) | (with_reducible refine ⟨4, _, _, _, _, get4, rfl, rfl, ?_, ?_, ?_, ?_⟩) | (with_reducible refine ⟨5, _, _, _, _, get5, rfl, rfl, ?_, ?_, ?_, ?_⟩)); (kernel_rfl); (simp [Value.cells]); (rfl); (clear st; intro w st))); (try simp only [nsl, Value.cells, unB] at st); (try clear hc); have hc := st.facts; (try simp only [nfl, nft, Nat.reduceAdd] at hc))
      have st' := st.keep [0] (by decide) (by simp)
      go_roundg (n - (j + 1))
      case measure => omega
      case rel => exact ⟨j + 1, q + (20 + x.h.1.length + x.h.2.length + x.w.length + x.b.1.length + x.b.2.length + x.c.1.length + x.c.2.length + x.e.length), by omega, rfl, hw3, by rw [← HW.out]; exact HX, by go_num, by go_num, by simpa [pick] using st'⟩
    · obtain rfl : j = n := by omega
      have htk : weightC l = q := by rw [HQ.out, List.take_of_length_le (by have := HN.out.1; omega)]
      have HE := Lib.hid htk
      clear htk
      go_wp2_with fail
      go_ret
      exact ⟨by rw [HE.out]; rfl, st.ext0⟩
end Go.Proofs.Ytekngjkjgmplpaa

namespace Go.Proofs.Ytekngjkjgmplpaa
set_option linter.unusedSimpArgs false
set_option linter.unusedVariables false
open Go Go.RowKit
def wtSg (x : SgnT) : Nat := wtC x.c + x.n
def weightSg (l : List SgnT) : Nat := (l.map wtSg).sum
theorem weightSg_cons (x : SgnT) (l : List SgnT) : weightSg (x :: l) = wtSg x + weightSg l := by simp [weightSg]
theorem weightSg_take (l : List SgnT) (j : Nat) (h : j < l.length) : weightSg (l.take (j + 1)) = weightSg (l.take j) + wtSg l[j] := by
  rw [← List.take_append_getElem h]; simp only [weightSg, List.map_append, List.sum_append, List.map_cons, List.map_nil, List.sum_cons, List.sum_nil, Nat.add_zero]
theorem weightSg_le : ∀ (l : List SgnT) (j : Nat), weightSg (l.take j) ≤ weightSg l
  | [], j => by simp
  | x :: l, 0 => by simp [weightSg]
  | x :: l, j + 1 => by have := weightSg_le l j; rw [List.take_succ_cons, weightSg_cons, weightSg_cons]; omega
theorem weightSg_len : ∀ (l : List SgnT), 20 * l.length ≤ weightSg l
  | [] => by simp
  | x :: l => by have := weightSg_len l; rw [weightSg_cons, List.length_cons]; unfold wtSg wtC; omega
theorem weightSg_mem : ∀ (l : List SgnT) (x : SgnT), x ∈ l → wtSg x ≤ weightSg l
  | [], x, h => by simp at h
  | y :: l, x, h => by
    rw [weightSg_cons]
    rcases List.mem_cons.1 h with e | e
    · subst e; omega
    · have := weightSg_mem l x e; omega
def wtR (r : Role) : Nat := 5 + r.1.length + r.2.length
def weightW (l : List Role) : Nat := (l.map wtR).sum
theorem weightW_cons (x : Role) (l : List Role) : weightW (x :: l) = wtR x + weightW l := by simp [weightW]
theorem weightW_take (l : List Role) (j : Nat) (h : j < l.length) : weightW (l.take (j + 1)) = weightW (l.take j) + wtR l[j] := by
  rw [← List.take_append_getElem h]; simp only [weightW, List.map_append, List.sum_append, List.map_cons, List.map_nil, List.sum_cons, List.sum_nil, Nat.add_zero]
theorem weightW_le : ∀ (l : List Role) (j : Nat), weightW (l.take j) ≤ weightW l
  | [], j => by simp
  | x :: l, 0 => by simp [weightW]
  | x :: l, j + 1 => by have := weightW_le l j; rw [List.take_succ_cons, weightW_cons, weightW_cons]; omega
theorem weightW_len : ∀ (l : List Role), 5 * l.length ≤ weightW l
  | [] => by simp
  | x :: l => by have := weightW_len l; rw [weightW_cons, List.length_cons]; unfold wtR; omega
theorem weightW_mem : ∀ (l : List Role) (x : Role), x ∈ l → wtR x ≤ weightW l
  | [], x, h => by simp at h
  | y :: l, x, h => by
    rw [weightW_cons]
    rcases List.mem_cons.1 h with e | e
    · subst e; omega
    · have := weightW_mem l x e; omega
/-- How great a message is. -/
def weightM (x : MsgT) : Nat := x.nm.length + weightSg x.ss + weightW x.ws
theorem weightM_L {W : World} {x : MsgT} (hx : MgOk W x) (h : weightM x ≤ 100000) : MgL x := by
  unfold weightM at h
  have h1 := weightSg_len x.ss
  have h2 := weightW_len x.ws
  have h3 := hx.1.2.1
  have h4 := hx.2.1.2.1
  refine ⟨by omega, by omega, by omega, fun r hr => ?_, fun y hy => ?_⟩
  · have := weightW_mem _ r hr
    unfold wtR at this
    omega
  · have := weightSg_mem _ y hy
    unfold wtSg wtC at this
    unfold CLenS
    omega
set_option maxRecDepth 100000 in
set_option maxHeartbeats 4000000 in
theorem sgGreat_any (a : Option Addr) (n c : Nat) (l : List SgnT) (W : World) (h : Fl W a n l) (hw : weightSg l ≤ 2000000000) :
    Calls Try.prog 22 #[.slice none 0 0, .slice a n c] W fun e w' => e = .returned (.int .i64 (weightSg l : Int)) ∧ Ext W w' := by
  have hnw : n ≤ 2000000000 := by have := weightSg_len l; have := h.1; omega
  have H := Lib.hid h
  have HN := Lib.hid h.1
  have HT := Lib.hid (weightSg_le l)
  obtain ⟨wl, hwl⟩ : ∃ w, weightSg l = w := ⟨_, rfl⟩
  rw [hwl] at HT hw ⊢
  have HWL := Lib.hid hwl
  have st := Own.startOld W
  clear h hwl
  (try simp only [nsl, Value.cells, unB] at st)
  (try clear hc); have hc := st.facts; (try simp only [nfl, nft, Nat.reduceAdd] at hc)
  go_enter Try.func22, Try.ntmps22
  go_wp2_with fail
  go_loopg [5, 12] 0 (fun k v i wr => v = .int .i64 0 ∧ i = .int .i64 0 ∧ Own (fun _ => False) (fun _ => True) W [oldI W] wr)
  case atStart => exact ⟨rfl, rfl, st⟩
  case round =>
    obtain ⟨rfl, rfl, st'⟩ := hrel
    clear st hc
    have st := st'
    clear st'
    go_wp2_with fail
    go_loopg [5, 29] n (fun k s i wr => ∃ (j q : Nat), j ≤ n ∧ k = n - j ∧ i = .int .i64 (j : Int) ∧ Hid (q = weightSg (l.take j)) ∧ q ≤ wl ∧ s = .int .i64 (q : Int) ∧ Own (fun _ => False) (fun _ => True) W [oldI W] wr)
    case atStart => exact ⟨0, 0, by omega, by omega, rfl, Lib.hid (by simp [weightSg]), by omega, rfl, st⟩
    case round =>
      obtain ⟨j, q, hj, rfl, rfl, HQ, hq, rfl, st'⟩ := hrel
      clear st
      have st := st'
      clear st'
      (try simp only [nsl, Value.cells, unB] at st)
      (try clear hc); have hc := st.facts; (try simp only [nfl, nft, Nat.reduceAdd] at hc)
      by_cases hjn : j < n
      · obtain ⟨b, off, ha, hcell⟩ := H.out.sgn (by omega)
        have hjl : j < l.length := by have := HN.out; omega
        obtain ⟨r0, r1, r2, r3, r4, r5, r6, r7, r8, r9⟩ := hcell j l[j] (List.getElem?_eq_getElem hjl)
        replace r0 := st.oldCell (i := 0) get0 r0
        replace r1 := st.oldCell (i := 0) get0 r1
        replace r2 := st.oldCell (i := 0) get0 r2
        replace r3 := st.oldCell (i := 0) get0 r3
        replace r4 := st.oldCell (i := 0) get0 r4
        replace r5 := st.oldCell (i := 0) get0 r5
        replace r6 := st.oldCell (i := 0) get0 r6
        replace r7 := st.oldCell (i := 0) get0 r7
        replace r8 := st.oldCell (i := 0) get0 r8
        replace r9 := st.oldCell (i := 0) get0 r9
        have hle := HT.out (j + 1)
        have HTK := Lib.hid (weightSg_take l j hjl)
        have hq2 : q + wtSg l[j] ≤ wl := by have := HTK.out; have := HQ.out; omega
        clear hcell hle
        generalize l[j] = x at *
        subst ha
        obtain ⟨cx, a1, n1, m1, xs⟩ := x
        have HWX : Hid (wtSg ⟨cx, a1, n1, m1, xs⟩ = wtC cx + n1) := Lib.hid rfl
        rw [HWX.out] at hq2 HTK
        have HCG := Lib.hid (fun a c W h => credGreat_any a 1 c [cx] W h (by simp [weightC]; omega))
        rw [show weightC [cx] = wtC cx from by simp [weightC]] at HCG
        obtain ⟨wc, hwc⟩ : ∃ w, wtC cx = w := ⟨_, rfl⟩
        rw [hwc] at HCG hq2 HTK
        clear hwc HWX
        have z1 : IntKind.i64.wrap ((wc : Int) + (n1 : Int)) = (wc : Int) + (n1 : Int) := IntWalk.i64_in _ ⟨by omega, by omega⟩
        have z4 : IntKind.i64.wrap ((q : Int) + ((wc : Int) + (n1 : Int))) = (q : Int) + ((wc : Int) + (n1 : Int)) := IntWalk.i64_in _ ⟨by omega, by omega⟩
        obtain ⟨k, ⟨ho, hd⟩, nw, ⟨bo, bd⟩, ⟨co, cd⟩, we⟩ := cx
        simp only at r0 r1 r2 r3 r4 r5 r6 r7 r8 r9
        unfold S at r1 r2 r3 r4 r5 r6 r7 r8
        go_wp2_with ((first
              | ((with_reducible refine wl_alloc ?_ (fun K hK => ?_)); rfl; refine owp_alloc (o := ⟨some 7, _, _, _, _, _⟩) rfl st ?_; apply Exists.intro; apply Exists.intro; refine ⟨?_, ?_⟩; (focus (first | (go_simp; done) | (go_simp; rfl))); (clear st; intro b7 w hb st; clear hb))
              | ((with_reducible refine wl_store ?_ (fun K hK => ?_)); rfl; refine owp_store rfl st ?_; apply Exists.intro; apply Exists.intro; refine ⟨?_, ?_, ?_⟩; (focus (go_simp; try rfl)); (focus (go_simp; try rfl)); (first | (with_reducible refine ⟨0, _, _, _, _, get0, rfl, rfl, ?_, ?_, ?_, ?_⟩) | (with_reducible refine ⟨1, _, _, _, _, get1, rfl, rfl, ?_, ?_, ?_, ?_⟩) | (with_reducible refine ⟨2, _, _, _, _, get2, rfl, rfl, ?_, ?_, ?_, ?_⟩) | (with_reducible refine ⟨3, _, _, _, _, get3, rfl, rfl, ?_, ?_, ?_, ?_⟩) | (with_reducible refine ⟨4, _, _, _, _, get4, rfl, rfl, ?_, ?_, ?_, ?_⟩)); (kernel_rfl); (simp [Value.cells]); (rfl); (clear st; intro w st))
              | ((with_reducible refine wl_alloc ?_ (fun K hK => ?_)); rfl; refine owp_alloc (o := ⟨some 9, _, _, _, _, _⟩) rfl st ?_; apply Exists.intro; apply Exists.intro; refine ⟨?_, ?_⟩; (focus (first | (go_simp; done) | (go_simp; rfl))); (clear st; intro b9 w hb st; clear hb))
              | ((with_reducible refine wl_buildSlice ?_ (fun K hK => ?_)); rfl; refine owp_buildSlice (o := ⟨some 36, _, _, _, _, _⟩) rfl st ?_; apply Exists.intro; apply Exists.intro; apply Exists.intro; apply Exists.intro; refine ⟨?_, ?_⟩; (focus (go_simp; (first | done | exact ⟨⟨rfl, rfl⟩, rfl⟩ | rfl))); (clear st; intro b36 w hb st; clear hb))); (try simp only [nsl, Value.cells, unB] at st); (try clear hc); have hc := st.facts; (try simp only [nfl, nft, Nat.reduceAdd] at hc))
        clear r0 r1 r2 r3 r4 r5 r6 r7 r8 r9
        refine Rg4.wp_region4_eq #[0, 0, 2, 6, 14, 0, 32, 96, 254, 511, 1023] [3, 4] [] (fun W' => Blk W' b9 [.int .i64 k, .string ⟨ho.toArray⟩, .string ⟨hd.toArray⟩, .string ⟨nw.toArray⟩, .string ⟨bo.toArray⟩, .string ⟨bd.toArray⟩, .string ⟨co.toArray⟩, .string ⟨cd.toArray⟩, .string ⟨we.toArray⟩, .slice a1 n1 m1]) [0, 1, 2, 5, 6, 7, 3, 4, 8, 9, 10] (by kernel_rfl) (by kernel_rfl) (by kernel_rfl) (by kernel_rfl) (show Rg4.PB _ by repeat (first | with_reducible exact Rg4.pb_body | with_reducible exact Rg4.pb_bodyD rfl | with_reducible refine Rg4.pb_then ?_ | with_reducible refine Rg4.pb_inBlock ?_ | with_reducible refine Rg4.pb_noGoto ?_)) (st.drew.blk (i := 1) get1) ?_
        replace st := st.drew
        change Rg4.wp4 _ _ _ _ _ _ _ _ _ (World.drew _) _ _
        generalize World.drew _ = w at st ⊢
        (try clear hc); have hc := st.facts; (try simp only [nfl, nft, Nat.reduceAdd] at hc)
        iterate 2 (refine Rg4.w4_any (Rg4.want_none rfl) rfl ?_; apply Exists.intro; refine ⟨fun w' => ?_, ?_⟩; (focus (first | (go_simp; done) | (go_simp; first | rfl | (rw [if_neg] <;> first | rfl | omega) | (rw [if_pos] <;> first | rfl | omega)))); (try simp only [Rg4.nrm]))
        (refine Rg4.w4_cl (Rg4.want_none rfl) rfl ?_; apply Exists.intro; refine ⟨fun w' hcl => ?_, ?_⟩; (focus (have q0 := Blk.cell hcl 0; have q1 := Blk.cell hcl 1; have q2 := Blk.cell hcl 2; have q3 := Blk.cell hcl 3; have q4 := Blk.cell hcl 4; have q5 := Blk.cell hcl 5; have q6 := Blk.cell hcl 6; have q7 := Blk.cell hcl 7; have q8 := Blk.cell hcl 8; have q9 := Blk.cell hcl 9; (try simp at q0 q1 q2 q3 q4 q5 q6 q7 q8 q9); (focus (first | (go_simp; done) | (go_simp; first | rfl | (rw [if_neg] <;> first | rfl | omega) | (rw [if_pos] <;> first | rfl | omega)))))); (try simp only [Rg4.nrm]))
        (refine Rg4.w4_any (Rg4.want_none rfl) rfl ?_; apply Exists.intro; refine ⟨fun w' => ?_, ?_⟩; (focus (first | (go_simp; done) | (go_simp; first | rfl | (rw [if_neg] <;> first | rfl | omega) | (rw [if_pos] <;> first | rfl | omega)))); (try simp only [Rg4.nrm]))
        (refine Rg4.w4_cl (Rg4.want_none rfl) rfl ?_; apply Exists.intro; refine ⟨fun w' hcl => ?_, ?_⟩; (focus (have q0 := Blk.cell hcl 0; have q1 := Blk.cell hcl 1; have q2 := Blk.cell hcl 2; have q3 := Blk.cell hcl 3; have q4 := Blk.cell hcl 4; have q5 := Blk.cell hcl 5; have q6 := Blk.cell hcl 6; have q7 := Blk.cell hcl 7; have q8 := Blk.cell hcl 8; have q9 := Blk.cell hcl 9; (try simp at q0 q1 q2 q3 q4 q5 q6 q7 q8 q9); (focus (first | (go_simp; done) | (go_simp; first | rfl | (rw [if_neg] <;> first | rfl | omega) | (rw [if_pos] <;> first | rfl | omega)))))); (try simp only [Rg4.nrm]))
        (refine Rg4.w4_any (Rg4.want_none rfl) rfl ?_; apply Exists.intro; refine ⟨fun w' => ?_, ?_⟩; (focus (first | (go_simp; done) | (go_simp; first | rfl | (rw [if_neg] <;> first | rfl | omega) | (rw [if_pos] <;> first | rfl | omega)))); (try simp only [Rg4.nrm]))
        (refine Rg4.w4_bar (Rg4.want_none rfl) rfl (fun w' hw' hcl' _ K hK => ?_); subst hw'; (refine owp_buildSlice (o := ⟨some 36, _, _, _, _, _⟩) rfl st ?_; apply Exists.intro; apply Exists.intro; apply Exists.intro; apply Exists.intro; refine ⟨?_, ?_⟩; (focus (go_simp; (first | done | exact ⟨⟨rfl, rfl⟩, rfl⟩ | rfl))); (clear st; intro b36 w hb st; clear hb); (try simp only [nsl, Value.cells, unB] at st); (try clear hc); have hc := st.facts; (try simp only [nfl, nft, Nat.reduceAdd] at hc)); refine hK _ _ ⟨st.blk (i := 1) get1, ?_⟩; (try simp only [Rg4.nrm]))
        refine Rg4.w4_bar (Rg4.want_none rfl) rfl (fun w' hw' hcl _ K hK => ?_)
        subst hw'
        go_wp2_with fail
        refine (HCG.out _ _ _ (fl_lit (α := CredT) (st.blk (i := 2) get2) [⟨k, (ho, hd), nw, (bo, bd), (co, cd), we⟩] rfl)).mono ?_
        rintro en w ⟨rfl, hx⟩
        replace st := st.ext hx
        clear hx
        (try clear hc); have hc := st.facts; (try simp only [nfl, nft, Nat.reduceAdd] at hc)
        refine hK _ _ ⟨st.blk (i := 1) get1, ?_⟩
        clear hK
        (try simp only [Rg4.nrm])
        iterate 3 (refine Rg4.w4_any (Rg4.want_none rfl) rfl ?_; apply Exists.intro; refine ⟨fun w' => ?_, ?_⟩; (focus (first | (go_simp; done) | (go_simp; first | rfl | (rw [if_neg] <;> first | rfl | omega) | (rw [if_pos] <;> first | rfl | omega)))); (try simp only [Rg4.nrm]))
        refine Rg4.w4_nil (fun w' hw' hcl' _ => ?_); subst hw'; clear hcl'
        go_wp2_with fail
        have st' := st.keep [0] (by decide) (by simp)
        go_roundg (n - (j + 1))
        case measure => omega
        case rel => exact ⟨j + 1, q + (wc + n1), by omega, by omega, by go_num, Lib.hid (by rw [HTK.out, HQ.out]), hq2, by go_num, by simpa [pick] using st'⟩
      · obtain rfl : j = n := by omega
        have hqw : q = wl := by
          have := HQ.out
          rw [List.take_of_length_le (by have := HN.out; omega), HWL.out] at this
          exact this
        subst hqw
        clear HT
        go_wp2_with fail
        go_ret
        exact ⟨rfl, st.ext0⟩
set_option maxRecDepth 100000 in
set_option maxHeartbeats 4000000 in
theorem msgGreat_any (x : MsgT) (W : World) (hx : MgOk W x) (hw : weightM x ≤ 2000000000) :
    Calls Try.prog 69 #[mgV x] W fun e w' => e = .returned (.int .i64 (weightM x : Int)) ∧ Ext W w' := by
  have HD : Hid (weightM x = x.nm.length + weightSg x.ss + weightW x.ws) := Lib.hid rfl
  have hw1 : x.nm.length + weightSg x.ss + weightW x.ws ≤ 2000000000 := hw
  have HX := Lib.hid hx
  have HSG := Lib.hid (fun W' h => sgGreat_any x.sa x.sn x.sc x.ss W' h (by omega))
  have HT := Lib.hid (weightW_le x.ws)
  have hn1 : x.wn ≤ 2000000000 := by have := weightW_len x.ws; have := hx.1.2.1; omega
  have HN := Lib.hid hx.1.2.1
  obtain ⟨r, hr⟩ : ∃ r, weightM x = r := ⟨_, rfl⟩
  obtain ⟨g, hg⟩ : ∃ g, weightSg x.ss = g := ⟨_, rfl⟩
  obtain ⟨wl, hwl⟩ : ∃ w, weightW x.ws = w := ⟨_, rfl⟩
  rw [hg] at HSG HD hw1
  rw [hwl] at HT HD hw1
  rw [hr] at HD ⊢
  have HWL := Lib.hid hwl
  clear hw hx hr hg hwl
  obtain ⟨k, p, e, nm, wa, wn, wc, ws, sa, sn, sc, ss⟩ := x
  unfold MgOk at HX
  simp only at HD hw1 HX HSG HT hn1 HWL HN
  have st := Own.startOld W
  unfold mgV S
  have hszz : ∀ s : List UInt8, (⟨s.toArray⟩ : ByteArray).size = s.length := fun s => by simp [ByteArray.size]
  have z0 : IntKind.i64.wrap ((nm.length : Int) + (g : Int)) = (nm.length : Int) + (g : Int) := IntWalk.i64_in _ ⟨by omega, by omega⟩
  (try simp only [nsl, Value.cells, unB] at st)
  (try clear hc); have hc := st.facts; (try simp only [nfl, nft, Nat.reduceAdd] at hc)
  go_enter Try.func69, Try.ntmps69
  go_wp2_with ((first
        | ((with_reducible refine wl_box ?_ (fun K hK => ?_)); rfl; refine owp_box (o := ⟨some 1, _, _, _, _, _⟩) rfl st ?_; apply Exists.intro; refine ⟨?_, ?_⟩; (focus (go_simp; try rfl)); (clear st; intro b1 w hb st; clear hb))
        | ((with_reducible refine wl_alloc ?_ (fun K hK => ?_)); rfl; refine owp_alloc (o := ⟨some 5, _, _, _, _, _⟩) rfl st ?_; apply Exists.intro; apply Exists.intro; refine ⟨?_, ?_⟩; (focus (first | (go_simp; done) | (go_simp; rfl))); (clear st; intro b5 w hb st; clear hb))
        | ((with_reducible refine wl_store ?_ (fun K hK => ?_)); rfl; refine owp_store rfl st ?_; apply Exists.intro; apply Exists.intro; refine ⟨?_, ?_, ?_⟩; (focus (go_simp; try rfl)); (focus (go_simp; try rfl)); (first | (with_reducible refine ⟨0, _, _, _, _, get0, rfl, rfl, ?_, ?_, ?_, ?_⟩) | (with_reducible refine ⟨1, _, _, _, _, get1, rfl, rfl, ?_, ?_, ?_, ?_⟩) | (with_reducible refine ⟨2, _, _, _, _, get2, rfl, rfl, ?_, ?_, ?_, ?_⟩) | (with_reducible refine ⟨3, _, _, _, _, get3, rfl, rfl, ?_, ?_, ?_, ?_⟩) | (with_reducible refine ⟨4, _, _, _, _, get4, rfl, rfl, ?_, ?_, ?_, ?_⟩)); (kernel_rfl); (simp [Value.cells]); (rfl); (clear st; intro w st))); (try simp only [nsl, Value.cells, unB] at st); (try clear hc); have hc := st.facts; (try simp only [nfl, nft, Nat.reduceAdd] at hc))
  refine Rg4.wp_region4_eq #[0, 1, 3, 0, 8, 24, 63, 127] [5] [] (fun W' => Blk W' b1 [.int .i64 k, .int .i64 p, .int .i64 e, .string ⟨nm.toArray⟩, .slice wa wn wc, .slice sa sn sc]) [0, 1, 2, 3, 4, 5, 6, 7] (by kernel_rfl) (by kernel_rfl) (by kernel_rfl) (by kernel_rfl) (show Rg4.PB _ by repeat (first | with_reducible exact Rg4.pb_body | with_reducible exact Rg4.pb_bodyD rfl | with_reducible refine Rg4.pb_then ?_ | with_reducible refine Rg4.pb_inBlock ?_ | with_reducible refine Rg4.pb_noGoto ?_)) (st.drew.blk (i := 1) get1) ?_
  replace st := st.drew
  change Rg4.wp4 _ _ _ _ _ _ _ _ _ (World.drew _) _ _
  generalize World.drew _ = w at st ⊢
  (try clear hc); have hc := st.facts; (try simp only [nfl, nft, Nat.reduceAdd] at hc)
  (refine Rg4.w4_any (Rg4.want_none rfl) rfl ?_; apply Exists.intro; refine ⟨fun w' => ?_, ?_⟩; (focus (first | (go_simp; done) | (go_simp; first | rfl | (rw [if_neg] <;> first | rfl | omega) | (rw [if_pos] <;> first | rfl | omega)))); (try simp only [Rg4.nrm]))
  (refine Rg4.w4_cl (Rg4.want_none rfl) rfl ?_; apply Exists.intro; refine ⟨fun w' hcl => ?_, ?_⟩; (focus (have q3 := Blk.cell hcl 3; have q5 := Blk.cell hcl 5; (try simp at q3 q5); (focus (first | (go_simp; done) | (go_simp; first | rfl | (rw [if_neg] <;> first | rfl | omega) | (rw [if_pos] <;> first | rfl | omega)))))); (try simp only [Rg4.nrm]))
  iterate 2 (refine Rg4.w4_any (Rg4.want_none rfl) rfl ?_; apply Exists.intro; refine ⟨fun w' => ?_, ?_⟩; (focus (first | (go_simp; done) | (go_simp; first | rfl | (rw [if_neg] <;> first | rfl | omega) | (rw [if_pos] <;> first | rfl | omega)))); (try simp only [Rg4.nrm]))
  (refine Rg4.w4_cl (Rg4.want_none rfl) rfl ?_; apply Exists.intro; refine ⟨fun w' hcl => ?_, ?_⟩; (focus (have q3 := Blk.cell hcl 3; have q5 := Blk.cell hcl 5; (try simp at q3 q5); (focus (first | (go_simp; done) | (go_simp; first | rfl | (rw [if_neg] <;> first | rfl | omega) | (rw [if_pos] <;> first | rfl | omega)))))); (try simp only [Rg4.nrm]))
  refine Rg4.w4_bar (Rg4.want_none rfl) rfl (fun w' hw' hcl _ K hK => ?_)
  subst hw'
  go_wp2_with fail
  refine (HSG.out _ (st.oldFl (i := 0) get0 HX.out.2.1.2)).mono ?_
  rintro en w ⟨rfl, hx⟩
  replace st := st.ext hx
  clear hx
  (try clear hc); have hc := st.facts; (try simp only [nfl, nft, Nat.reduceAdd] at hc)
  refine hK _ _ ⟨st.blk (i := 1) get1, ?_⟩
  clear hK
  (try simp only [Rg4.nrm])
  iterate 2 (refine Rg4.w4_any (Rg4.want_none rfl) rfl ?_; apply Exists.intro; refine ⟨fun w' => ?_, ?_⟩; (focus (first | (go_simp; done) | (go_simp; first | rfl | (rw [if_neg] <;> first | rfl | omega) | (rw [if_pos] <;> first | rfl | omega)))); (try simp only [Rg4.nrm]))
  refine Rg4.w4_nil (fun w' hw' hcl' _ => ?_); subst hw'; clear hcl'
  go_wp2_with ((first
        | ((with_reducible refine wl_box ?_ (fun K hK => ?_)); rfl; refine owp_box (o := ⟨some 1, _, _, _, _, _⟩) rfl st ?_; apply Exists.intro; refine ⟨?_, ?_⟩; (focus (go_simp; try rfl)); (clear st; intro b1 w hb st; clear hb))
        | ((with_reducible refine wl_alloc ?_ (fun K hK => ?_)); rfl; refine owp_alloc (o := ⟨some 5, _, _, _, _, _⟩) rfl st ?_; apply Exists.intro; apply Exists.intro; refine ⟨?_, ?_⟩; (focus (first | (go_simp; done) | (go_simp; rfl))); (clear st; intro b5 w hb st; clear hb))
        | ((with_reducible refine wl_store ?_ (fun K hK => ?_)); rfl; refine owp_store rfl st ?_; apply Exists.intro; apply Exists.intro; refine ⟨?_, ?_, ?_⟩; (focus (go_simp; try rfl)); (focus (go_simp; try rfl)); (first | (with_reducible refine ⟨0, _, _, _, _, get0, rfl, rfl, ?_, ?_, ?_, ?_⟩) | (with_reducible refine ⟨1, _, _, _, _, get1, rfl, rfl, ?_, ?_, ?_, ?_⟩) | (with_reducible refine ⟨2, _, _, _, _, get2, rfl, rfl, ?_, ?_, ?_, ?_⟩) | (with_reducible refine ⟨3, _, _, _, _, get3, rfl, rfl, ?_, ?_, ?_, ?_⟩) | (with_reducible refine ⟨4, _, _, _, _, get4, rfl, rfl, ?_, ?_, ?_, ?_⟩)); (kernel_rfl); (simp [Value.cells]); (rfl); (clear st; intro w st))); (try simp only [nsl, Value.cells, unB] at st); (try clear hc); have hc := st.facts; (try simp only [nfl, nft, Nat.reduceAdd] at hc))
  go_loopg [3, 16] wn (fun kk s i wr => ∃ (j q : Nat), j ≤ wn ∧ kk = wn - j ∧ i = .int .i64 (j : Int) ∧ Hid (q = weightW (ws.take j)) ∧ q ≤ wl ∧ s = .int .i64 ((nm.length : Int) + (g : Int) + (q : Int)) ∧ Own (fun _ => False) (fun _ => True) W [oldI W] wr)
  case atStart => exact ⟨0, 0, by omega, by omega, rfl, Lib.hid (by simp [weightW]), by omega, by simp, by simpa [pick] using st.keep [0] (by decide) (by simp)⟩
  case round =>
    obtain ⟨j, q, hj, rfl, rfl, HQ, hq, rfl, st'⟩ := hrel
    clear st hc
    have st := st'
    clear st'
    (try simp only [nsl, Value.cells, unB] at st)
    (try clear hc); have hc := st.facts; (try simp only [nfl, nft, Nat.reduceAdd] at hc)
    by_cases hjn : j < wn
    · obtain ⟨b, off, ha, hcell⟩ := HX.out.1.2.role (by omega)
      have hjl : j < ws.length := by have := HN.out; omega
      obtain ⟨r0, r1⟩ := hcell j ws[j] (List.getElem?_eq_getElem hjl)
      replace r0 := st.oldCell (i := 0) get0 r0
      replace r1 := st.oldCell (i := 0) get0 r1
      have hle := HT.out (j + 1)
      have HTK := Lib.hid (weightW_take ws j hjl)
      have hq2 : q + wtR ws[j] ≤ wl := by have := HTK.out; have := HQ.out; omega
      clear hcell hle
      generalize ws[j] = x at *
      obtain ⟨ro, rd⟩ := x
      subst ha
      have HWX : Hid (wtR (ro, rd) = 5 + ro.length + rd.length) := Lib.hid rfl
      rw [HWX.out] at hq2 HTK
      clear hjl HWX
      have z1 : IntKind.i64.wrap ((5 : Int) + (ro.length : Int)) = (5 : Int) + (ro.length : Int) := IntWalk.i64_in _ ⟨by omega, by omega⟩
      have z2 : IntKind.i64.wrap ((5 : Int) + (ro.length : Int) + (rd.length : Int)) = (5 : Int) + (ro.length : Int) + (rd.length : Int) := IntWalk.i64_in _ ⟨by omega, by omega⟩
      have z3 : IntKind.i64.wrap ((nm.length : Int) + (g : Int) + (q : Int) + ((5 : Int) + (ro.length : Int) + (rd.length : Int))) = (nm.length : Int) + (g : Int) + (q : Int) + ((5 : Int) + (ro.length : Int) + (rd.length : Int)) := IntWalk.i64_in _ ⟨by omega, by omega⟩
      simp only at r0 r1
      unfold S at r0 r1
      go_wp2_with ((first
            | ((with_reducible refine wl_box ?_ (fun K hK => ?_)); rfl; refine owp_box (o := ⟨some 1, _, _, _, _, _⟩) rfl st ?_; apply Exists.intro; refine ⟨?_, ?_⟩; (focus (go_simp; try rfl)); (clear st; intro b1 w hb st; clear hb))
            | ((with_reducible refine wl_alloc ?_ (fun K hK => ?_)); rfl; refine owp_alloc (o := ⟨some 5, _, _, _, _, _⟩) rfl st ?_; apply Exists.intro; apply Exists.intro; refine ⟨?_, ?_⟩; (focus (first | (go_simp; done) | (go_simp; rfl))); (clear st; intro b5 w hb st; clear hb))
            | ((with_reducible refine wl_store ?_ (fun K hK => ?_)); rfl; refine owp_store rfl st ?_; apply Exists.intro; apply Exists.intro; refine ⟨?_, ?_, ?_⟩; (focus (go_simp; try rfl)); (focus (go_simp; try rfl)); (first | (with_reducible refine ⟨0, _, _, _, _, get0, rfl, rfl, ?_, ?_, ?_, ?_⟩) | (with_reducible refine ⟨1, _, _, _, _, get1, rfl, rfl, ?_, ?_, ?_, ?_⟩) | (with_reducible refine ⟨2, _, _, _, _, get2, rfl, rfl, ?_, ?_, ?_, ?_⟩) | (with_reducible refine ⟨3, _, _, _, _, get3, rfl, rfl, ?_, ?_, ?_, ?_⟩) | (with_reducible refine ⟨4, _, _, _, _, get4, rfl, rfl, ?_, ?_, ?_, ?_⟩)); (kernel_rfl); (simp [Value.cells]); (rfl); (clear st; intro w st))); (try simp only [nsl, Value.cells, unB] at st); (try clear hc); have hc := st.facts; (try simp only [nfl, nft, Nat.reduceAdd] at hc))
      have st' := st.keep [0] (by decide) (by simp)
      go_roundg (wn - (j + 1))
      case measure => omega
      case rel => exact ⟨j + 1, q + (5 + ro.length + rd.length), by omega, by omega, by go_num, Lib.hid (by rw [HTK.out, HQ.out]), hq2, by first | go_num | (simp; omega), by simpa [pick] using st'⟩
    · obtain rfl : j = wn := by omega
      have hqw : q = wl := by
        have := HQ.out
        rw [List.take_of_length_le (by have := HN.out; omega), HWL.out] at this
        exact this
      subst hqw
      have HR : Hid ((r : Int) = (nm.length : Int) + (g : Int) + (q : Int)) := Lib.hid (by rw [HD.out]; simp)
      clear HT
      go_wp2_with ((first
            | ((with_reducible refine wl_box ?_ (fun K hK => ?_)); rfl; refine owp_box (o := ⟨some 1, _, _, _, _, _⟩) rfl st ?_; apply Exists.intro; refine ⟨?_, ?_⟩; (focus (go_simp; try rfl)); (clear st; intro b1 w hb st; clear hb))
            | ((with_reducible refine wl_alloc ?_ (fun K hK => ?_)); rfl; refine owp_alloc (o := ⟨some 5, _, _, _, _, _⟩) rfl st ?_; apply Exists.intro; apply Exists.intro; refine ⟨?_, ?_⟩; (focus (first | (go_simp; done) | (go_simp; rfl))); (clear st; intro b5 w hb st; clear hb))
            | ((with_reducible refine wl_store ?_ (fun K hK => ?_)); rfl; refine owp_store rfl st ?_; apply Exists.intro; apply Exists.intro; refine ⟨?_, ?_, ?_⟩; (focus (go_simp; try rfl)); (focus (go_simp; try rfl)); (first | (with_reducible refine ⟨0, _, _, _, _, get0, rfl, rfl, ?_, ?_, ?_, ?_⟩) | (with_reducible refine ⟨1, _, _, _, _, get1, rfl, rfl, ?_, ?_, ?_, ?_⟩) | (with_reducible refine ⟨2, _, _, _, _, get2, rfl, rfl, ?_, ?_, ?_, ?_⟩) | (with_reducible refine ⟨3, _, _, _, _, get3, rfl, rfl, ?_, ?_, ?_, ?_⟩) | (with_reducible refine ⟨4, _, _, _, _, get4, rfl, rfl, ?_, ?_, ?_, ?_⟩)); (kernel_rfl); (simp [Value.cells]); (rfl); (clear st; intro w st))); (try simp only [nsl, Value.cells, unB] at st); (try clear hc); have hc := st.facts; (try simp only [nfl, nft, Nat.reduceAdd] at hc))
      go_ret
      exact ⟨by rw [HR.out]; rfl, st.ext0⟩
def emptyR (x : MsgT) : Bool := decide (x.k = 2) && (decide (x.wn = 0) && decide (x.sn = 0))
set_option maxRecDepth 100000 in
set_option maxHeartbeats 1000000 in
theorem msgEmpty_any (x : MsgT) (W : World) (hx : MgOk W x) (lx : MgL x) : Calls Try.prog 77 #[mgV x] W fun e w' => e = .returned (.bool (emptyR x)) ∧ Ext W w' := by
  have HR : Hid (emptyR x = (decide (x.k = 2) && (decide (x.wn = 0) && decide (x.sn = 0)))) := Lib.hid rfl
  have l1 := lx.1
  have l2 := lx.2.1
  obtain ⟨r, hr⟩ : ∃ r, emptyR x = r := ⟨_, rfl⟩
  rw [hr] at HR ⊢
  clear hx lx hr
  obtain ⟨k, p, e, nm, wa, wn, wc, ws, sa, sn, sc, ss⟩ := x
  simp only at HR l1 l2
  have st := Own.startOld W
  unfold mgV S
  (try simp only [nsl, Value.cells, unB] at st)
  (try clear hc); have hc := st.facts; (try simp only [nfl, nft, Nat.reduceAdd] at hc)
  by_cases k2 : k = 2
  · subst k2
    by_cases h0 : wn = 0 ∧ sn = 0
    · obtain ⟨rfl, rfl⟩ := h0
      have H1 : Hid (r = true) := Lib.hid (by rw [HR.out]; rfl)
      go_enter Try.func77, Try.ntmps77
      go_wp2_with ((((with_reducible refine wl_box ?_ (fun K hK => ?_)); rfl; refine owp_box (o := ⟨some 1, _, _, _, _, _⟩) rfl st ?_; apply Exists.intro; refine ⟨?_, ?_⟩; (focus (go_simp; try rfl)); (clear st; intro b1 w hb st; clear hb))); (try simp only [nsl, Value.cells, unB] at st); (try clear hc); have hc := st.facts; (try simp only [nfl, nft, Nat.reduceAdd] at hc))
      go_ret
      exact ⟨by rw [H1.out]; rfl, st.ext0⟩
    · have H1 : Hid (r = false) := Lib.hid (by
        rw [HR.out]
        by_cases q : wn = 0
        · have : sn ≠ 0 := fun z => h0 ⟨q, z⟩
          simp [this]
        · simp [q])
      have hsb : (((wn : Int) + (sn : Int)) == 0) = false := by simp; omega
      clear h0
      go_enter Try.func77, Try.ntmps77
      go_wp2_with ((((with_reducible refine wl_box ?_ (fun K hK => ?_)); rfl; refine owp_box (o := ⟨some 1, _, _, _, _, _⟩) rfl st ?_; apply Exists.intro; refine ⟨?_, ?_⟩; (focus (go_simp; try rfl)); (clear st; intro b1 w hb st; clear hb))); (try simp only [nsl, Value.cells, unB] at st); (try clear hc); have hc := st.facts; (try simp only [nfl, nft, Nat.reduceAdd] at hc))
      go_ret
      exact ⟨by rw [H1.out]; rfl, st.ext0⟩
  · have H1 : Hid (r = false) := Lib.hid (by rw [HR.out, decide_eq_false k2]; rfl)
    have k2b : (k == 2) = false := by simpa using k2
    clear k2
    go_enter Try.func77, Try.ntmps77
    go_wp2_with ((((with_reducible refine wl_box ?_ (fun K hK => ?_)); rfl; refine owp_box (o := ⟨some 1, _, _, _, _, _⟩) rfl st ?_; apply Exists.intro; refine ⟨?_, ?_⟩; (focus (go_simp; try rfl)); (clear st; intro b1 w hb st; clear hb))); (try simp only [nsl, Value.cells, unB] at st); (try clear hc); have hc := st.facts; (try simp only [nfl, nft, Nat.reduceAdd] at hc))
    go_ret
    exact ⟨by rw [H1.out]; rfl, st.ext0⟩
end Go.Proofs.Ytekngjkjgmplpaa

namespace Go.Proofs.Ytekngjkjgmplpaa
set_option linter.unusedSimpArgs false
set_option linter.unusedVariables false
open Go Go.RowKit
set_option maxRecDepth 100000 in
set_option maxHeartbeats 2000000 in
theorem refSgBytes_any (x : SgnT) (W : World) (hx : SgOk W x) (hr : credR x.c = true) (hn : x.n = 8) :
    Calls Try.prog 144 #[sgV x] W fun e w' => e = .returned (S (sgB x)) ∧ Ext W w' := by
  have happ := ba_append
  have hb1 := credB_len2 hr
  have HCB := Lib.hid (fun W => refCredBytes_any x.c W hr)
  have hxl := hx.2.1
  have htl : x.xs.length = 8 := by omega
  have HTX := Lib.hid (fun W => refText_any x.xs W (by omega))
  have st := (Own.startOld W).addOldBy (i := 0) rfl hx.2
  obtain ⟨u, hu⟩ : ∃ u, credB x.c = u := ⟨_, rfl⟩
  have HR : Hid (sgB x = u ++ (numB x.xs.length ++ x.xs)) := Lib.hid (by rw [← hu]; unfold sgB; rw [hxl])
  rw [hu] at HCB hb1
  obtain ⟨t, ht⟩ : ∃ t, numB x.xs.length ++ x.xs = t := ⟨_, rfl⟩
  have htl2 : t.length ≤ 18 := by
    have : (numB x.xs.length).length ≤ 10 := numF_len 10 _
    rw [← ht]; simp; omega
  rw [ht] at HTX HR
  rw [HR.out]
  clear hr hu hx ht HR
  obtain ⟨⟨ck, ⟨ho, hd⟩, cw, ⟨bo, bd⟩, ⟨co, cd⟩, we⟩, a1, n1, m1, xs⟩ := x
  unfold cV S at HCB
  unfold S at HTX
  unfold sgV S
  simp only at HCB HTX st hn htl ⊢
  subst hn
  (try simp only [nsl, Value.cells, unB] at st)
  (try clear hc); have hc := st.facts; (try simp only [nfl, nft, Nat.reduceAdd] at hc)
  go_enter Try.func144, Try.ntmps144
  go_wp2_with ((((with_reducible refine wl_box ?_ (fun K hK => ?_)); rfl; refine owp_box (o := ⟨some 1, _, _, _, _, _⟩) rfl st ?_; apply Exists.intro; refine ⟨?_, ?_⟩; (focus (go_simp; try rfl)); (clear st; intro b1 w hb st; clear hb))); (try simp only [nsl, Value.cells, unB] at st); (try clear hc); have hc := st.facts; (try simp only [nfl, nft, Nat.reduceAdd] at hc))
  refine Rg4.wp_region4 (Rel := Ext) #[0, 1, 3, 0, 8, 24, 63, 127, 255]
    [(2, .val (.string ⟨u.toArray⟩)), (6, .val (.string ⟨t.toArray⟩))] [] [1, 4, 5] (fun _ => True) [0, 1, 2, 3, 4, 5, 6, 7, 8] (by kernel_rfl) (by kernel_rfl) (by kernel_rfl) (by kernel_rfl) Ext.refl (fun _ _ _ => Ext.trans) (show Rg4.PB _ by repeat (first | with_reducible exact Rg4.pb_body | with_reducible exact Rg4.pb_bodyD rfl | with_reducible refine Rg4.pb_then ?_ | with_reducible refine Rg4.pb_inBlock ?_ | with_reducible refine Rg4.pb_noGoto ?_)) (trivial) ?_
  replace st := st.drew
  change Rg4.wp4 _ _ _ _ _ _ _ _ _ (World.drew _) _ _
  generalize World.drew _ = w at st ⊢
  (try clear hc); have hc := st.facts; (try simp only [nfl, nft, Nat.reduceAdd] at hc)
  (refine Rg4.w4_any (Rg4.want_none rfl) rfl ?_; apply Exists.intro; refine ⟨fun w' => ?_, ?_⟩; (focus (first | (go_simp; done) | (go_simp; first | rfl | (rw [if_neg] <;> first | rfl | omega) | (rw [if_pos] <;> first | rfl | omega)))); (try simp only [Rg4.nrm]))
  (refine Rg4.w4_read (Rg4.want_none rfl) rfl rfl ?_; apply Exists.intro; refine ⟨fun w' hw' hcl' => ?_, ?_⟩; focus (have st' := st.ext hw'; have hc' := st'.facts; (try simp only [nfl, nft, Nat.reduceAdd] at hc'); have q := conv_bs (P := Try.prog) (src := 33) (dst := 9) (c := m1) Try.underlying33 Try.underlying5 Try.underlying9 (st'.by (i := 1) get1); unfold S at q; (focus (first | (go_simp; done) | (go_simp; first | rfl | (rw [if_neg] <;> first | rfl | omega) | (rw [if_pos] <;> first | rfl | omega))))); (try simp only [Rg4.nrm]))
  refine Rg4.w4_some (Rg4.want_none rfl) rfl (fun w' hw' hcl' _ => ?_) ?_
  · refine Rg.relAt_call (by go_simp; exact ⟨rfl, rfl⟩) ?_
    refine (HCB.out _).mono ?_
    rintro en w'' ⟨rfl, hx⟩
    exact ⟨_, rfl, hx, trivial, rfl⟩
  rintro v ⟨_, _, _, rfl⟩
  (try simp only [Rg4.nrm])
  (refine Rg4.w4_any (Rg4.want_none rfl) rfl ?_; apply Exists.intro; refine ⟨fun w' => ?_, ?_⟩; (focus (first | (go_simp; done) | (go_simp; first | rfl | (rw [if_neg] <;> first | rfl | omega) | (rw [if_pos] <;> first | rfl | omega)))); (try simp only [Rg4.nrm]))
  iterate 2 (refine Rg4.w4_read (Rg4.want_none rfl) rfl rfl ?_; apply Exists.intro; refine ⟨fun w' hw' hcl' => ?_, ?_⟩; focus (have st' := st.ext hw'; have hc' := st'.facts; (try simp only [nfl, nft, Nat.reduceAdd] at hc'); have q := conv_bs (P := Try.prog) (src := 33) (dst := 9) (c := m1) Try.underlying33 Try.underlying5 Try.underlying9 (st'.by (i := 1) get1); unfold S at q; (focus (first | (go_simp; done) | (go_simp; first | rfl | (rw [if_neg] <;> first | rfl | omega) | (rw [if_pos] <;> first | rfl | omega))))); (try simp only [Rg4.nrm]))
  refine Rg4.w4_some (Rg4.want_none rfl) rfl (fun w' hw' hcl' _ => ?_) ?_
  · refine Rg.relAt_call (by go_simp; exact ⟨rfl, rfl⟩) ?_
    refine (HTX.out _).mono ?_
    rintro en w'' ⟨rfl, hx⟩
    exact ⟨_, rfl, hx, trivial, rfl⟩
  rintro v ⟨_, _, _, rfl⟩
  (try simp only [Rg4.nrm])
  iterate 2 (refine Rg4.w4_any (Rg4.want_none rfl) rfl ?_; apply Exists.intro; refine ⟨fun w' => ?_, ?_⟩; (focus (first | (go_simp; done) | (go_simp; first | rfl | (rw [if_neg] <;> first | rfl | omega) | (rw [if_pos] <;> first | rfl | omega)))); (try simp only [Rg4.nrm]))
  refine Rg4.w4_nil (fun w' hw' hcl' _ => ?_); replace st := st.ext hw'; clear hw' hcl'; (try clear hc); have hc := st.facts; (try simp only [nfl, nft, Nat.reduceAdd] at hc)
  go_wp2_with fail
  go_ret
  exact ⟨by simp, st.ext0⟩
set_option maxRecDepth 100000 in
set_option maxHeartbeats 8000000 in
theorem refMsgBytes_any (x : MsgT) (W : World) (hx : MgOk W x) (hr : mgR x = true) : Calls Try.prog 71 #[mgV x] W fun e w' => e = .returned (S (mgB x)) ∧ Ext W w' := by
  have happ := ba_append
  have hk := (mgR_k hr).2
  have HX := Lib.hid hx
  have HB : Hid (mgB x = numB x.k.toNat ++
    (if x.k = 1 then (numB x.nm.length ++ x.nm) ++ numB x.p.toNat else if x.k = 2 then numB x.wn ++ x.ws.flatMap roleB ++ numB x.sn ++ x.ss.flatMap sgB else if x.k = 5 then numB x.e.toNat else [])) := Lib.hid rfl
  have H1 := Lib.hid (mgR_1 hr)
  have H2 := Lib.hid (fun q => (And.intro (wantsR_is (mgR_2 hr q).1) (showsR_is (mgR_2 hr q).2)))
  have H5 := Lib.hid (mgR_5 hr)
  obtain ⟨r, hrr⟩ : ∃ r, mgB x = r := ⟨_, rfl⟩
  rw [hrr] at HB ⊢
  clear hx hr hrr
  obtain ⟨k, pl, e, nm, wa, wn, wc, ws, sa, sn, sc, ss⟩ := x
  simp only at hk HB H1 H2 H5
  unfold MgOk at HX
  simp only at HX
  have st := Own.startOld W
  unfold mgV S
  (try simp only [nsl, Value.cells, unB] at st)
  (try clear hc); have hc := st.facts; (try simp only [nfl, nft, Nat.reduceAdd] at hc)
  rcases hk with rfl | rfl | rfl | rfl | rfl
  · obtain ⟨hn1, hp1⟩ := H1.out rfl
    obtain ⟨pn, rfl⟩ : ∃ q : Nat, pl = (q : Int) := ⟨pl.toNat, by omega⟩
    have hl3 := (nameR_len hn1).2
    have hb3 : (numB nm.length).length ≤ 10 := numF_len 10 nm.length
    have hb1 : (numB 1).length ≤ 10 := numF_len 10 1
    have hb4 : (numB pn).length ≤ 10 := numF_len 10 pn
    have HTX := Lib.hid (fun W => refText_any nm W (by omega))
    have HNX := Lib.hid (fun W => refNumber_any pn W (by omega))
    unfold S at HTX HNX
    obtain ⟨t, ht⟩ : ∃ t, numB nm.length ++ nm = t := ⟨_, rfl⟩
    have htl : t.length ≤ 26 := by rw [← ht]; simp; omega
    have HF : Hid (r = numB 1 ++ (t ++ numB pn)) := Lib.hid (by rw [HB.out, if_pos rfl, ← ht]; simp)
    rw [ht] at HTX
    clear hn1 hp1 HB H1 H2 H5 ht
    go_enter Try.func71, Try.ntmps71
    go_wp2_with ((((with_reducible refine wl_box ?_ (fun K hK => ?_)); rfl; refine owp_box (o := ⟨some 1, _, _, _, _, _⟩) rfl st ?_; apply Exists.intro; refine ⟨?_, ?_⟩; (focus (go_simp; try rfl)); (clear st; intro b1 w hb st; clear hb))); (try simp only [nsl, Value.cells, unB] at st); (try clear hc); have hc := st.facts; (try simp only [nfl, nft, Nat.reduceAdd] at hc))
    refine (refNumber_any 1 _ (by decide)).mono ?_
    rintro en w ⟨rfl, hx⟩
    replace st := st.ext hx
    clear hx
    (try clear hc); have hc := st.facts; (try simp only [nfl, nft, Nat.reduceAdd] at hc)
    unfold S
    go_wp2_with fail
    refine Rg4.wp_region4 (Rel := Ext) #[0, 0, 2, 6, 0, 16, 62, 126, 255, 511]
      [(3, .val (.string ⟨t.toArray⟩)), (6, .val (.string ⟨(numB pn).toArray⟩))] [] [2, 5] (fun _ => True) [0, 1, 2, 3, 4, 5, 6, 7, 8, 9] (by kernel_rfl) (by kernel_rfl) (by kernel_rfl) (by kernel_rfl) Ext.refl (fun _ _ _ => Ext.trans) (show Rg4.PB _ by repeat (first | with_reducible exact Rg4.pb_body | with_reducible exact Rg4.pb_bodyD rfl | with_reducible refine Rg4.pb_then ?_ | with_reducible refine Rg4.pb_inBlock ?_ | with_reducible refine Rg4.pb_noGoto ?_)) (trivial) ?_
    replace st := st.drew
    change Rg4.wp4 _ _ _ _ _ _ _ _ _ (World.drew _) _ _
    generalize World.drew _ = w at st ⊢
    (try clear hc); have hc := st.facts; (try simp only [nfl, nft, Nat.reduceAdd] at hc)
    iterate 2 (refine Rg4.w4_any (Rg4.want_none rfl) rfl ?_; apply Exists.intro; refine ⟨fun w' => ?_, ?_⟩; (focus (first | (go_simp; done) | (go_simp; first | rfl | (rw [if_neg] <;> first | rfl | omega) | (rw [if_pos] <;> first | rfl | omega)))); (try simp only [Rg4.nrm]))
    (refine Rg4.w4_read (Rg4.want_none rfl) rfl rfl ?_; apply Exists.intro; refine ⟨fun w' hw' hcl' => ?_, ?_⟩; focus (have st' := st.ext hw'; have hc' := st'.facts; (try simp only [nfl, nft, Nat.reduceAdd] at hc'); (focus (first | (go_simp; done) | (go_simp; first | rfl | (rw [if_neg] <;> first | rfl | omega) | (rw [if_pos] <;> first | rfl | omega))))); (try simp only [Rg4.nrm]))
    refine Rg4.w4_some (Rg4.want_none rfl) rfl (fun w' hw' hcl' _ => ?_) ?_
    · refine Rg.relAt_call (by go_simp; exact ⟨rfl, rfl⟩) ?_
      refine (HTX.out _).mono ?_
      rintro en w'' ⟨rfl, hx⟩
      exact ⟨_, rfl, hx, trivial, rfl⟩
    rintro v ⟨_, _, _, rfl⟩
    (try simp only [Rg4.nrm])
    (refine Rg4.w4_any (Rg4.want_none rfl) rfl ?_; apply Exists.intro; refine ⟨fun w' => ?_, ?_⟩; (focus (first | (go_simp; done) | (go_simp; first | rfl | (rw [if_neg] <;> first | rfl | omega) | (rw [if_pos] <;> first | rfl | omega)))); (try simp only [Rg4.nrm]))
    (refine Rg4.w4_read (Rg4.want_none rfl) rfl rfl ?_; apply Exists.intro; refine ⟨fun w' hw' hcl' => ?_, ?_⟩; focus (have st' := st.ext hw'; have hc' := st'.facts; (try simp only [nfl, nft, Nat.reduceAdd] at hc'); (focus (first | (go_simp; done) | (go_simp; first | rfl | (rw [if_neg] <;> first | rfl | omega) | (rw [if_pos] <;> first | rfl | omega))))); (try simp only [Rg4.nrm]))
    refine Rg4.w4_some (Rg4.want_none rfl) rfl (fun w' hw' hcl' _ => ?_) ?_
    · refine Rg.relAt_call (by go_simp; exact ⟨rfl, rfl⟩) ?_
      refine (HNX.out _).mono ?_
      rintro en w'' ⟨rfl, hx⟩
      exact ⟨_, rfl, hx, trivial, rfl⟩
    rintro v ⟨_, _, _, rfl⟩
    (try simp only [Rg4.nrm])
    iterate 3 (refine Rg4.w4_any (Rg4.want_none rfl) rfl ?_; apply Exists.intro; refine ⟨fun w' => ?_, ?_⟩; (focus (first | (go_simp; done) | (go_simp; first | rfl | (rw [if_neg] <;> first | rfl | omega) | (rw [if_pos] <;> first | rfl | omega)))); (try simp only [Rg4.nrm]))
    refine Rg4.w4_nil (fun w' hw' hcl' _ => ?_); replace st := st.ext hw'; clear hw' hcl'; (try clear hc); have hc := st.facts; (try simp only [nfl, nft, Nat.reduceAdd] at hc)
    go_wp2_with fail
    go_ret
    exact ⟨by rw [HF.out]; simp, st.ext0⟩
  · obtain ⟨⟨hwl, hwr⟩, hsl, hsr⟩ := H2.out rfl
    have HF : Hid (r = numB 2 ++ (numB wn ++ ws.flatMap roleB ++ numB sn ++ ss.flatMap sgB)) := Lib.hid (by rw [HB.out, if_neg (by decide), if_pos rfl]; rfl)
    have hw1 : wn = ws.length := HX.out.1.2.1
    have hs1 : sn = ss.length := HX.out.2.1.2.1
    have HWR := Lib.hid (And.intro hwr hw1)
    have HSR := Lib.hid (And.intro hsr hs1)
    have hwn : wn ≤ 16 := by omega
    have hsn : sn ≤ 8 := by omega
    have hb1 : (numB 2).length ≤ 10 := numF_len 10 2
    have hb2 : (numB wn).length ≤ 10 := numF_len 10 wn
    have hb3 : (numB sn).length ≤ 10 := numF_len 10 sn
    clear hwl hwr hsl hsr HB H1 H2 H5 hw1 hs1
    go_enter Try.func71, Try.ntmps71
    go_wp2_with ((((with_reducible refine wl_box ?_ (fun K hK => ?_)); rfl; refine owp_box (o := ⟨some 1, _, _, _, _, _⟩) rfl st ?_; apply Exists.intro; refine ⟨?_, ?_⟩; (focus (go_simp; try rfl)); (clear st; intro b1 w hb st; clear hb))); (try simp only [nsl, Value.cells, unB] at st); (try clear hc); have hc := st.facts; (try simp only [nfl, nft, Nat.reduceAdd] at hc))
    refine (refNumber_any 2 _ (by decide)).mono ?_
    rintro en w ⟨rfl, hx⟩
    replace st := st.ext hx
    clear hx
    (try clear hc); have hc := st.facts; (try simp only [nfl, nft, Nat.reduceAdd] at hc)
    unfold S
    go_wp2_with fail
    refine (refNumber_any wn _ (by omega)).mono ?_
    rintro en w ⟨rfl, hx⟩
    replace st := st.ext hx
    clear hx
    (try clear hc); have hc := st.facts; (try simp only [nfl, nft, Nat.reduceAdd] at hc)
    unfold S
    go_wp2_with fail
    obtain ⟨y0, hy0⟩ : ∃ y, numB 2 ++ numB wn = y := ⟨_, rfl⟩
    have hyl : y0.length ≤ 20 := by rw [← hy0]; simp; omega
    have HY0 := Lib.hid hy0
    clear hy0
    go_loopg [3, 35] wn (fun kk v i wr => ∃ (j m : Nat) (ys : List UInt8), j ≤ wn ∧ kk = wn - j ∧ i = .int .i64 (j : Int) ∧ v = .string ⟨ys.toArray⟩ ∧ Hid (ys = y0 ++ (ws.take j).flatMap roleB) ∧ Hid (m = ys.length) ∧ m ≤ 20 + 100 * j ∧ Own (fun _ => False) (fun _ => True) W [oldI W, blkI b1 [.int .i64 2, .int .i64 pl, .int .i64 e, .string ⟨nm.toArray⟩, .slice wa wn wc, .slice sa sn sc]] wr)
    case atStart => exact ⟨0, _, y0, by omega, by omega, rfl, by rw [← HY0.out] <;> simp, Lib.hid (by simp), Lib.hid rfl, by omega, st⟩
    case round =>
      obtain ⟨j, m, ys, hj, rfl, rfl, rfl, HY, HM, hm, st'⟩ := hrel
      clear st hc
      have st := st'
      clear st'
      (try simp only [nsl, Value.cells, unB] at st)
      (try clear hc); have hc := st.facts; (try simp only [nfl, nft, Nat.reduceAdd] at hc)
      by_cases hjn : j < wn
      · obtain ⟨b, off, ha, hcell⟩ := HX.out.1.2.role (by omega)
        have hjl : j < ws.length := by have := HWR.out.2; omega
        obtain ⟨r0, r1⟩ := hcell j ws[j] (List.getElem?_eq_getElem hjl)
        replace r0 := st.oldCell (i := 0) get0 r0
        replace r1 := st.oldCell (i := 0) get0 r1
        have hts : ws.take (j + 1) = ws.take j ++ [ws[j]] := (List.take_append_getElem hjl).symm
        have hR := HWR.out.1 ws[j] (List.getElem_mem hjl)
        have hbl := roleB_len hR
        have hrl := roleR_len hR
        clear hcell
        generalize ws[j] = x at *
        obtain ⟨ro, rd⟩ := x
        have HRB := Lib.hid (fun W => refRoleBytes_any (ro, rd) W (by simp only at hrl ⊢; omega) (by simp only at hrl ⊢; omega))
        obtain ⟨rb, hrb⟩ : ∃ s, roleB (ro, rd) = s := ⟨_, rfl⟩
        rw [hrb] at hbl HRB
        have HX2 := Lib.hid (And.intro hts hrb)
        unfold rV S at HRB
        clear hts hR hjl hrb hrl
        subst ha
        simp only at r0 r1
        unfold S at r0 r1
        have hml : ys.length ≤ 20 + 100 * j := by have := HM.out; omega
        go_wp2_with ((first
              | ((with_reducible refine wl_alloc ?_ (fun K hK => ?_)); rfl; refine owp_alloc (o := ⟨some 5, _, _, _, _, _⟩) rfl st ?_; apply Exists.intro; apply Exists.intro; refine ⟨?_, ?_⟩; (focus (first | (go_simp; done) | (go_simp; rfl))); (clear st; intro b5 w hb st; clear hb))
              | ((with_reducible refine wl_store ?_ (fun K hK => ?_)); rfl; refine owp_store rfl st ?_; apply Exists.intro; apply Exists.intro; refine ⟨?_, ?_, ?_⟩; (focus (go_simp; try rfl)); (focus (go_simp; try rfl)); (with_reducible refine ⟨2, _, _, _, _, get2, rfl, rfl, ?_, ?_, ?_, ?_⟩); (kernel_rfl); (simp [Value.cells]); (rfl); (clear st; intro w st))); (try simp only [nsl, Value.cells, unB] at st); (try clear hc); have hc := st.facts; (try simp only [nfl, nft, Nat.reduceAdd] at hc))
        refine (HRB.out _).mono ?_
        rintro en w ⟨rfl, hx⟩
        replace st := st.ext hx
        clear hx
        (try clear hc); have hc := st.facts; (try simp only [nfl, nft, Nat.reduceAdd] at hc)
        go_wp2_with fail
        have st' := st.keep [0, 1] (by decide) (by simp)
        go_roundg (wn - (j + 1))
        case measure => omega
        case rel => exact ⟨j + 1, _, ys ++ rb, by omega, by omega, by go_num, by simp, Lib.hid (by rw [HX2.out.1, List.flatMap_append, ← List.append_assoc, ← HY.out]; simp [HX2.out.2]), Lib.hid rfl, by simp; omega, by simpa [pick] using st'⟩
      · obtain rfl : j = wn := by omega
        have HYE : Hid (numB 2 ++ numB j ++ ws.flatMap roleB = ys) := Lib.hid (by rw [HY.out, HY0.out, List.take_of_length_le (by have := HWR.out.2; omega)])
        have hml : ys.length ≤ 2000 := by have := HM.out; omega
        clear HY HM hm HY0
        go_wp2_with fail
        refine (refNumber_any sn _ (by omega)).mono ?_
        rintro en w ⟨rfl, hx⟩
        replace st := st.ext hx
        clear hx
        (try clear hc); have hc := st.facts; (try simp only [nfl, nft, Nat.reduceAdd] at hc)
        unfold S
        go_wp2_with fail
        obtain ⟨z0, hz0⟩ : ∃ z, ys ++ numB sn = z := ⟨_, rfl⟩
        have hzl : z0.length ≤ 2010 := by rw [← hz0]; simp; omega
        have HZ0 := Lib.hid hz0
        clear hz0
        go_loopg [3, 53] sn (fun kk v i wr => ∃ (q m : Nat) (zs : List UInt8), q ≤ sn ∧ kk = sn - q ∧ i = .int .i64 (q : Int) ∧ v = .string ⟨zs.toArray⟩ ∧ Hid (zs = z0 ++ (ss.take q).flatMap sgB) ∧ Hid (m = zs.length) ∧ m ≤ 2010 + 400 * q ∧ Own (fun _ => False) (fun _ => True) W [oldI W, blkI b1 [.int .i64 2, .int .i64 pl, .int .i64 e, .string ⟨nm.toArray⟩, .slice wa j wc, .slice sa sn sc]] wr)
        case atStart => exact ⟨0, _, z0, by omega, by omega, rfl, by rw [← HZ0.out] <;> simp, Lib.hid (by simp), Lib.hid rfl, by omega, by first | exact st | simpa [pick] using st.keep [0, 1] (by decide) (by simp)⟩
        case round =>
          obtain ⟨q, m, zs, hq, rfl, rfl, rfl, HZ, HM, hm, st'⟩ := hrel
          clear st hc
          have st := st'
          clear st'
          (try simp only [nsl, Value.cells, unB] at st)
          (try clear hc); have hc := st.facts; (try simp only [nfl, nft, Nat.reduceAdd] at hc)
          by_cases hqn : q < sn
          · obtain ⟨b, off, ha, hcell⟩ := HX.out.2.1.2.sgn (by omega)
            have hql : q < ss.length := by have := HSR.out.2; omega
            obtain ⟨r0, r1, r2, r3, r4, r5, r6, r7, r8, r9⟩ := hcell q ss[q] (List.getElem?_eq_getElem hql)
            replace r0 := st.oldCell (i := 0) get0 r0
            replace r1 := st.oldCell (i := 0) get0 r1
            replace r2 := st.oldCell (i := 0) get0 r2
            replace r3 := st.oldCell (i := 0) get0 r3
            replace r4 := st.oldCell (i := 0) get0 r4
            replace r5 := st.oldCell (i := 0) get0 r5
            replace r6 := st.oldCell (i := 0) get0 r6
            replace r7 := st.oldCell (i := 0) get0 r7
            replace r8 := st.oldCell (i := 0) get0 r8
            replace r9 := st.oldCell (i := 0) get0 r9
            have hts : ss.take (q + 1) = ss.take q ++ [ss[q]] := (List.take_append_getElem hql).symm
            have hR := HSR.out.1 ss[q] (List.getElem_mem hql)
            have HSO := Lib.hid (HX.out.2.2 ss[q] (List.getElem_mem hql))
            have hbl := sgB_len hR.1 hR.2 HSO.out.2.1
            clear hcell
            generalize ss[q] = x at *
            have HKP := Lib.hid (fun W' (hw : Ext W W') => refSgBytes_any x W' (HSO.out.ext hw) hR.1 hR.2)
            obtain ⟨sb, hsb⟩ : ∃ s, sgB x = s := ⟨_, rfl⟩
            rw [hsb] at hbl HKP
            have HX2 := Lib.hid (And.intro hts hsb)
            clear hts hR hql hsb
            obtain ⟨⟨ck, ⟨ho, hd⟩, cw, ⟨bo, bd⟩, ⟨co, cd⟩, we⟩, a1, n1, m1, tg⟩ := x
            subst ha
            simp only at r0 r1 r2 r3 r4 r5 r6 r7 r8 r9
            unfold S at r1 r2 r3 r4 r5 r6 r7 r8
            unfold sgV S at HKP
            simp only at HKP
            have hml : zs.length ≤ 2010 + 400 * q := by have := HM.out; omega
            go_wp2_with ((first
                  | ((with_reducible refine wl_store ?_ (fun K hK => ?_)); rfl; refine owp_store rfl st ?_; apply Exists.intro; apply Exists.intro; refine ⟨?_, ?_, ?_⟩; (focus (go_simp; try rfl)); (focus (go_simp; try rfl)); (with_reducible refine ⟨2, _, _, _, _, get2, rfl, rfl, ?_, ?_, ?_, ?_⟩); (kernel_rfl); (simp [Value.cells]); (rfl); (clear st; intro w st))
                  | ((with_reducible refine wl_alloc ?_ (fun K hK => ?_)); rfl; refine owp_alloc (o := ⟨some 7, _, _, _, _, _⟩) rfl st ?_; apply Exists.intro; apply Exists.intro; refine ⟨?_, ?_⟩; (focus (first | (go_simp; done) | (go_simp; rfl))); (clear st; intro b7 w hb st; clear hb))); (try simp only [nsl, Value.cells, unB] at st); (try clear hc); have hc := st.facts; (try simp only [nfl, nft, Nat.reduceAdd] at hc))
            refine (HKP.out _ st.ext0).mono ?_
            rintro en w ⟨rfl, hx⟩
            replace st := st.ext hx
            clear hx
            (try clear hc); have hc := st.facts; (try simp only [nfl, nft, Nat.reduceAdd] at hc)
            go_wp2_with fail
            have st' := st.keep [0, 1] (by decide) (by simp)
            go_roundg (sn - (q + 1))
            case measure => omega
            case rel => exact ⟨q + 1, _, zs ++ sb, by omega, by omega, by go_num, by simp, Lib.hid (by rw [HX2.out.1, List.flatMap_append, ← List.append_assoc, ← HZ.out]; simp [HX2.out.2]), Lib.hid rfl, by simp; omega, by simpa [pick] using st'⟩
          · obtain rfl : q = sn := by omega
            have HFF : Hid (r = zs) := Lib.hid (by rw [HF.out, HZ.out, ← HZ0.out, ← HYE.out, List.take_of_length_le (by have := HSR.out.2; omega)]; simp)
            go_wp2_with fail
            go_ret
            exact ⟨by rw [HFF.out]; rfl, st.ext0⟩
  · have HF : Hid (r = numB 3) := Lib.hid (by rw [HB.out, if_neg (by decide), if_neg (by decide), if_neg (by decide)]; simp)
    clear HB H1 H2 H5
    go_enter Try.func71, Try.ntmps71
    go_wp2_with ((((with_reducible refine wl_box ?_ (fun K hK => ?_)); rfl; refine owp_box (o := ⟨some 1, _, _, _, _, _⟩) rfl st ?_; apply Exists.intro; refine ⟨?_, ?_⟩; (focus (go_simp; try rfl)); (clear st; intro b1 w hb st; clear hb))); (try simp only [nsl, Value.cells, unB] at st); (try clear hc); have hc := st.facts; (try simp only [nfl, nft, Nat.reduceAdd] at hc))
    refine (refNumber_any 3 _ (by decide)).mono ?_
    rintro en w ⟨rfl, hx⟩
    replace st := st.ext hx
    clear hx
    (try clear hc); have hc := st.facts; (try simp only [nfl, nft, Nat.reduceAdd] at hc)
    unfold S
    go_wp2_with fail
    go_ret
    exact ⟨by rw [HF.out]; rfl, st.ext0⟩
  · have HF : Hid (r = numB 4) := Lib.hid (by rw [HB.out, if_neg (by decide), if_neg (by decide), if_neg (by decide)]; simp)
    clear HB H1 H2 H5
    go_enter Try.func71, Try.ntmps71
    go_wp2_with ((((with_reducible refine wl_box ?_ (fun K hK => ?_)); rfl; refine owp_box (o := ⟨some 1, _, _, _, _, _⟩) rfl st ?_; apply Exists.intro; refine ⟨?_, ?_⟩; (focus (go_simp; try rfl)); (clear st; intro b1 w hb st; clear hb))); (try simp only [nsl, Value.cells, unB] at st); (try clear hc); have hc := st.facts; (try simp only [nfl, nft, Nat.reduceAdd] at hc))
    refine (refNumber_any 4 _ (by decide)).mono ?_
    rintro en w ⟨rfl, hx⟩
    replace st := st.ext hx
    clear hx
    (try clear hc); have hc := st.facts; (try simp only [nfl, nft, Nat.reduceAdd] at hc)
    unfold S
    go_wp2_with fail
    go_ret
    exact ⟨by rw [HF.out]; rfl, st.ext0⟩
  · obtain ⟨he1, he2⟩ := H5.out rfl
    obtain ⟨en, rfl⟩ : ∃ q : Nat, e = (q : Int) := ⟨e.toNat, by omega⟩
    have HF : Hid (r = numB 5 ++ numB en) := Lib.hid (by rw [HB.out, if_neg (by decide), if_neg (by decide), if_pos rfl]; simp)
    have hb1 : (numB 5).length ≤ 10 := numF_len 10 5
    have hb2 : (numB en).length ≤ 10 := numF_len 10 en
    have hen : en ≤ 99 := by omega
    clear HB H1 H2 H5 he1 he2
    go_enter Try.func71, Try.ntmps71
    go_wp2_with ((((with_reducible refine wl_box ?_ (fun K hK => ?_)); rfl; refine owp_box (o := ⟨some 1, _, _, _, _, _⟩) rfl st ?_; apply Exists.intro; refine ⟨?_, ?_⟩; (focus (go_simp; try rfl)); (clear st; intro b1 w hb st; clear hb))); (try simp only [nsl, Value.cells, unB] at st); (try clear hc); have hc := st.facts; (try simp only [nfl, nft, Nat.reduceAdd] at hc))
    refine (refNumber_any 5 _ (by decide)).mono ?_
    rintro en w ⟨rfl, hx⟩
    replace st := st.ext hx
    clear hx
    (try clear hc); have hc := st.facts; (try simp only [nfl, nft, Nat.reduceAdd] at hc)
    unfold S
    go_wp2_with fail
    refine (refNumber_any en _ (by omega)).mono ?_
    rintro en w ⟨rfl, hx⟩
    replace st := st.ext hx
    clear hx
    (try clear hc); have hc := st.facts; (try simp only [nfl, nft, Nat.reduceAdd] at hc)
    unfold S
    go_wp2_with fail
    go_ret
    exact ⟨by rw [HF.out]; simp, st.ext0⟩
theorem mgB_len {W : World} {x : MsgT} (hx : MgOk W x) (h : mgR x = true) : (mgB x).length ≤ 10000 := by
  have n1 : (numB x.k.toNat).length ≤ 10 := numF_len 10 _
  have n2 : (numB x.wn).length ≤ 10 := numF_len 10 _
  have n3 : (numB x.sn).length ≤ 10 := numF_len 10 _
  have n4 : (numB x.nm.length).length ≤ 10 := numF_len 10 _
  have n5 : (numB x.p.toNat).length ≤ 10 := numF_len 10 _
  have n6 : (numB x.e.toNat).length ≤ 10 := numF_len 10 _
  unfold mgB
  rw [List.length_append]
  split
  · have := (nameR_len (mgR_1 h (by assumption)).1).2
    simp only [List.length_append]; omega
  · split
    · obtain ⟨h1, h2⟩ := mgR_2 h (by assumption)
      have w1 := wantsR_is h1
      have s1 := showsR_is h2
      have a1 := flatLen roleB 60 x.ws (fun y hy => roleB_len (w1.2 y hy))
      have a2 := flatLen sgB 400 x.ss (fun y hy => sgB_len (s1.2 y hy).1 (s1.2 y hy).2 (hx.2.2 y hy).2.1)
      simp only [List.length_append]; omega
    · split
      · omega
      · simp; omega
set_option maxRecDepth 100000 in
set_option maxHeartbeats 2000000 in
theorem msgBytes_any (x : MsgT) (W : World) (hx : MgOk W x) (lx : MgL x) :
    Calls Try.prog 74 #[mgV x] W fun e w' => ∃ a n c, e = .returned (.slice a n c) ∧ FreshI W w' (rowI 5 1 (.slice a n c) n ((mgBy x).map B)) := by
  have HX := Lib.hid hx
  have HE := Lib.hid (show mgBy x = if mgR x = true then mgB x else [] from rfl)
  have HUL : Hid (mgR x = true → (mgB x).length ≤ 10000) := Lib.hid (mgB_len hx)
  have HPY := Lib.hid (fun (fr al : Nat → Prop) (W' : World) (p : Nat) (st : Own fr al W' [penI p [], oldI W] W') q => msgPut_yes x st hx lx q (by simp))
  have HPN := Lib.hid (fun p W' (h : MgOk W' x) q => msgPut_no p x W' h lx q)
  obtain ⟨r, hr⟩ : ∃ r, mgBy x = r := ⟨_, rfl⟩
  obtain ⟨u, hu⟩ : ∃ u, mgB x = u := ⟨_, rfl⟩
  rw [hu] at HPY HUL HE
  rw [hr] at HE ⊢
  clear hx lx hr hu
  obtain ⟨mr, hmr⟩ : ∃ q, mgR x = q := ⟨_, rfl⟩
  rw [hmr] at HPY HPN HE HUL
  clear hmr
  obtain ⟨k, p, e, nm, wa, wn, wc, ws, sa, sn, sc, ss⟩ := x
  unfold mgV S at *
  have st := Own.startOld W
  (try simp only [nsl, Value.cells, unB] at st)
  (try clear hc); have hc := st.facts; (try simp only [nfl, nft, Nat.reduceAdd] at hc)
  cases mr with
  | true =>
    have hul := HUL.out rfl
    have HF : Hid (r = u) := Lib.hid (by rw [HE.out, if_pos rfl])
    go_enter Try.func74, Try.ntmps74
    go_wp2_with ((first
          | ((with_reducible refine wl_box ?_ (fun K hK => ?_)); rfl; refine owp_box (o := ⟨some 1, _, _, _, _, _⟩) rfl st ?_; apply Exists.intro; refine ⟨?_, ?_⟩; (focus (go_simp; try rfl)); (clear st; intro b1 w hb st; clear hb))
          | ((with_reducible refine wl_box ?_ (fun K hK => ?_)); rfl; refine owp_box (o := ⟨some 5, _, _, _, _, _⟩) rfl st ?_; apply Exists.intro; refine ⟨?_, ?_⟩; (focus (go_simp; try rfl)); (clear st; intro b5 w hb st; clear hb))); (try simp only [nsl, Value.cells, unB] at st); (try clear hc); have hc := st.facts; (try simp only [nfl, nft, Nat.reduceAdd] at hc))
    replace st := st.newPen (i := 2) get2
    (try simp only [nsl, Value.cells, unB] at st)
    (try clear hc); have hc := st.facts; (try simp only [nfl, nft, Nat.reduceAdd] at hc)
    obtain ⟨fr', al', st', back⟩ := st.sub [2, 0] (by decide) (by simp)
    (try simp only [nsl, Value.cells, unB] at st')
    refine (HPY.out _ _ _ _ st' (by trivial)).mono ?_
    clear st'
    rintro en w ⟨rfl, st'⟩
    replace st := back _ _ (by simp) st'
    clear back st'
    (try simp only [nsl, Value.cells, unB] at st)
    (try clear hc); have hc := st.facts; (try simp only [nfl, nft, Nat.reduceAdd] at hc)
    (try simp only [List.nil_append] at st)
    go_wp2_with fail
    obtain ⟨fr', al', st', back⟩ := st.sub [2] (by decide) (by simp)
    (try simp only [nsl, Value.cells, unB] at st')
    refine (penBytesRow_c st' (by omega)).mono ?_
    clear st'
    rintro en w ⟨pa, pc, rfl, hpc, st'⟩
    replace st := back _ _ (by simp) st'
    clear back st'
    (try simp only [nsl, Value.cells, unB] at st)
    (try clear hc); have hc := st.facts; (try simp only [nfl, nft, Nat.reduceAdd] at hc)
    go_wp2_with fail
    go_ret
    exact ⟨_, _, _, rfl, by rw [HF.out]; exact st.toFresh (i := 3) get3⟩
  | false =>
    have HF : Hid (r = []) := Lib.hid (by rw [HE.out, if_neg (by decide)])
    go_enter Try.func74, Try.ntmps74
    go_wp2_with ((first
          | ((with_reducible refine wl_box ?_ (fun K hK => ?_)); rfl; refine owp_box (o := ⟨some 1, _, _, _, _, _⟩) rfl st ?_; apply Exists.intro; refine ⟨?_, ?_⟩; (focus (go_simp; try rfl)); (clear st; intro b1 w hb st; clear hb))
          | ((with_reducible refine wl_box ?_ (fun K hK => ?_)); rfl; refine owp_box (o := ⟨some 5, _, _, _, _, _⟩) rfl st ?_; apply Exists.intro; refine ⟨?_, ?_⟩; (focus (go_simp; try rfl)); (clear st; intro b5 w hb st; clear hb))); (try simp only [nsl, Value.cells, unB] at st); (try clear hc); have hc := st.facts; (try simp only [nfl, nft, Nat.reduceAdd] at hc))
    replace st := st.newPen (i := 2) get2
    (try simp only [nsl, Value.cells, unB] at st)
    (try clear hc); have hc := st.facts; (try simp only [nfl, nft, Nat.reduceAdd] at hc)
    refine (HPN.out _ _ (st.oldMg (i := 0) get0 HX.out) (.inr (by trivial))).mono ?_
    rintro en w ⟨rfl, hx⟩
    replace st := st.ext hx
    clear hx
    (try simp only [nsl, Value.cells, unB] at st)
    (try clear hc); have hc := st.facts; (try simp only [nfl, nft, Nat.reduceAdd] at hc)
    go_wp2_with fail
    obtain ⟨fr', al', st', back⟩ := st.sub [2] (by decide) (by simp)
    (try simp only [nsl, Value.cells, unB] at st')
    refine (penBytesRow_c st' (by simp)).mono ?_
    clear st'
    rintro en w ⟨pa, pc, rfl, hpc, st'⟩
    replace st := back _ _ (by simp) st'
    clear back st'
    (try simp only [nsl, Value.cells, unB] at st)
    (try clear hc); have hc := st.facts; (try simp only [nfl, nft, Nat.reduceAdd] at hc)
    simp only [List.length_nil] at st hpc ⊢
    (try simp only [nsl, Value.cells, unB] at st)
    (try clear hc); have hc := st.facts; (try simp only [nfl, nft, Nat.reduceAdd] at hc)
    go_wp2_with fail
    go_ret
    exact ⟨_, _, _, rfl, by rw [HF.out]; exact st.toFresh (i := 3) get3⟩
end Go.Proofs.Ytekngjkjgmplpaa

namespace Go.Proofs.Ytekngjkjgmplpaa
set_option linter.unusedSimpArgs false
set_option linter.unusedVariables false
open Go Go.RowKit
/-- One behind another. -/
def bdm {α β : Type} (r : Except Int (α × List UInt8)) (f : α → List UInt8 → Except Int β) : Except Int β := match r with | .error e => .error e | .ok p => f p.1 p.2
theorem bdm_er {α β : Type} (e : Int) (f : α → List UInt8 → Except Int β) : bdm (.error e) f = .error e := rfl
theorem bdm_ok {α β : Type} (x : α) (ys : List UInt8) (f : α → List UInt8 → Except Int β) : bdm (.ok (x, ys)) f = f x ys := rfl
def GetPostM {α : Type} (fr al : Nat → Prop) (w : World) (r b : Nat) (res : Except Int (α × List UInt8)) (z : List Value) (okM : α → List Value → List It → Prop) (en : Ending) (w' : World) : Prop :=
  match res with
  | .error e => en = .panicked [{ v := failV r e, recovered := false }] ∧ Own fr al w [rdAnyI r, blkI b z] w'
  | .ok (s, ys) => en = .returned (.tuple #[]) ∧ ∃ cs M, okM s cs M ∧ Own fr al w (rdI r ys :: blkI b cs :: M) w'
/-- What the block holds behind it, and what more lies there. -/
def GotM {α : Type} (res : Except Int (α × List UInt8)) (z : List Value) (okM : α → List Value → List It → Prop) (cs : List Value) (M : List It) : Prop := match res with
  | .error _ => cs = z ∧ M = []
  | .ok (s, _) => okM s cs M
theorem pick_mid (X M : List It) (a : It) : pick (X ++ [a] ++ M) (X.length :: (List.range X.length ++ (List.range M.length).map (X.length + 1 + ·))) = a :: (X ++ M) := by
  unfold pick
  rw [List.map_cons, List.map_append]
  congr 1
  · simp
  · congr 1
    · apply List.ext_getElem
      · simp
      · intro i h1 h2
        simp [List.getElem?_append_left h2, List.getElem?_eq_getElem h2, List.append_assoc]
    · apply List.ext_getElem
      · simp
      · intro i h1 h2
        simp only [List.map_map, List.getElem_map, List.getElem_range, Function.comp]
        rw [List.getElem?_append_right (by simp)]
        simp only [List.length_append, List.length_singleton]
        rw [show X.length + 1 + i - (X.length + 1) = i by omega, List.getElem?_eq_getElem h2, Option.getD_some]
theorem putIt_twoM (L M : List It) (I A B : It) (i : Nat) (hi : i < L.length) : putIt (L ++ [I]) (A :: B :: M) 0 [L.length, i] = L.set i B ++ [A] ++ M := by
  simp only [putIt, List.getElem?_cons_zero, List.getElem?_cons_succ, Option.getD_some, List.drop_succ_cons, List.drop_zero]
  rw [List.set_append_right _ _ (Nat.le_refl _), Nat.sub_self, List.set_cons_zero, List.set_append_left _ _ hi]
theorem readGetM_c {α : Type} {fr al : Nat → Prop} {w0 w : World} {L : List It} (st : Own fr al w0 L w) (i : Nat) {b : Nat} {z : List Value} (hi : L[i]? = some (blkI b z)) {a : Option Addr} {n c : Nat} {xs : List UInt8} (h : By w a n xs) (hc : n ≤ c ∧ c ≤ maxLen) (hn : n ≤ 100000000000) (F : FuncId)
    (hinv : ∀ w r, (callFunc F (#[.pointer (some ⟨r, 0, none⟩)] ++ #[.pointer (some ⟨b, 0, none⟩)])).run Try.prog w = .ok (.enter F (#[.pointer (some ⟨r, 0, none⟩)] ++ #[.pointer (some ⟨b, 0, none⟩)])) w)
    (res : Except Int (α × List UInt8)) (okM : α → List Value → List It → Prop)
    (hclo : ∀ fr al w r, Own fr al w [rdI r xs, blkI b z] w → Calls Try.prog F #[.pointer (some ⟨r, 0, none⟩), .pointer (some ⟨b, 0, none⟩)] w (GetPostM fr al w r b res z okM)) :
    Calls Try.prog 46 #[.slice a n c, .func (.func F) #[] #[.pointer (some ⟨b, 0, none⟩)]] w fun en w' => ∃ r cs M, en = .returned (.int .i64 (gotE res)) ∧ GotM res z okM cs M ∧ Own fr al w0 (rdOverI r :: (L.set i (blkI b cs) ++ M)) w' := by
  have hil := get_lt hi
  have fin : ∀ {fr' al' : Nat → Prop} {w1 w2 : World} {A B I : It} {M : List It}, Own fr' al' w1 (putIt (L ++ [I]) (A :: B :: M) 0 [L.length, i]) w2 → Own fr' al' w1 (A :: (L.set i B ++ M)) w2 := by
    intro fr' al' w1 w2 A B I M st3
    rw [putIt_twoM L M I A B i hil] at st3
    have hk := st3.keep ((L.set i B).length :: (List.range (L.set i B).length ++ (List.range M.length).map ((L.set i B).length + 1 + ·))) (by
      rw [List.nodup_cons, List.nodup_append]
      refine ⟨?_, List.nodup_range, ?_, ?_⟩
      · simp only [List.mem_append, List.mem_range, List.mem_map, not_or, not_exists, not_and]
        exact ⟨by omega, fun q _ => by omega⟩
      · exact List.pairwise_map.2 (List.Pairwise.imp (fun {x y} h e => h (by omega)) List.nodup_range)
      · intro x hx y hy
        simp only [List.mem_range, List.mem_map] at hx hy
        obtain ⟨q, _, rfl⟩ := hy
        omega) (by
      intro q hq
      simp only [List.mem_cons, List.mem_append, List.mem_range, List.mem_map] at hq
      simp only [List.length_append, List.length_singleton]
      rcases hq with e | e | ⟨q', e1, rfl⟩ <;> omega)
    rwa [pick_mid] at hk
  refine (read_c st h hc hn F #[.pointer (some ⟨b, 0, none⟩)] hinv (fun r e M => e = gotE res ∧ ∃ cs M', GotM res z okM cs M' ∧ M = L.set i (blkI b cs) ++ M') fun fr' al' w1 r hr st1 => ?_).mono ?_
  · obtain ⟨fr2, al2, st2, back⟩ := st1.sub [L.length, i] (by simp; omega) (by
      intro q hq; simp at hq ⊢; omega)
    have hp : pick (L ++ [rdI r xs]) [L.length, i] = [rdI r xs, blkI b z] := by
      simp [pick, List.getElem?_append_left hil, hi]
    rw [hp] at st2
    refine (hclo _ _ _ r st2).mono ?_
    intro en w2 hen
    unfold GetPostM at hen
    cases hres : res with
    | error e =>
      rw [hres] at hen
      obtain ⟨rfl, st3⟩ := hen
      exact .inr ⟨e, [], _, rfl, rfl, ⟨rfl, z, [], ⟨rfl, rfl⟩, rfl⟩, fin (back _ _ (by simp) st3)⟩
    | ok p =>
      obtain ⟨s, ys⟩ := p
      rw [hres] at hen
      obtain ⟨rfl, cs, M, hok, st3⟩ := hen
      exact .inl ⟨_, ys, _, rfl, ⟨rfl, cs, M, hok, rfl⟩, fin (back _ _ (by simp) st3)⟩
  · rintro en w' ⟨r, e, M, rfl, ⟨rfl, cs, M', h1, rfl⟩, st'⟩
    exact ⟨r, cs, M', rfl, h1, st'⟩
end Go.Proofs.Ytekngjkjgmplpaa
