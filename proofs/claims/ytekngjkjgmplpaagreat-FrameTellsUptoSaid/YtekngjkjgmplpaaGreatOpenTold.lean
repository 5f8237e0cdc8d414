/- FrameTells: what is made is read; one unlike byte is told. -/
import Derived.Test.YtekngjkjgmplpaaGreatFrmF
import Derived.Test.YtekngjkjgmplpaaGreatRow
import Derived.ProofKit
import Derived.OpenShut
import Derived.Test.YtekngjkjgmplpaaGreatRows
import Derived.Deep.Strs
import Derived.Deep.Slices
import Derived.ChangeSame
import Derived.ChangeArms
import Derived.Test.YtekngjkjgmplpaaGreatMsgB
import Derived.Test.YtekngjkjgmplpaaGreatCellB
namespace Go.Proofs.YtekngjkjgmplpaaGreat
set_option linter.unusedSimpArgs false
set_option linter.unusedVariables false
open Go Go.RowKit
/-- Where the byte stands. -/
def frAt (F s r : Nat) : Nat := if r < s then r + (F - 9 - s) else r + (F - 8 - s)
theorem frTell (n : Nat) (u : List UInt8) (r : Nat) (c : UInt8) (hr : r < u.length + 8) (hc : (frameB n u)[frAt (frameB n u).length u.length r]? ≠ some c) :
    frAt (frameB n u).length u.length r < (frameB n u).length ∧ ∃ b' c', (frameB n u).set (frAt (frameB n u).length u.length r) c = frameC n b' c' ∧ c'.length = 8 ∧ b'.length = u.length ∧ c' ≠ sumB n b' := by
  have hs := sumB_len n u
  have hl := frameC_len n u (sumB n u) hs
  unfold frAt at *
  unfold frameB at *
  have hself : ∀ p, p < (frameC n u (sumB n u)).length → (frameC n u (sumB n u)).set p c = frameC n u (sumB n u) → (frameC n u (sumB n u))[p]? = some c := fun p hp h => by
    have := List.getElem?_set_self (l := frameC n u (sumB n u)) (a := c) hp
    rw [h] at this
    exact this
  by_cases h1 : r < u.length
  · rw [if_pos h1] at hc ⊢
    have hp : r + ((frameC n u (sumB n u)).length - 9 - u.length) < (frameC n u (sumB n u)).length := by omega
    have he := frameC_body n r u (sumB n u) c hs h1
    rw [Nat.add_comm] at he
    refine ⟨hp, u.set r c, sumB n u, he, hs, by simp, fun q => ?_⟩
    by_cases hu : u[r]? = some c
    · have e : u.set r c = u := by
        apply List.ext_getElem?
        intro i
        by_cases hi : r = i
        · subst hi; rw [List.getElem?_set_self h1, hu]
        · rw [List.getElem?_set_ne hi]
      rw [e] at he
      exact hc (hself _ hp he)
    · exact sumB_set n r u c h1 hu q.symm
  · rw [if_neg h1] at hc ⊢
    have hp : r + ((frameC n u (sumB n u)).length - 8 - u.length) < (frameC n u (sumB n u)).length := by omega
    have he := frameC_check n (r - u.length) u (sumB n u) c hs (by omega)
    rw [show (frameC n u (sumB n u)).length - 8 + (r - u.length) = r + ((frameC n u (sumB n u)).length - 8 - u.length) by omega] at he
    refine ⟨hp, u, (sumB n u).set (r - u.length) c, he, by simp [hs], rfl, fun q => ?_⟩
    rw [q] at he
    exact hc (hself _ hp he)
theorem spl_byte (F : List UInt8) (p : Nat) (c : UInt8) : spl (F.map B) p [B c] = (F.set p c).map B := by
  simp [spl, List.map_set]
set_option maxRecDepth 100000 in
set_option maxHeartbeats 16000000 in
theorem frameTells_all (n : Nat) (x : MsgT) (t : Nat) (c : UInt8) (W : World) (hx : MgOk W x) (hn : n < 4294967296) (ht : t < 65536) (hw : weightM x ≤ 100000000) :
    Calls Tryz.prog 4 #[.agg #[.int .u32 (n : Int), .int .i64 x.k, .int .i64 x.p, .int .i64 x.e, S x.nm, .slice x.wa x.wn x.wc, .slice x.sa x.sn x.sc, .int .u16 (t : Int), B c]] W fun e w' => e = .returned (.bool true) ∧ Ext W w' := by
  have HG := Lib.hid (fun W' (h : Ext W W') => msgGreat_any x W' (hx.ext h) (by omega))
  have HL : Hid (weightM x ≤ 100000 → MgL x) := Lib.hid (weightM_L hx)
  obtain ⟨q, hq⟩ : ∃ q, weightM x = q := ⟨_, rfl⟩
  rw [hq] at HG HL hw
  clear hq
  have st := Own.startOld W
  by_cases hg : 3000 < q
  · obtain ⟨k, p, e, nm, wa, wn, wc, ws, sa, sn, sc, ss⟩ := x
    clear hx HL
    unfold mgV S at HG
    unfold S B
    (try simp only [nsl, Value.cells, unB] at st)
    (try clear hc); have hc := st.facts; (try simp only [nfl, nft, Nat.reduceAdd] at hc)
    go_enter Tryz.func4, Tryz.ntmps4
    go_wp2_with ((((with_reducible refine wl_box ?_ (fun K hK => ?_)); rfl; refine owp_box (o := ⟨some 1, _, _, _, _, _⟩) rfl st ?_; apply Exists.intro; refine ⟨?_, ?_⟩; (focus (go_simp; try rfl)); (clear st; intro b1 w hb st; clear hb))); (try simp only [nsl, Value.cells, unB] at st); (try clear hc); have hc := st.facts; (try simp only [nfl, nft, Nat.reduceAdd] at hc))
    refine (frFirst_any _).mono ?_
    rintro en w ⟨rfl, hx⟩
    replace st := st.ext hx
    clear hx
    (try clear hc); have hc := st.facts; (try simp only [nfl, nft, Nat.reduceAdd] at hc)
    go_wp2_with fail
    refine Rg4.wp_region4_eq #[0, 1, 0, 4, 0, 16, 0, 64, 0, 259, 783, 1855, 4095] [8, 10] [] (fun W' => Blk W' b1 [.int .u32 (n : Int), .int .i64 k, .int .i64 p, .int .i64 e, .string ⟨nm.toArray⟩, .slice wa wn wc, .slice sa sn sc, .int .u16 (t : Int), .int .u8 (c.toNat : Int)]) [0, 1, 2, 3, 4, 5, 6, 7, 8, 9, 10, 11, 12] (by kernel_rfl) (by kernel_rfl) (by kernel_rfl) (by kernel_rfl) (show Rg4.PB _ by repeat (first | with_reducible exact Rg4.pb_body | with_reducible exact Rg4.pb_bodyD rfl | with_reducible refine Rg4.pb_then ?_ | with_reducible refine Rg4.pb_inBlock ?_ | with_reducible refine Rg4.pb_noGoto ?_)) (st.drew.blk (i := 1) get1) ?_
    replace st := st.drew
    change Rg4.wp4 _ _ _ _ _ _ _ _ _ (World.drew _) _ _
    generalize World.drew _ = w at st ⊢
    (try clear hc); have hc := st.facts; (try simp only [nfl, nft, Nat.reduceAdd] at hc)
    (refine Rg4.w4_any (Rg4.want_none rfl) rfl ?_; apply Exists.intro; refine ⟨fun w' => ?_, ?_⟩; (focus (first | (go_simp; done) | (go_simp; first | rfl | (rw [if_neg] <;> first | rfl | omega) | (rw [if_pos] <;> first | rfl | omega)))); (try simp only [Rg4.nrm]))
    (refine Rg4.w4_cl (Rg4.want_none rfl) rfl ?_; apply Exists.intro; refine ⟨fun w' hcl => ?_, ?_⟩; (focus (have q0 := Blk.cell hcl 0; have q1 := Blk.cell hcl 1; have q2 := Blk.cell hcl 2; have q3 := Blk.cell hcl 3; have q4 := Blk.cell hcl 4; have q5 := Blk.cell hcl 5; have q6 := Blk.cell hcl 6; have q7 := Blk.cell hcl 7; have q8 := Blk.cell hcl 8; (try simp at q0 q1 q2 q3 q4 q5 q6 q7 q8); (focus (first | (go_simp; done) | (go_simp; first | rfl | (rw [if_neg] <;> first | rfl | omega) | (rw [if_pos] <;> first | rfl | omega)))))); (try simp only [Rg4.nrm]))
    (refine Rg4.w4_any (Rg4.want_none rfl) rfl ?_; apply Exists.intro; refine ⟨fun w' => ?_, ?_⟩; (focus (first | (go_simp; done) | (go_simp; first | rfl | (rw [if_neg] <;> first | rfl | omega) | (rw [if_pos] <;> first | rfl | omega)))); (try simp only [Rg4.nrm]))
    (refine Rg4.w4_cl (Rg4.want_none rfl) rfl ?_; apply Exists.intro; refine ⟨fun w' hcl => ?_, ?_⟩; (focus (have q0 := Blk.cell hcl 0; have q1 := Blk.cell hcl 1; have q2 := Blk.cell hcl 2; have q3 := Blk.cell hcl 3; have q4 := Blk.cell hcl 4; have q5 := Blk.cell hcl 5; have q6 := Blk.cell hcl 6; have q7 := Blk.cell hcl 7; have q8 := Blk.cell hcl 8; (try simp at q0 q1 q2 q3 q4 q5 q6 q7 q8); (focus (first | (go_simp; done) | (go_simp; first | rfl | (rw [if_neg] <;> first | rfl | omega) | (rw [if_pos] <;> first | rfl | omega)))))); (try simp only [Rg4.nrm]))
    (refine Rg4.w4_any (Rg4.want_none rfl) rfl ?_; apply Exists.intro; refine ⟨fun w' => ?_, ?_⟩; (focus (first | (go_simp; done) | (go_simp; first | rfl | (rw [if_neg] <;> first | rfl | omega) | (rw [if_pos] <;> first | rfl | omega)))); (try simp only [Rg4.nrm]))
    (refine Rg4.w4_cl (Rg4.want_none rfl) rfl ?_; apply Exists.intro; refine ⟨fun w' hcl => ?_, ?_⟩; (focus (have q0 := Blk.cell hcl 0; have q1 := Blk.cell hcl 1; have q2 := Blk.cell hcl 2; have q3 := Blk.cell hcl 3; have q4 := Blk.cell hcl 4; have q5 := Blk.cell hcl 5; have q6 := Blk.cell hcl 6; have q7 := Blk.cell hcl 7; have q8 := Blk.cell hcl 8; (try simp at q0 q1 q2 q3 q4 q5 q6 q7 q8); (focus (first | (go_simp; done) | (go_simp; first | rfl | (rw [if_neg] <;> first | rfl | omega) | (rw [if_pos] <;> first | rfl | omega)))))); (try simp only [Rg4.nrm]))
    (refine Rg4.w4_any (Rg4.want_none rfl) rfl ?_; apply Exists.intro; refine ⟨fun w' => ?_, ?_⟩; (focus (first | (go_simp; done) | (go_simp; first | rfl | (rw [if_neg] <;> first | rfl | omega) | (rw [if_pos] <;> first | rfl | omega)))); (try simp only [Rg4.nrm]))
    (refine Rg4.w4_cl (Rg4.want_none rfl) rfl ?_; apply Exists.intro; refine ⟨fun w' hcl => ?_, ?_⟩; (focus (have q0 := Blk.cell hcl 0; have q1 := Blk.cell hcl 1; have q2 := Blk.cell hcl 2; have q3 := Blk.cell hcl 3; have q4 := Blk.cell hcl 4; have q5 := Blk.cell hcl 5; have q6 := Blk.cell hcl 6; have q7 := Blk.cell hcl 7; have q8 := Blk.cell hcl 8; (try simp at q0 q1 q2 q3 q4 q5 q6 q7 q8); (focus (first | (go_simp; done) | (go_simp; first | rfl | (rw [if_neg] <;> first | rfl | omega) | (rw [if_pos] <;> first | rfl | omega)))))); (try simp only [Rg4.nrm]))
    (refine Rg4.w4_bar (Rg4.want_none rfl) rfl (fun w' hw' hcl' _ K hK => ?_); subst hw'; (refine owp_alloc (o := ⟨some 4, _, _, _, _, _⟩) rfl st ?_; apply Exists.intro; apply Exists.intro; refine ⟨?_, ?_⟩; (focus (first | (go_simp; done) | (go_simp; rfl))); (clear st; intro b4 w hb st; clear hb); (try simp only [nsl, Value.cells, unB] at st); (try clear hc); have hc := st.facts; (try simp only [nfl, nft, Nat.reduceAdd] at hc)); refine hK _ _ ⟨st.blk (i := 1) get1, ?_⟩; (try simp only [Rg4.nrm]))
    (refine Rg4.w4_any (Rg4.want_none rfl) rfl ?_; apply Exists.intro; refine ⟨fun w' => ?_, ?_⟩; (focus (first | (go_simp; done) | (go_simp; first | rfl | (rw [if_neg] <;> first | rfl | omega) | (rw [if_pos] <;> first | rfl | omega)))); (try simp only [Rg4.nrm]))
    (refine Rg4.w4_bar (Rg4.want_none rfl) rfl (fun w' hw' hcl' _ K hK => ?_); subst hw'; (refine owp_store rfl st ?_; apply Exists.intro; apply Exists.intro; refine ⟨?_, ?_, ?_⟩; (focus (go_simp; try rfl)); (focus (go_simp; try rfl)); (with_reducible refine ⟨2, _, _, _, _, get2, rfl, rfl, ?_, ?_, ?_, ?_⟩); (kernel_rfl); (simp [Value.cells]); (rfl); (clear st; intro w st); (try simp only [nsl, Value.cells, unB] at st); (try clear hc); have hc := st.facts; (try simp only [nfl, nft, Nat.reduceAdd] at hc)); refine hK _ _ ⟨st.blk (i := 1) get1, ?_⟩; (try simp only [Rg4.nrm]))
    iterate 2 (refine Rg4.w4_any (Rg4.want_none rfl) rfl ?_; apply Exists.intro; refine ⟨fun w' => ?_, ?_⟩; (focus (first | (go_simp; done) | (go_simp; first | rfl | (rw [if_neg] <;> first | rfl | omega) | (rw [if_pos] <;> first | rfl | omega)))); (try simp only [Rg4.nrm]))
    refine Rg4.w4_nil (fun w' hw' hcl' _ => ?_); subst hw'; clear hcl'
    go_wp2_with fail
    refine (HG.out _ st.ext0).mono ?_
    rintro en w ⟨rfl, hx⟩
    replace st := st.ext hx
    clear hx
    (try clear hc); have hc := st.facts; (try simp only [nfl, nft, Nat.reduceAdd] at hc)
    go_wp2_with fail
    go_ret
    exact ⟨rfl, st.ext0⟩
  have lx := HL.out (by omega)
  have HMK := Lib.hid (fun W' (h : Ext W W') => frMake_all (n : Int) x W' (hx.ext h) lx)
  have HRR := Lib.hid (fun W' (h : Ext W W') => refMsgRight_any x W' (hx.ext h) lx)
  have zn : IntKind.i64.wrap (n : Int) = (n : Int) := IntWalk.i64_in _ ⟨by omega, by omega⟩
  have zt : IntKind.i64.wrap (t : Int) = (t : Int) := IntWalk.i64_in _ ⟨by omega, by omega⟩
  by_cases hX : 1 ≤ n ∧ mgR x = true
  case neg =>
    have hX0 : frMk (n : Int) x = [] := by
      unfold frMk
      rw [if_neg]
      rintro ⟨h1, _, h3⟩
      exact hX ⟨by omega, h3⟩
    rw [hX0] at HMK
    clear hX0 lx
    by_cases n0 : n = 0
    · obtain ⟨k, p, e, nm, wa, wn, wc, ws, sa, sn, sc, ss⟩ := x
      clear hx HL hX
      have hn0 : ((n : Int) == 0) = true := by simp [n0]
      have HN0 := Lib.hid n0
      clear n0
      unfold mgV S at HG HMK
      unfold S B
      (try simp only [nsl, Value.cells, unB] at st)
      (try clear hc); have hc := st.facts; (try simp only [nfl, nft, Nat.reduceAdd] at hc)
      go_enter Tryz.func4, Tryz.ntmps4
      go_wp2_with ((((with_reducible refine wl_box ?_ (fun K hK => ?_)); rfl; refine owp_box (o := ⟨some 1, _, _, _, _, _⟩) rfl st ?_; apply Exists.intro; refine ⟨?_, ?_⟩; (focus (go_simp; try rfl)); (clear st; intro b1 w hb st; clear hb))); (try simp only [nsl, Value.cells, unB] at st); (try clear hc); have hc := st.facts; (try simp only [nfl, nft, Nat.reduceAdd] at hc))
      refine (frFirst_any _).mono ?_
      rintro en w ⟨rfl, hx⟩
      replace st := st.ext hx
      clear hx
      (try clear hc); have hc := st.facts; (try simp only [nfl, nft, Nat.reduceAdd] at hc)
      go_wp2_with fail
      refine Rg4.wp_region4_eq #[0, 1, 0, 4, 0, 16, 0, 64, 0, 259, 783, 1855, 4095] [8, 10] [] (fun W' => Blk W' b1 [.int .u32 (n : Int), .int .i64 k, .int .i64 p, .int .i64 e, .string ⟨nm.toArray⟩, .slice wa wn wc, .slice sa sn sc, .int .u16 (t : Int), .int .u8 (c.toNat : Int)]) [0, 1, 2, 3, 4, 5, 6, 7, 8, 9, 10, 11, 12] (by kernel_rfl) (by kernel_rfl) (by kernel_rfl) (by kernel_rfl) (show Rg4.PB _ by repeat (first | with_reducible exact Rg4.pb_body | with_reducible exact Rg4.pb_bodyD rfl | with_reducible refine Rg4.pb_then ?_ | with_reducible refine Rg4.pb_inBlock ?_ | with_reducible refine Rg4.pb_noGoto ?_)) (st.drew.blk (i := 1) get1) ?_
      replace st := st.drew
      change Rg4.wp4 _ _ _ _ _ _ _ _ _ (World.drew _) _ _
      generalize World.drew _ = w at st ⊢
      (try clear hc); have hc := st.facts; (try simp only [nfl, nft, Nat.reduceAdd] at hc)
      (refine Rg4.w4_any (Rg4.want_none rfl) rfl ?_; apply Exists.intro; refine ⟨fun w' => ?_, ?_⟩; (focus (first | (go_simp; done) | (go_simp; first | rfl | (rw [if_neg] <;> first | rfl | omega) | (rw [if_pos] <;> first | rfl | omega)))); (try simp only [Rg4.nrm]))
      (refine Rg4.w4_cl (Rg4.want_none rfl) rfl ?_; apply Exists.intro; refine ⟨fun w' hcl => ?_, ?_⟩; (focus (have q0 := Blk.cell hcl 0; have q1 := Blk.cell hcl 1; have q2 := Blk.cell hcl 2; have q3 := Blk.cell hcl 3; have q4 := Blk.cell hcl 4; have q5 := Blk.cell hcl 5; have q6 := Blk.cell hcl 6; have q7 := Blk.cell hcl 7; have q8 := Blk.cell hcl 8; (try simp at q0 q1 q2 q3 q4 q5 q6 q7 q8); (focus (first | (go_simp; done) | (go_simp; first | rfl | (rw [if_neg] <;> first | rfl | omega) | (rw [if_pos] <;> first | rfl | omega)))))); (try simp only [Rg4.nrm]))
      (refine Rg4.w4_any (Rg4.want_none rfl) rfl ?_; apply Exists.intro; refine ⟨fun w' => ?_, ?_⟩; (focus (first | (go_simp; done) | (go_simp; first | rfl | (rw [if_neg] <;> first | rfl | omega) | (rw [if_pos] <;> first | rfl | omega)))); (try simp only [Rg4.nrm]))
      (refine Rg4.w4_cl (Rg4.want_none rfl) rfl ?_; apply Exists.intro; refine ⟨fun w' hcl => ?_, ?_⟩; (focus (have q0 := Blk.cell hcl 0; have q1 := Blk.cell hcl 1; have q2 := Blk.cell hcl 2; have q3 := Blk.cell hcl 3; have q4 := Blk.cell hcl 4; have q5 := Blk.cell hcl 5; have q6 := Blk.cell hcl 6; have q7 := Blk.cell hcl 7; have q8 := Blk.cell hcl 8; (try simp at q0 q1 q2 q3 q4 q5 q6 q7 q8); (focus (first | (go_simp; done) | (go_simp; first | rfl | (rw [if_neg] <;> first | rfl | omega) | (rw [if_pos] <;> first | rfl | omega)))))); (try simp only [Rg4.nrm]))
      (refine Rg4.w4_any (Rg4.want_none rfl) rfl ?_; apply Exists.intro; refine ⟨fun w' => ?_, ?_⟩; (focus (first | (go_simp; done) | (go_simp; first | rfl | (rw [if_neg] <;> first | rfl | omega) | (rw [if_pos] <;> first | rfl | omega)))); (try simp only [Rg4.nrm]))
      (refine Rg4.w4_cl (Rg4.want_none rfl) rfl ?_; apply Exists.intro; refine ⟨fun w' hcl => ?_, ?_⟩; (focus (have q0 := Blk.cell hcl 0; have q1 := Blk.cell hcl 1; have q2 := Blk.cell hcl 2; have q3 := Blk.cell hcl 3; have q4 := Blk.cell hcl 4; have q5 := Blk.cell hcl 5; have q6 := Blk.cell hcl 6; have q7 := Blk.cell hcl 7; have q8 := Blk.cell hcl 8; (try simp at q0 q1 q2 q3 q4 q5 q6 q7 q8); (focus (first | (go_simp; done) | (go_simp; first | rfl | (rw [if_neg] <;> first | rfl | omega) | (rw [if_pos] <;> first | rfl | omega)))))); (try simp only [Rg4.nrm]))
      (refine Rg4.w4_any (Rg4.want_none rfl) rfl ?_; apply Exists.intro; refine ⟨fun w' => ?_, ?_⟩; (focus (first | (go_simp; done) | (go_simp; first | rfl | (rw [if_neg] <;> first | rfl | omega) | (rw [if_pos] <;> first | rfl | omega)))); (try simp only [Rg4.nrm]))
      (refine Rg4.w4_cl (Rg4.want_none rfl) rfl ?_; apply Exists.intro; refine ⟨fun w' hcl => ?_, ?_⟩; (focus (have q0 := Blk.cell hcl 0; have q1 := Blk.cell hcl 1; have q2 := Blk.cell hcl 2; have q3 := Blk.cell hcl 3; have q4 := Blk.cell hcl 4; have q5 := Blk.cell hcl 5; have q6 := Blk.cell hcl 6; have q7 := Blk.cell hcl 7; have q8 := Blk.cell hcl 8; (try simp at q0 q1 q2 q3 q4 q5 q6 q7 q8); (focus (first | (go_simp; done) | (go_simp; first | rfl | (rw [if_neg] <;> first | rfl | omega) | (rw [if_pos] <;> first | rfl | omega)))))); (try simp only [Rg4.nrm]))
      (refine Rg4.w4_bar (Rg4.want_none rfl) rfl (fun w' hw' hcl' _ K hK => ?_); subst hw'; (refine owp_alloc (o := ⟨some 4, _, _, _, _, _⟩) rfl st ?_; apply Exists.intro; apply Exists.intro; refine ⟨?_, ?_⟩; (focus (first | (go_simp; done) | (go_simp; rfl))); (clear st; intro b4 w hb st; clear hb); (try simp only [nsl, Value.cells, unB] at st); (try clear hc); have hc := st.facts; (try simp only [nfl, nft, Nat.reduceAdd] at hc)); refine hK _ _ ⟨st.blk (i := 1) get1, ?_⟩; (try simp only [Rg4.nrm]))
      (refine Rg4.w4_any (Rg4.want_none rfl) rfl ?_; apply Exists.intro; refine ⟨fun w' => ?_, ?_⟩; (focus (first | (go_simp; done) | (go_simp; first | rfl | (rw [if_neg] <;> first | rfl | omega) | (rw [if_pos] <;> first | rfl | omega)))); (try simp only [Rg4.nrm]))
      (refine Rg4.w4_bar (Rg4.want_none rfl) rfl (fun w' hw' hcl' _ K hK => ?_); subst hw'; (refine owp_store rfl st ?_; apply Exists.intro; apply Exists.intro; refine ⟨?_, ?_, ?_⟩; (focus (go_simp; try rfl)); (focus (go_simp; try rfl)); (with_reducible refine ⟨2, _, _, _, _, get2, rfl, rfl, ?_, ?_, ?_, ?_⟩); (kernel_rfl); (simp [Value.cells]); (rfl); (clear st; intro w st); (try simp only [nsl, Value.cells, unB] at st); (try clear hc); have hc := st.facts; (try simp only [nfl, nft, Nat.reduceAdd] at hc)); refine hK _ _ ⟨st.blk (i := 1) get1, ?_⟩; (try simp only [Rg4.nrm]))
      iterate 2 (refine Rg4.w4_any (Rg4.want_none rfl) rfl ?_; apply Exists.intro; refine ⟨fun w' => ?_, ?_⟩; (focus (first | (go_simp; done) | (go_simp; first | rfl | (rw [if_neg] <;> first | rfl | omega) | (rw [if_pos] <;> first | rfl | omega)))); (try simp only [Rg4.nrm]))
      refine Rg4.w4_nil (fun w' hw' hcl' _ => ?_); subst hw'; clear hcl'
      go_wp2_with fail
      refine (HG.out _ st.ext0).mono ?_
      rintro en w ⟨rfl, hx⟩
      replace st := st.ext hx
      clear hx
      (try clear hc); have hc := st.facts; (try simp only [nfl, nft, Nat.reduceAdd] at hc)
      go_wp2_with fail
      refine (HMK.out _ st.ext0).mono ?_
      rintro en w ⟨ra, rc, rfl, hfr⟩
      replace st := st.ext hfr.ext
      clear hfr
      (try simp only [List.length_nil] at ⊢)
      (try simp only [nsl, Value.cells, unB] at st)
      (try clear hc); have hc := st.facts; (try simp only [nfl, nft, Nat.reduceAdd] at hc)
      go_wp2_with fail
      go_ret
      exact ⟨rfl, st.ext0⟩
    · have hr : mgR x = false := by
        cases hr : mgR x with
        | false => rfl
        | true => exact absurd ⟨by omega, hr⟩ hX
      rw [hr] at HRR
      have hn0 : ((n : Int) == 0) = false := by simp; omega
      obtain ⟨k, p, e, nm, wa, wn, wc, ws, sa, sn, sc, ss⟩ := x
      clear hx HL hX hr
      unfold mgV S at HG HMK HRR
      unfold S B
      (try simp only [nsl, Value.cells, unB] at st)
      (try clear hc); have hc := st.facts; (try simp only [nfl, nft, Nat.reduceAdd] at hc)
      go_enter Tryz.func4, Tryz.ntmps4
      go_wp2_with ((((with_reducible refine wl_box ?_ (fun K hK => ?_)); rfl; refine owp_box (o := ⟨some 1, _, _, _, _, _⟩) rfl st ?_; apply Exists.intro; refine ⟨?_, ?_⟩; (focus (go_simp; try rfl)); (clear st; intro b1 w hb st; clear hb))); (try simp only [nsl, Value.cells, unB] at st); (try clear hc); have hc := st.facts; (try simp only [nfl, nft, Nat.reduceAdd] at hc))
      refine (frFirst_any _).mono ?_
      rintro en w ⟨rfl, hx⟩
      replace st := st.ext hx
      clear hx
      (try clear hc); have hc := st.facts; (try simp only [nfl, nft, Nat.reduceAdd] at hc)
      go_wp2_with fail
      refine Rg4.wp_region4_eq #[0, 1, 0, 4, 0, 16, 0, 64, 0, 259, 783, 1855, 4095] [8, 10] [] (fun W' => Blk W' b1 [.int .u32 (n : Int), .int .i64 k, .int .i64 p, .int .i64 e, .string ⟨nm.toArray⟩, .slice wa wn wc, .slice sa sn sc, .int .u16 (t : Int), .int .u8 (c.toNat : Int)]) [0, 1, 2, 3, 4, 5, 6, 7, 8, 9, 10, 11, 12] (by kernel_rfl) (by kernel_rfl) (by kernel_rfl) (by kernel_rfl) (show Rg4.PB _ by repeat (first | with_reducible exact Rg4.pb_body | with_reducible exact Rg4.pb_bodyD rfl | with_reducible refine Rg4.pb_then ?_ | with_reducible refine Rg4.pb_inBlock ?_ | with_reducible refine Rg4.pb_noGoto ?_)) (st.drew.blk (i := 1) get1) ?_
      replace st := st.drew
      change Rg4.wp4 _ _ _ _ _ _ _ _ _ (World.drew _) _ _
      generalize World.drew _ = w at st ⊢
      (try clear hc); have hc := st.facts; (try simp only [nfl, nft, Nat.reduceAdd] at hc)
      (refine Rg4.w4_any (Rg4.want_none rfl) rfl ?_; apply Exists.intro; refine ⟨fun w' => ?_, ?_⟩; (focus (first | (go_simp; done) | (go_simp; first | rfl | (rw [if_neg] <;> first | rfl | omega) | (rw [if_pos] <;> first | rfl | omega)))); (try simp only [Rg4.nrm]))
      (refine Rg4.w4_cl (Rg4.want_none rfl) rfl ?_; apply Exists.intro; refine ⟨fun w' hcl => ?_, ?_⟩; (focus (have q0 := Blk.cell hcl 0; have q1 := Blk.cell hcl 1; have q2 := Blk.cell hcl 2; have q3 := Blk.cell hcl 3; have q4 := Blk.cell hcl 4; have q5 := Blk.cell hcl 5; have q6 := Blk.cell hcl 6; have q7 := Blk.cell hcl 7; have q8 := Blk.cell hcl 8; (try simp at q0 q1 q2 q3 q4 q5 q6 q7 q8); (focus (first | (go_simp; done) | (go_simp; first | rfl | (rw [if_neg] <;> first | rfl | omega) | (rw [if_pos] <;> first | rfl | omega)))))); (try simp only [Rg4.nrm]))
      (refine Rg4.w4_any (Rg4.want_none rfl) rfl ?_; apply Exists.intro; refine ⟨fun w' => ?_, ?_⟩; (focus (first | (go_simp; done) | (go_simp; first | rfl | (rw [if_neg] <;> first | rfl | omega) | (rw [if_pos] <;> first | rfl | omega)))); (try simp only [Rg4.nrm]))
      (refine Rg4.w4_cl (Rg4.want_none rfl) rfl ?_; apply Exists.intro; refine ⟨fun w' hcl => ?_, ?_⟩; (focus (have q0 := Blk.cell hcl 0; have q1 := Blk.cell hcl 1; have q2 := Blk.cell hcl 2; have q3 := Blk.cell hcl 3; have q4 := Blk.cell hcl 4; have q5 := Blk.cell hcl 5; have q6 := Blk.cell hcl 6; have q7 := Blk.cell hcl 7; have q8 := Blk.cell hcl 8; (try simp at q0 q1 q2 q3 q4 q5 q6 q7 q8); (focus (first | (go_simp; done) | (go_simp; first | rfl | (rw [if_neg] <;> first | rfl | omega) | (rw [if_pos] <;> first | rfl | omega)))))); (try simp only [Rg4.nrm]))
      (refine Rg4.w4_any (Rg4.want_none rfl) rfl ?_; apply Exists.intro; refine ⟨fun w' => ?_, ?_⟩; (focus (first | (go_simp; done) | (go_simp; first | rfl | (rw [if_neg] <;> first | rfl | omega) | (rw [if_pos] <;> first | rfl | omega)))); (try simp only [Rg4.nrm]))
      (refine Rg4.w4_cl (Rg4.want_none rfl) rfl ?_; apply Exists.intro; refine ⟨fun w' hcl => ?_, ?_⟩; (focus (have q0 := Blk.cell hcl 0; have q1 := Blk.cell hcl 1; have q2 := Blk.cell hcl 2; have q3 := Blk.cell hcl 3; have q4 := Blk.cell hcl 4; have q5 := Blk.cell hcl 5; have q6 := Blk.cell hcl 6; have q7 := Blk.cell hcl 7; have q8 := Blk.cell hcl 8; (try simp at q0 q1 q2 q3 q4 q5 q6 q7 q8); (focus (first | (go_simp; done) | (go_simp; first | rfl | (rw [if_neg] <;> first | rfl | omega) | (rw [if_pos] <;> first | rfl | omega)))))); (try simp only [Rg4.nrm]))
      (refine Rg4.w4_any (Rg4.want_none rfl) rfl ?_; apply Exists.intro; refine ⟨fun w' => ?_, ?_⟩; (focus (first | (go_simp; done) | (go_simp; first | rfl | (rw [if_neg] <;> first | rfl | omega) | (rw [if_pos] <;> first | rfl | omega)))); (try simp only [Rg4.nrm]))
      (refine Rg4.w4_cl (Rg4.want_none rfl) rfl ?_; apply Exists.intro; refine ⟨fun w' hcl => ?_, ?_⟩; (focus (have q0 := Blk.cell hcl 0; have q1 := Blk.cell hcl 1; have q2 := Blk.cell hcl 2; have q3 := Blk.cell hcl 3; have q4 := Blk.cell hcl 4; have q5 := Blk.cell hcl 5; have q6 := Blk.cell hcl 6; have q7 := Blk.cell hcl 7; have q8 := Blk.cell hcl 8; (try simp at q0 q1 q2 q3 q4 q5 q6 q7 q8); (focus (first | (go_simp; done) | (go_simp; first | rfl | (rw [if_neg] <;> first | rfl | omega) | (rw [if_pos] <;> first | rfl | omega)))))); (try simp only [Rg4.nrm]))
      (refine Rg4.w4_bar (Rg4.want_none rfl) rfl (fun w' hw' hcl' _ K hK => ?_); subst hw'; (refine owp_alloc (o := ⟨some 4, _, _, _, _, _⟩) rfl st ?_; apply Exists.intro; apply Exists.intro; refine ⟨?_, ?_⟩; (focus (first | (go_simp; done) | (go_simp; rfl))); (clear st; intro b4 w hb st; clear hb); (try simp only [nsl, Value.cells, unB] at st); (try clear hc); have hc := st.facts; (try simp only [nfl, nft, Nat.reduceAdd] at hc)); refine hK _ _ ⟨st.blk (i := 1) get1, ?_⟩; (try simp only [Rg4.nrm]))
      (refine Rg4.w4_any (Rg4.want_none rfl) rfl ?_; apply Exists.intro; refine ⟨fun w' => ?_, ?_⟩; (focus (first | (go_simp; done) | (go_simp; first | rfl | (rw [if_neg] <;> first | rfl | omega) | (rw [if_pos] <;> first | rfl | omega)))); (try simp only [Rg4.nrm]))
      (refine Rg4.w4_bar (Rg4.want_none rfl) rfl (fun w' hw' hcl' _ K hK => ?_); subst hw'; (refine owp_store rfl st ?_; apply Exists.intro; apply Exists.intro; refine ⟨?_, ?_, ?_⟩; (focus (go_simp; try rfl)); (focus (go_simp; try rfl)); (with_reducible refine ⟨2, _, _, _, _, get2, rfl, rfl, ?_, ?_, ?_, ?_⟩); (kernel_rfl); (simp [Value.cells]); (rfl); (clear st; intro w st); (try simp only [nsl, Value.cells, unB] at st); (try clear hc); have hc := st.facts; (try simp only [nfl, nft, Nat.reduceAdd] at hc)); refine hK _ _ ⟨st.blk (i := 1) get1, ?_⟩; (try simp only [Rg4.nrm]))
      iterate 2 (refine Rg4.w4_any (Rg4.want_none rfl) rfl ?_; apply Exists.intro; refine ⟨fun w' => ?_, ?_⟩; (focus (first | (go_simp; done) | (go_simp; first | rfl | (rw [if_neg] <;> first | rfl | omega) | (rw [if_pos] <;> first | rfl | omega)))); (try simp only [Rg4.nrm]))
      refine Rg4.w4_nil (fun w' hw' hcl' _ => ?_); subst hw'; clear hcl'
      go_wp2_with fail
      refine (HG.out _ st.ext0).mono ?_
      rintro en w ⟨rfl, hx⟩
      replace st := st.ext hx
      clear hx
      (try clear hc); have hc := st.facts; (try simp only [nfl, nft, Nat.reduceAdd] at hc)
      go_wp2_with fail
      refine (HMK.out _ st.ext0).mono ?_
      rintro en w ⟨ra, rc, rfl, hfr⟩
      replace st := st.ext hfr.ext
      clear hfr
      (try simp only [List.length_nil] at ⊢)
      (try simp only [nsl, Value.cells, unB] at st)
      (try clear hc); have hc := st.facts; (try simp only [nfl, nft, Nat.reduceAdd] at hc)
      go_wp2_with fail
      refine (HRR.out _ st.ext0).mono ?_
      rintro en w ⟨rfl, hx⟩
      replace st := st.ext hx
      clear hx
      (try clear hc); have hc := st.facts; (try simp only [nfl, nft, Nat.reduceAdd] at hc)
      go_wp2_with fail
      go_ret
      exact ⟨rfl, st.ext0⟩
  obtain ⟨h1, hr⟩ := hX
  have hFe : frMk (n : Int) x = frameB n (mgB x) := by
    unfold frMk
    rw [if_pos ⟨by omega, by omega, hr⟩, Int.toNat_natCast]
  rw [hFe] at HMK
  clear hFe
  have h2048 := mgB_2048 hx hr
  have HRB := Lib.hid (fun W' (h : Ext W W') => refMsgBytes_any x W' (hx.ext h) hr)
  have HRD := Lib.hid (fun (w : World) (a : Option Addr) (m cap : Nat) (h : By w a m (frameB n (mgB x))) hcap => frRead_f cap h hcap h1 (by omega) h2048 (rdMg_put hx hr))
  have HSM := Lib.hid (fun W' (y : MsgT) (hy : MgOk W' y) (h : Ext W W') (ly : MgL y) => refMsgSame_any y x W' hy (hx.ext h) ly lx)
  have HYS : Hid (∀ y : MsgT, stripM y = stripM (stripM x) → MgL y ∧ sameMg y x = true) := Lib.hid (fun y h => by
    have h3 : stripM y = stripM x := by rw [h]; unfold stripM; simp only [stripS_twice]
    exact ⟨MgL_by h3 lx, sameMg_of h3⟩)
  obtain ⟨sx, hsx⟩ : ∃ f : MsgT → Bool, (fun m => sameMg m x) = f := ⟨_, rfl⟩
  have hsx2 : ∀ m, sameMg m x = sx m := fun m => by rw [← hsx]
  simp only [hsx2] at HSM HYS
  clear hsx hsx2
  have hlen := frameC_len n (mgB x) (sumB n (mgB x)) (sumB_len _ _)
  rw [show frameC n (mgB x) (sumB n (mgB x)) = frameB n (mgB x) from rfl] at hlen
  have hnb : (numB n).length ≤ 10 := numF_len 10 _
  have hnb2 : (numB (mgB x).length).length ≤ 10 := numF_len 10 _
  have HTL := Lib.hid (fun r hr' hc' => frTell n (mgB x) r c hr' hc')
  have HBAD := Lib.hid (fun (b' c' : List UInt8) (w : World) (a : Option Addr) (m cap : Nat) (h : By w a m (frameC n b' c' ++ [])) hcap (hb' : b'.length ≤ 2048) (hc' : c'.length = 8) (hne : c' ≠ sumB n b') => frRead_bad n a m cap b' c' [] 20 w h hcap h1 (by omega) hb' hc' (by simp) (.inr ⟨rfl, hne, rfl⟩))
  generalize mgB x = u at *
  obtain ⟨s, hus⟩ : ∃ s, u.length = s := ⟨_, rfl⟩
  rw [hus] at hlen hnb2 h2048 HTL
  obtain ⟨F, hF⟩ : ∃ F, frameB n u = F := ⟨_, rfl⟩
  rw [hF] at HMK HRD HTL hlen
  obtain ⟨fl, hfl⟩ : ∃ fl, F.length = fl := ⟨_, rfl⟩
  rw [hfl] at HMK hlen HTL
  obtain ⟨r, hr0⟩ : ∃ r, t % (s + 8) = r := ⟨_, rfl⟩
  have hrs : r < s + 8 := by rw [← hr0]; exact Nat.mod_lt _ (by omega)
  have zr : ((t : Int)).tmod ((s : Int) + 8) = (r : Int) := by rw [Int.tmod_eq_emod_of_nonneg (by omega), ← hr0]; simp
  have z8 : IntKind.i64.wrap ((s : Int) + 8) = (s : Int) + 8 := IntWalk.i64_in _ ⟨by omega, by omega⟩
  have zr2 : IntKind.i64.wrap (r : Int) = (r : Int) := IntWalk.i64_in _ ⟨by omega, by omega⟩
  have z80 : ((s : Int) + 8 == 0) = false := by simp; omega
  obtain ⟨p, hp⟩ : ∃ p, frAt fl s r = p := ⟨_, rfl⟩
  have hpv : p = if r < s then r + (fl - 9 - s) else r + (fl - 8 - s) := hp.symm
  have hpl : p < fl := by rw [hpv]; split <;> omega
  obtain ⟨z, hz⟩ : ∃ z, F[p]? = some z := ⟨_, List.getElem?_eq_getElem (by omega)⟩
  have HT : Hid ((F.map B)[p]? = some (.int .u8 (z.toNat : Int))) := Lib.hid (by rw [List.getElem?_map, hz]; rfl)
  have HSET : Hid (spl (F.map B) p [Value.int .u8 (c.toNat : Int)] = (F.set p c).map B) := Lib.hid (spl_byte F p c)
  have HSET2 : Hid ((F.map B).set p (Value.int .u8 (c.toNat : Int)) = (F.set p c).map B) := Lib.hid (by rw [List.map_set]; rfl)
  have HBD : Hid (z ≠ c → ∀ (w : World) (a : Option Addr) (cap : Nat), By w a fl (F.set p c) → fl ≤ cap ∧ cap ≤ maxLen → Calls Tryz.prog 13 #[.slice a fl cap] w fun e w' => e = .returned (.tuple #[.int .i64 0, mgV (mg0 0 0 0 []), .int .i64 20]) ∧ Ext w w') := Lib.hid (fun hne w a cap hb hcap => by
    have hq := HTL.out r (by omega) (by rw [hp, hz]; simpa using hne)
    obtain ⟨_, b', c', e1, e2, e3, e4⟩ := hq
    rw [hp] at e1
    rw [e1] at hb
    exact HBAD.out b' c' w a fl cap (by rw [List.append_nil]; exact hb) hcap (by omega) e2 e4)
  have hl0 : ((fl : Int) == 0) = false := by simp; omega
  have hpz : (p : Int).toNat = p := by omega
  have hp1 : (p : Int) < (fl : Int) := by omega
  have hp0 : (0 : Int) ≤ (p : Int) := by omega
  obtain ⟨q1, hq1⟩ : ∃ q1, q1 = if r < s then fl - 9 else fl - 8 := ⟨_, rfl⟩
  obtain ⟨q2, hq2⟩ : ∃ q2, q2 = q1 - s := ⟨_, rfl⟩
  have z1 : (r < s → IntKind.i64.wrap ((fl : Int) - 9) = (q1 : Int)) ∧ (¬ r < s → IntKind.i64.wrap ((fl : Int) - 8) = (q1 : Int)) := by
    refine ⟨fun h => ?_, fun h => ?_⟩
    · rw [IntWalk.i64_in _ ⟨by omega, by omega⟩, hq1, if_pos h]; omega
    · rw [IntWalk.i64_in _ ⟨by omega, by omega⟩, hq1, if_neg h]; omega
  have hsq : s ≤ q1 ∧ q1 ≤ fl := by rw [hq1]; split <;> omega
  have z2 : IntKind.i64.wrap ((q1 : Int) - (s : Int)) = (q2 : Int) := by
    have e := IntWalk.i64_in ((q1 : Int) - (s : Int)) ⟨by omega, by omega⟩
    rw [e]; omega
  have hpq : r + q2 = p := by rw [hpv, hq2, hq1]; split <;> omega
  have z3 : IntKind.i64.wrap ((r : Int) + (q2 : Int)) = (p : Int) := by
    have e := IntWalk.i64_in ((r : Int) + (q2 : Int)) ⟨by omega, by omega⟩
    rw [e]; omega
  have HFL := Lib.hid (And.intro hfl hlen)
  have HUS := Lib.hid hus
  clear hlen hnb hnb2 h2048 HTL HBAD hF hfl hr0 hp hpv hz hq1 hq2 hsq hpq hus lx hr HL
  obtain ⟨k, pp, e, nm, wa, wn, wc, ws, sa, sn, sc, ss⟩ := x
  have HX := Lib.hid hx
  clear hx
  unfold mgV S at HG HMK HRB
  unfold S B
  (try simp only [nsl, Value.cells, unB] at st)
  (try clear hc); have hc := st.facts; (try simp only [nfl, nft, Nat.reduceAdd] at hc)
  go_enter Tryz.func4, Tryz.ntmps4
  go_wp2_with ((((with_reducible refine wl_box ?_ (fun K hK => ?_)); rfl; refine owp_box (o := ⟨some 1, _, _, _, _, _⟩) rfl st ?_; apply Exists.intro; refine ⟨?_, ?_⟩; (focus (go_simp; try rfl)); (clear st; intro b1 w hb st; clear hb))); (try simp only [nsl, Value.cells, unB] at st); (try clear hc); have hc := st.facts; (try simp only [nfl, nft, Nat.reduceAdd] at hc))
  refine (frFirst_any _).mono ?_
  rintro en w ⟨rfl, hx⟩
  replace st := st.ext hx
  clear hx
  (try clear hc); have hc := st.facts; (try simp only [nfl, nft, Nat.reduceAdd] at hc)
  go_wp2_with fail
  refine Rg4.wp_region4_eq #[0, 1, 0, 4, 0, 16, 0, 64, 0, 259, 783, 1855, 4095] [8, 10] [] (fun W' => Blk W' b1 [.int .u32 (n : Int), .int .i64 k, .int .i64 pp, .int .i64 e, .string ⟨nm.toArray⟩, .slice wa wn wc, .slice sa sn sc, .int .u16 (t : Int), .int .u8 (c.toNat : Int)]) [0, 1, 2, 3, 4, 5, 6, 7, 8, 9, 10, 11, 12] (by kernel_rfl) (by kernel_rfl) (by kernel_rfl) (by kernel_rfl) (show Rg4.PB _ by repeat (first | with_reducible exact Rg4.pb_body | with_reducible exact Rg4.pb_bodyD rfl | with_reducible refine Rg4.pb_then ?_ | with_reducible refine Rg4.pb_inBlock ?_ | with_reducible refine Rg4.pb_noGoto ?_)) (st.drew.blk (i := 1) get1) ?_
  replace st := st.drew
  change Rg4.wp4 _ _ _ _ _ _ _ _ _ (World.drew _) _ _
  generalize World.drew _ = w at st ⊢
  (try clear hc); have hc := st.facts; (try simp only [nfl, nft, Nat.reduceAdd] at hc)
  (refine Rg4.w4_any (Rg4.want_none rfl) rfl ?_; apply Exists.intro; refine ⟨fun w' => ?_, ?_⟩; (focus (first | (go_simp; done) | (go_simp; first | rfl | (rw [if_neg] <;> first | rfl | omega) | (rw [if_pos] <;> first | rfl | omega)))); (try simp only [Rg4.nrm]))
  (refine Rg4.w4_cl (Rg4.want_none rfl) rfl ?_; apply Exists.intro; refine ⟨fun w' hcl => ?_, ?_⟩; (focus (have q0 := Blk.cell hcl 0; have q1 := Blk.cell hcl 1; have q2 := Blk.cell hcl 2; have q3 := Blk.cell hcl 3; have q4 := Blk.cell hcl 4; have q5 := Blk.cell hcl 5; have q6 := Blk.cell hcl 6; have q7 := Blk.cell hcl 7; have q8 := Blk.cell hcl 8; (try simp at q0 q1 q2 q3 q4 q5 q6 q7 q8); (focus (first | (go_simp; done) | (go_simp; first | rfl | (rw [if_neg] <;> first | rfl | omega) | (rw [if_pos] <;> first | rfl | omega)))))); (try simp only [Rg4.nrm]))
  (refine Rg4.w4_any (Rg4.want_none rfl) rfl ?_; apply Exists.intro; refine ⟨fun w' => ?_, ?_⟩; (focus (first | (go_simp; done) | (go_simp; first | rfl | (rw [if_neg] <;> first | rfl | omega) | (rw [if_pos] <;> first | rfl | omega)))); (try simp only [Rg4.nrm]))
  (refine Rg4.w4_cl (Rg4.want_none rfl) rfl ?_; apply Exists.intro; refine ⟨fun w' hcl => ?_, ?_⟩; (focus (have q0 := Blk.cell hcl 0; have q1 := Blk.cell hcl 1; have q2 := Blk.cell hcl 2; have q3 := Blk.cell hcl 3; have q4 := Blk.cell hcl 4; have q5 := Blk.cell hcl 5; have q6 := Blk.cell hcl 6; have q7 := Blk.cell hcl 7; have q8 := Blk.cell hcl 8; (try simp at q0 q1 q2 q3 q4 q5 q6 q7 q8); (focus (first | (go_simp; done) | (go_simp; first | rfl | (rw [if_neg] <;> first | rfl | omega) | (rw [if_pos] <;> first | rfl | omega)))))); (try simp only [Rg4.nrm]))
  (refine Rg4.w4_any (Rg4.want_none rfl) rfl ?_; apply Exists.intro; refine ⟨fun w' => ?_, ?_⟩; (focus (first | (go_simp; done) | (go_simp; first | rfl | (rw [if_neg] <;> first | rfl | omega) | (rw [if_pos] <;> first | rfl | omega)))); (try simp only [Rg4.nrm]))
  (refine Rg4.w4_cl (Rg4.want_none rfl) rfl ?_; apply Exists.intro; refine ⟨fun w' hcl => ?_, ?_⟩; (focus (have q0 := Blk.cell hcl 0; have q1 := Blk.cell hcl 1; have q2 := Blk.cell hcl 2; have q3 := Blk.cell hcl 3; have q4 := Blk.cell hcl 4; have q5 := Blk.cell hcl 5; have q6 := Blk.cell hcl 6; have q7 := Blk.cell hcl 7; have q8 := Blk.cell hcl 8; (try simp at q0 q1 q2 q3 q4 q5 q6 q7 q8); (focus (first | (go_simp; done) | (go_simp; first | rfl | (rw [if_neg] <;> first | rfl | omega) | (rw [if_pos] <;> first | rfl | omega)))))); (try simp only [Rg4.nrm]))
  (refine Rg4.w4_any (Rg4.want_none rfl) rfl ?_; apply Exists.intro; refine ⟨fun w' => ?_, ?_⟩; (focus (first | (go_simp; done) | (go_simp; first | rfl | (rw [if_neg] <;> first | rfl | omega) | (rw [if_pos] <;> first | rfl | omega)))); (try simp only [Rg4.nrm]))
  (refine Rg4.w4_cl (Rg4.want_none rfl) rfl ?_; apply Exists.intro; refine ⟨fun w' hcl => ?_, ?_⟩; (focus (have q0 := Blk.cell hcl 0; have q1 := Blk.cell hcl 1; have q2 := Blk.cell hcl 2; have q3 := Blk.cell hcl 3; have q4 := Blk.cell hcl 4; have q5 := Blk.cell hcl 5; have q6 := Blk.cell hcl 6; have q7 := Blk.cell hcl 7; have q8 := Blk.cell hcl 8; (try simp at q0 q1 q2 q3 q4 q5 q6 q7 q8); (focus (first | (go_simp; done) | (go_simp; first | rfl | (rw [if_neg] <;> first | rfl | omega) | (rw [if_pos] <;> first | rfl | omega)))))); (try simp only [Rg4.nrm]))
  (refine Rg4.w4_bar (Rg4.want_none rfl) rfl (fun w' hw' hcl' _ K hK => ?_); subst hw'; (refine owp_alloc (o := ⟨some 4, _, _, _, _, _⟩) rfl st ?_; apply Exists.intro; apply Exists.intro; refine ⟨?_, ?_⟩; (focus (first | (go_simp; done) | (go_simp; rfl))); (clear st; intro b4 w hb st; clear hb); (try simp only [nsl, Value.cells, unB] at st); (try clear hc); have hc := st.facts; (try simp only [nfl, nft, Nat.reduceAdd] at hc)); refine hK _ _ ⟨st.blk (i := 1) get1, ?_⟩; (try simp only [Rg4.nrm]))
  (refine Rg4.w4_any (Rg4.want_none rfl) rfl ?_; apply Exists.intro; refine ⟨fun w' => ?_, ?_⟩; (focus (first | (go_simp; done) | (go_simp; first | rfl | (rw [if_neg] <;> first | rfl | omega) | (rw [if_pos] <;> first | rfl | omega)))); (try simp only [Rg4.nrm]))
  (refine Rg4.w4_bar (Rg4.want_none rfl) rfl (fun w' hw' hcl' _ K hK => ?_); subst hw'; (refine owp_store rfl st ?_; apply Exists.intro; apply Exists.intro; refine ⟨?_, ?_, ?_⟩; (focus (go_simp; try rfl)); (focus (go_simp; try rfl)); (with_reducible refine ⟨2, _, _, _, _, get2, rfl, rfl, ?_, ?_, ?_, ?_⟩); (kernel_rfl); (simp [Value.cells]); (rfl); (clear st; intro w st); (try simp only [nsl, Value.cells, unB] at st); (try clear hc); have hc := st.facts; (try simp only [nfl, nft, Nat.reduceAdd] at hc)); refine hK _ _ ⟨st.blk (i := 1) get1, ?_⟩; (try simp only [Rg4.nrm]))
  iterate 2 (refine Rg4.w4_any (Rg4.want_none rfl) rfl ?_; apply Exists.intro; refine ⟨fun w' => ?_, ?_⟩; (focus (first | (go_simp; done) | (go_simp; first | rfl | (rw [if_neg] <;> first | rfl | omega) | (rw [if_pos] <;> first | rfl | omega)))); (try simp only [Rg4.nrm]))
  refine Rg4.w4_nil (fun w' hw' hcl' _ => ?_); subst hw'; clear hcl'
  go_wp2_with fail
  refine (HG.out _ st.ext0).mono ?_
  rintro en w ⟨rfl, hx⟩
  replace st := st.ext hx
  clear hx
  (try clear hc); have hc := st.facts; (try simp only [nfl, nft, Nat.reduceAdd] at hc)
  go_wp2_with fail
  refine (HMK.out _ st.ext0).mono ?_
  rintro en w ⟨ra, rc, rfl, hfr⟩
  replace st := st.fresh hfr
  clear hfr
  obtain ⟨g, cap, hv, hcap, -⟩ := st.rowAt (i := 3) get3 (by omega)
  injection hv with v1 _ v3
  subst v1 v3
  have HCAP := Lib.hid hcap
  clear hcap
  (try simp only [nsl, Value.cells, unB] at st)
  (try clear hc); have hc := st.facts; (try simp only [nfl, nft, Nat.reduceAdd] at hc)
  go_wp2_with fail
  have hby := st.rowBy (i := 3) get3
  refine (HRD.out _ _ _ _ hby.2 hby.1).mono ?_
  rintro en w ⟨y, rfl, hys, hcc, st'⟩
  replace st := st.join st'
  have HY := Lib.hid (HYS.out y hys)
  have HCC := Lib.hid hcc
  have HSM2 := Lib.hid (fun W' (hy : MgOk W' y) (h : Ext W W') => HSM.out W' y hy h HY.out.1)
  have HOK : Hid (∀ (w : World), Fl w y.wa y.wn y.ws → Fl w y.sa y.sn y.ss → (∀ z ∈ y.ss, SgOk w z) → MgOk w y) := Lib.hid (fun w h1 h2 h3 => ⟨⟨HCC.out.1, h1⟩, ⟨HCC.out.2, h2⟩, h3⟩)
  rw [HY.out.2] at HSM2
  clear hys hcc hby HY HCC HSM HYS st'
  obtain ⟨yk, yp, ye, ynm, ywa, ywn, ywc, yws, ysa, ysn, ysc, yss⟩ := y
  simp only at HOK
  unfold mgV S at HSM2
  unfold mgV S
  (try simp only [nsl, Value.cells, unB] at st)
  (try clear hc); have hc := st.facts; (try simp only [nfl, nft, Nat.reduceAdd] at hc)
  go_wp2_with ((first
        | ((with_reducible refine wl_store ?_ (fun K hK => ?_)); rfl; refine owp_store rfl st ?_; apply Exists.intro; apply Exists.intro; refine ⟨?_, ?_, ?_⟩; (focus (go_simp; try rfl)); (focus (go_simp; try rfl)); (with_reducible refine ⟨7, _, _, _, _, get7, rfl, rfl, ?_, ?_, ?_, ?_⟩); (kernel_rfl); (simp [Value.cells]); (rfl); (clear st; intro w st))
        | ((with_reducible refine wl_alloc ?_ (fun K hK => ?_)); rfl; refine owp_alloc (o := ⟨some 9, _, _, _, _, _⟩) rfl st ?_; apply Exists.intro; apply Exists.intro; refine ⟨?_, ?_⟩; (focus (first | (go_simp; done) | (go_simp; rfl))); (clear st; intro b9 w hb st; clear hb))); (try simp only [nsl, Value.cells, unB] at st); (try clear hc); have hc := st.facts; (try simp only [nfl, nft, Nat.reduceAdd] at hc))
  refine (HSM2.out _ (HOK.out _ (st.flAt (i := 4) get4) (st.flAt (i := 5) get5) (st.sgsAt (i := 6) get6)) st.ext0).mono ?_
  rintro en w ⟨rfl, hx⟩
  replace st := st.ext hx
  clear hx
  (try simp only [nsl, Value.cells, unB] at st)
  (try clear hc); have hc := st.facts; (try simp only [nfl, nft, Nat.reduceAdd] at hc)
  go_wp2_with fail
  refine (HRB.out _ st.ext0).mono ?_
  rintro en w ⟨rfl, hx⟩
  replace st := st.ext hx
  clear hx
  (try clear hc); have hc := st.facts; (try simp only [nfl, nft, Nat.reduceAdd] at hc)
  have hus := HUS.out
  have hrow := row_cell (st.row (i := 3) get3) p (by omega)
  have hu := hrow.1.trans HT.out
  have hfu := hrow.2.1
  clear hrow
  by_cases hrs2 : r < s
  · have y1 := z1.1 hrs2
    clear z1
    by_cases hzc : z = c
    · have hze : ((z.toNat : Int) == (c.toNat : Int)) = true := by rw [hzc]; simp
      clear hzc
      go_wp2_with fail
      go_ret
      exact ⟨rfl, st.ext0⟩
    · have hze : ((z.toNat : Int) == (c.toNat : Int)) = false := by
        have hq : z.toNat ≠ c.toNat := fun h => hzc (UInt8.toNat.inj h)
        simp; omega
      have HBC := Lib.hid (HBD.out hzc)
      clear hzc
      go_wp2_with ((with_reducible refine wl_store ?_ (fun K hK => ?_)); (rfl); (refine owp_storeRow' rfl st ?_; apply Exists.intro; apply Exists.intro; refine ⟨?_, ?_, ?_⟩; (focus (go_simp; try rfl)); (focus (go_simp; try rfl)); refine ⟨3, _, _, _, _, _, _, _, _, get3, rfl, rfl, ?_, ?_, ?_, ?_⟩; (kernel_rfl); (simp [Value.cells]; omega); (rfl); (clear st hu hfu; intro w st)))
      (try rw [HSET.out] at st)
      simp only [List.set] at st
      (try rw [HSET.out] at st)
      (try rw [HSET2.out] at st)
      (try simp only [nsl, Value.cells, unB] at st)
      (try clear hc); have hc := st.facts; (try simp only [nfl, nft, Nat.reduceAdd] at hc)
      (try rw [HSET2.out] at st)
      have hby := st.rowBy (i := 3) get3
      refine (HBC.out _ _ _ hby.2 hby.1).mono ?_
      rintro en w ⟨rfl, hx⟩
      replace st := st.ext hx
      clear hx hby
      unfold mgV mg0 S
      simp only
      (try simp only [nsl, Value.cells, unB] at st)
      (try clear hc); have hc := st.facts; (try simp only [nfl, nft, Nat.reduceAdd] at hc)
      go_wp2_with fail
      go_ret
      exact ⟨rfl, st.ext0⟩
  · have y1 := z1.2 hrs2
    clear z1
    by_cases hzc : z = c
    · have hze : ((z.toNat : Int) == (c.toNat : Int)) = true := by rw [hzc]; simp
      clear hzc
      go_wp2_with fail
      go_ret
      exact ⟨rfl, st.ext0⟩
    · have hze : ((z.toNat : Int) == (c.toNat : Int)) = false := by
        have hq : z.toNat ≠ c.toNat := fun h => hzc (UInt8.toNat.inj h)
        simp; omega
      have HBC := Lib.hid (HBD.out hzc)
      clear hzc
      go_wp2_with ((with_reducible refine wl_store ?_ (fun K hK => ?_)); (rfl); (refine owp_storeRow' rfl st ?_; apply Exists.intro; apply Exists.intro; refine ⟨?_, ?_, ?_⟩; (focus (go_simp; try rfl)); (focus (go_simp; try rfl)); refine ⟨3, _, _, _, _, _, _, _, _, get3, rfl, rfl, ?_, ?_, ?_, ?_⟩; (kernel_rfl); (simp [Value.cells]; omega); (rfl); (clear st hu hfu; intro w st)))
      (try rw [HSET.out] at st)
      simp only [List.set] at st
      (try rw [HSET.out] at st)
      (try rw [HSET2.out] at st)
      (try simp only [nsl, Value.cells, unB] at st)
      (try clear hc); have hc := st.facts; (try simp only [nfl, nft, Nat.reduceAdd] at hc)
      (try rw [HSET2.out] at st)
      have hby := st.rowBy (i := 3) get3
      refine (HBC.out _ _ _ hby.2 hby.1).mono ?_
      rintro en w ⟨rfl, hx⟩
      replace st := st.ext hx
      clear hx hby
      unfold mgV mg0 S
      simp only
      (try simp only [nsl, Value.cells, unB] at st)
      (try clear hc); have hc := st.facts; (try simp only [nfl, nft, Nat.reduceAdd] at hc)
      go_wp2_with fail
      go_ret
      exact ⟨rfl, st.ext0⟩
end Go.Proofs.YtekngjkjgmplpaaGreat

namespace Go.Proofs.YtekngjkjgmplpaaGreat
set_option linter.unusedSimpArgs false
set_option linter.unusedVariables false
open Go Go.RowKit Go.ChangeShapes Go.WideShapes Go.ChangeAt

section
variable {H : Type} {enc : TypeId × Value → H} {P : Program} {w : World} {base : Nat} {spare : Nat → Bool} {held : Bool}
end
end Go.Proofs.YtekngjkjgmplpaaGreat

namespace Go.Proofs.YtekngjkjgmplpaaGreat
set_option linter.unusedSimpArgs false
set_option linter.unusedVariables false
open Go Go.RowKit Go.ChangeShapes Go.WideShapes Go.ChangeAt
theorem upto_bound {H : Type} {l : List (DataW H)} (hk : Rows.uptoSmall H l = true) : Rows.uptoBulkAll l ≤ 1048576 := of_decide_eq_true hk
theorem bulk_pos {H : Type} (d : DataW H) : 1 ≤ Rows.uptoBulk d := by
  cases d with
  | lit l => cases l <;> simp [Rows.uptoBulk]
  | nil => simp [Rows.uptoBulk]
  | ptr d => simp [Rows.uptoBulk]
  | slice elems spare => simp [Rows.uptoBulk]
  | agg parts => simp [Rows.uptoBulk]
  | iface t d => simp [Rows.uptoBulk]
  | map entries => simp [Rows.uptoBulk]
  | held h => simp [Rows.uptoBulk]
theorem bulk_len {H : Type} (l : List (DataW H)) : l.length ≤ Rows.uptoBulkAll l := by
  induction l with
  | nil => simp [Rows.uptoBulkAll]
  | cons x r ih => have := bulk_pos x; simp only [Rows.uptoBulkAll, List.length_cons]; omega
theorem bulk_slice {H : Type} (elems spare : List (DataW H)) : Rows.uptoBulkAll elems + 1 ≤ Rows.uptoBulk (.slice elems spare) := by
  simp only [Rows.uptoBulk]; omega
section
variable {H : Type} {enc : TypeId × Value → H} {P : Program} {w : World} {base : Nat} {held : Bool}
end
end Go.Proofs.YtekngjkjgmplpaaGreat

namespace Go.Proofs.YtekngjkjgmplpaaGreat
set_option linter.unusedSimpArgs false
set_option linter.unusedVariables false
open Go Go.RowKit Go.ChangeShapes Go.WideShapes Go.ChangeAt
theorem mapM_at {f : Nat → Option Value} : ∀ {l : List Nat} {ys : List Value}, l.mapM f = some ys → ∀ (i k : Nat), l[i]? = some k → f k = ys[i]?
  | [], ys, h, i, k, hk => by simp at hk
  | a :: l, ys, h, i, k, hk => by
    rw [List.mapM_cons] at h
    cases ha : f a with
    | none => rw [ha] at h; cases h
    | some y =>
      rw [ha] at h
      cases hl : l.mapM f with
      | none => rw [hl] at h; cases h
      | some zs =>
        rw [hl] at h
        cases h
        cases i with
        | zero => simp at hk; subst hk; simp [ha]
        | succ i => simp at hk; simpa using mapM_at hl i k hk
theorem cells_at {w : World} {base k : Nat} {a : Addr} {cs : List Value} (h : w.cells? base a k = some cs) (j : Nat) (hj : j < k) : w.cell? (a.add j) = cs[j]? := by
  unfold World.cells? at h
  split at h
  · exact mapM_at (f := fun i => w.cell? (a.add i)) h j j (by simp [hj])
  · cases h
theorem bulk_map {H : Type} {α : Type} (D : Nat → DataW H) (f : Nat → α) (bulk : α → Nat) : ∀ (L : List Nat), (∀ i ∈ L, bulk (f i) ≤ Rows.uptoBulk (D i)) → ((L.map f).map bulk).sum ≤ Rows.uptoBulkAll (L.map D)
  | [], _ => by simp
  | i :: L, h => by
    have ih := bulk_map D f bulk L fun j hj => h j (List.mem_cons_of_mem _ hj)
    have h1 := h i (by simp)
    simp only [List.map_cons, Rows.uptoBulkAll, List.sum_cons]
    omega
section
variable {H : Type} {enc : TypeId × Value → H} {P : Program} {w : World} {base : Nat} {held : Bool}
theorem trod_flts {α : Type} [Flt α] [Inhabited α] (bulk : α → Nat) (R : α → Prop) {t e : TypeId} {fuel : Nat} {cs : List Value} {y : DataW H × List MemPlace} (ht : P.underlying t = some (.slice e)) (ce : P.cellsOf e = Flt.k α)
    (hel : ∀ (fuel : Nat) (cs : List Value) (x : DataW H × List MemPlace), DataW.trod enc P w base (fun _ => true) held fuel e cs = some x → ∃ y : α, cs = Flt.cells y ∧ bulk y ≤ Rows.uptoBulk x.1 ∧ R y)
    (h : DataW.trod enc P w base (fun _ => true) held fuel t cs = some y) : ∃ a n c xs, cs = [.slice a n c] ∧ Fl w a n (xs : List α) ∧ (n ≤ c ∧ c ≤ maxLen) ∧ (xs.map bulk).sum ≤ Rows.uptoBulk y.1 ∧ ∀ x ∈ xs, R x := by
  obtain ⟨d, p⟩ := y
  rcases Go.Deep.open_slice ht h with ⟨hcs, _⟩ | ⟨a', len, cap, m, n', D, Pl, hcs, hb, hl, hm, hmm, hxe, hx⟩
  · exact ⟨none, 0, 0, [], hcs, Fl.nil _ _, ⟨Nat.le_refl _, by simp [maxLen]⟩, by simp, by simp⟩
  · rw [ce] at hx
    simp at hmm
    injection hxe with hd hp
    have hel2 : ∀ i, i < len → ∃ x : α, (∀ j u, (Flt.cells x)[j]? = some u → w.cell? ((a'.add (i * Flt.k α)).add j) = some u) ∧ bulk x ≤ Rows.uptoBulk (D i) ∧ R x := fun i hi => by
      obtain ⟨cs', hc, htr⟩ := hx i (by omega)
      obtain ⟨x, h1, h2, h3⟩ := hel _ _ _ htr
      subst h1
      refine ⟨x, fun j u hu => ?_, h2, h3⟩
      have hj : j < Flt.k α := by
        have := (List.getElem?_eq_some_iff.1 hu).1
        rwa [Flt.len] at this
      rw [cells_at hc j hj, hu]
    obtain ⟨f, hF⟩ : ∃ f : Nat → α, ∀ i, i < len → (∀ j u, (Flt.cells (f i))[j]? = some u → w.cell? ((a'.add (i * Flt.k α)).add j) = some u) ∧ bulk (f i) ≤ Rows.uptoBulk (D i) ∧ R (f i) :=
      ⟨fun i => if h : i < len then (hel2 i h).choose else default, fun i hi => by simp only [hi, dite_true]; exact (hel2 i hi).choose_spec⟩
    refine ⟨some a', len, cap, (List.range len).map f, hcs, ⟨by simp, fun h0 => ?_⟩, ⟨hl, hm⟩, ?_, ?_⟩
    · have hk := Flt.pos (α := α)
      have hx0 : a'.spot = none := by
        obtain ⟨u, hu⟩ : ∃ u, (Flt.cells (f 0))[0]? = some u := ⟨_, List.getElem?_eq_getElem (by rw [Flt.len]; exact hk)⟩
        have := (hF 0 h0).1 0 u hu
        simp only [Addr.add, Nat.zero_mul, if_true] at this
        unfold World.cell? at this
        split at this
        · cases hs : a'.spot with
          | none => rfl
          | some q => simp [hs] at this
        · cases this
      obtain ⟨b, off, sp⟩ := a'
      simp at hx0
      subst hx0
      refine ⟨b, off, rfl, fun i x hi j u hu => ?_⟩
      obtain ⟨hin, hfx⟩ : i < len ∧ f i = x := by
        have h1 := (List.getElem?_eq_some_iff.1 hi).1
        have h2 := (List.getElem?_eq_some_iff.1 hi).2
        simp at h1 h2
        exact ⟨h1, h2⟩
      subst hfx
      have h1 := (hF i hin).1 j u hu
      rw [addr_add, addr_add] at h1
      exact h1
    · have hb1 := bulk_map D f bulk (List.range len) (fun i hi => (hF i (by simpa using hi)).2.1)
      have := bulk_slice (H := H) ((List.range len).map D) ((List.range (m - len)).map fun j => D (len + j))
      subst hd
      simp only
      omega
    · intro x hx
      simp only [List.mem_map, List.mem_range] at hx
      obtain ⟨i, hi, rfl⟩ := hx
      exact (hF i hi).2.2
/-- One of them. -/
theorem open_flt {α : Type} [Flt α] (bulk : α → Nat) (R : α → Prop) {r : Reach} {b0 : Nat} {t : TypeId} {fs : Array Field} {v : Value} {d : DataW H} {p : List MemPlace} (ht : P.underlying t = some (.struct fs))
    (hel : ∀ (fuel : Nat) (cs : List Value) (x : DataW H × List MemPlace), DataW.trod enc P w base (fun _ => true) held fuel t cs = some x → ∃ y : α, cs = Flt.cells y ∧ bulk y ≤ Rows.uptoBulk x.1 ∧ R y)
    (hv : Value.okWide P w r b0 t v) (h : DataW.Trod enc P w base (fun _ => true) held t v d p) : ∃ x : α, v = .agg (Flt.cells x).toArray ∧ bulk x ≤ Rows.uptoBulk d ∧ R x := by
  obtain ⟨cs, rfl, hsz⟩ := okWide_struct ht hv
  obtain ⟨fuel, hf⟩ := h
  obtain ⟨x, h1, h2, h3⟩ := hel _ _ _ hf
  refine ⟨x, ?_, h2, h3⟩
  have : cs.toList = Flt.cells x := by simpa [Value.cells] using h1
  congr 1
  apply Array.toList_inj.1
  rw [this]
theorem trod_fields {t : TypeId} {fs : Array Field} {fuel : Nat} {cs : List Value} {x : DataW H × List MemPlace} (ht : P.underlying t = some (.struct fs)) (h : DataW.trod enc P w base (fun _ => true) held fuel t cs = some x) :
    ∃ (xs : List (DataW H × List MemPlace)) (n : Nat), x.1 = .agg (xs.map (·.1)) ∧ cs.length = P.cellsOf t ∧ xs.length = fs.size ∧
      ∀ (i : Nat) (f : Field), fs[i]? = some f → ∃ y, xs[i]? = some y ∧ DataW.trod enc P w base (fun _ => true) held n f.type ((cs.drop f.offset).take (P.cellsOf f.type)) = some y := by
  obtain ⟨xs, n, _, rfl, hl, hlen, hf⟩ := DataW.trod_struct ht h
  refine ⟨xs, n, rfl, hl, hlen, fun i f hi => ?_⟩
  have := hf i f hi
  have hil : i < xs.length := by rw [hlen]; exact (Array.getElem?_eq_some_iff.1 hi).1
  refine ⟨xs[i], List.getElem?_eq_getElem hil, ?_⟩
  rw [this, List.getElem?_eq_getElem hil]
end
end Go.Proofs.YtekngjkjgmplpaaGreat

namespace Go.Proofs.YtekngjkjgmplpaaGreat
set_option linter.unusedSimpArgs false
set_option linter.unusedVariables false
open Go Go.RowKit Go.ChangeShapes Go.WideShapes Go.ChangeAt
section
variable {H : Type} {enc : TypeId × Value → H} {P : Program} {w : World} {base : Nat} {held : Bool}
theorem trod_role {t : TypeId} {f0 f1 : Field} {fuel : Nat} {cs : List Value} {x : DataW H × List MemPlace} (ht : P.underlying t = some (.struct #[f0, f1])) (ce : P.cellsOf t = 2) (o0 : f0.offset = 0) (o1 : f1.offset = 1) (c0 : P.cellsOf f0.type = 1) (c1 : P.cellsOf f1.type = 1)
    (t0 : P.underlying f0.type = some .string) (t1 : P.underlying f1.type = some .string) (h : DataW.trod enc P w base (fun _ => true) held fuel t cs = some x) : ∃ r : Role, cs = [S r.1, S r.2] ∧ Rows.uptoBulk x.1 = r.1.length + r.2.length + 3 := by
  obtain ⟨y0, y1, n, rfl, hl, h0, h1⟩ := trod_struct2 ht h
  rw [ce] at hl
  rw [o0, c0] at h0
  rw [o1, c1] at h1
  match cs, hl with
  | [u, v], _ =>
    simp at h0 h1
    obtain ⟨s0, q0, rfl, _⟩ := DataW.trod_string t0 h0
    obtain ⟨s1, q1, rfl, _⟩ := DataW.trod_string t1 h1
    simp at q0 q1
    subst q0 q1
    obtain ⟨⟨s0⟩⟩ := s0
    obtain ⟨⟨s1⟩⟩ := s1
    refine ⟨(s0, s1), rfl, ?_⟩
    simp [Rows.uptoBulk, Rows.uptoBulkAll]
    omega
end
end Go.Proofs.YtekngjkjgmplpaaGreat

namespace Go.Proofs.YtekngjkjgmplpaaGreat
set_option linter.unusedSimpArgs false
set_option linter.unusedVariables false
open Go Go.RowKit Go.ChangeShapes Go.WideShapes Go.ChangeAt
def bulkC (x : CredT) : Nat := 1 + x.h.1.length + x.h.2.length + x.w.length + x.b.1.length + x.b.2.length + x.c.1.length + x.c.2.length + x.e.length
theorem wtC_bulk (x : CredT) : wtC x ≤ 20 * bulkC x := by unfold wtC bulkC; omega
section
variable {H : Type} {enc : TypeId × Value → H} {P : Program} {w : World} {base : Nat} {held : Bool}
set_option maxRecDepth 100000 in
theorem trod_cred {fuel : Nat} {cs : List Value} {x : DataW H × List MemPlace} (h : DataW.trod enc Tryz.prog w base (fun _ => true) held fuel 47 cs = some x) : ∃ y : CredT, cs = Flt.cells y ∧ bulkC y ≤ Rows.uptoBulk x.1 ∧ True := by
  have hS := Tryz.underlying47
  obtain ⟨xs, n, hx, hl, hlen, hf⟩ := trod_fields hS h
  rw [show Tryz.prog.cellsOf 47 = 9 from by kernel_rfl] at hl
  obtain ⟨y0, e0, h0⟩ := hf 0 _ rfl
  obtain ⟨y1, e1, h1⟩ := hf 1 _ rfl
  obtain ⟨y2, e2, h2⟩ := hf 2 _ rfl
  obtain ⟨y3, e3, h3⟩ := hf 3 _ rfl
  obtain ⟨y4, e4, h4⟩ := hf 4 _ rfl
  obtain ⟨y5, e5, h5⟩ := hf 5 _ rfl
  change DataW.trod enc Tryz.prog w base (fun _ => true) held n 3 ((cs.drop 0).take (Tryz.prog.cellsOf 3)) = some y0 at h0
  change DataW.trod enc Tryz.prog w base (fun _ => true) held n 45 ((cs.drop 1).take (Tryz.prog.cellsOf 45)) = some y1 at h1
  change DataW.trod enc Tryz.prog w base (fun _ => true) held n 9 ((cs.drop 3).take (Tryz.prog.cellsOf 9)) = some y2 at h2
  change DataW.trod enc Tryz.prog w base (fun _ => true) held n 45 ((cs.drop 4).take (Tryz.prog.cellsOf 45)) = some y3 at h3
  change DataW.trod enc Tryz.prog w base (fun _ => true) held n 45 ((cs.drop 6).take (Tryz.prog.cellsOf 45)) = some y4 at h4
  change DataW.trod enc Tryz.prog w base (fun _ => true) held n 9 ((cs.drop 8).take (Tryz.prog.cellsOf 9)) = some y5 at h5
  have k1 : Tryz.prog.cellsOf 3 = 1 := by kernel_rfl
  have k2 : Tryz.prog.cellsOf 45 = 2 := by kernel_rfl
  have k3 : Tryz.prog.cellsOf 9 = 1 := by kernel_rfl
  rw [k1] at h0
  rw [k2] at h1 h3 h4
  rw [k3] at h2 h5
  have hl6 : xs.length = 6 := hlen
  match cs, hl, xs, hl6 with
  | [c0, c1, c2, c3, c4, c5, c6, c7, c8], _, [z0, z1, z2, z3, z4, z5], _ =>
    simp at e0 e1 e2 e3 e4 e5
    subst e0 e1 e2 e3 e4 e5
    simp only [List.drop_succ_cons, List.drop_zero, List.take_succ_cons, List.take_zero] at h0 h1 h2 h3 h4 h5
    obtain ⟨i0, q0, rfl, _⟩ := DataW.trod_int Tryz.underlying3 h0
    obtain ⟨r1, q1, b1⟩ := trod_role Tryz.underlying45 (by kernel_rfl) rfl rfl (by kernel_rfl) (by kernel_rfl) Tryz.underlying9 Tryz.underlying9 h1
    obtain ⟨s2, q2, rfl, _⟩ := DataW.trod_string Tryz.underlying9 h2
    obtain ⟨r3, q3, b3⟩ := trod_role Tryz.underlying45 (by kernel_rfl) rfl rfl (by kernel_rfl) (by kernel_rfl) Tryz.underlying9 Tryz.underlying9 h3
    obtain ⟨r4, q4, b4⟩ := trod_role Tryz.underlying45 (by kernel_rfl) rfl rfl (by kernel_rfl) (by kernel_rfl) Tryz.underlying9 Tryz.underlying9 h4
    obtain ⟨s5, q5, rfl, _⟩ := DataW.trod_string Tryz.underlying9 h5
    simp at q0 q1 q2 q3 q4 q5
    obtain ⟨⟨s2⟩⟩ := s2
    obtain ⟨⟨s5⟩⟩ := s5
    refine ⟨⟨i0, r1, s2, r3, r4, s5⟩, ?_, ?_, trivial⟩
    · rw [q0, q1.1, q1.2, q2, q3.1, q3.2, q4.1, q4.2, q5]; rfl
    · rw [hx]
      simp only [List.map_cons, List.map_nil, Rows.uptoBulk, Rows.uptoBulkAll, b1, b3, b4, bulkC]
      simp [Rows.uptoBulk]
      omega
  | [], hl, _, _ => simp at hl
end
end Go.Proofs.YtekngjkjgmplpaaGreat

namespace Go.Proofs.YtekngjkjgmplpaaGreat
set_option linter.unusedSimpArgs false
set_option linter.unusedVariables false
open Go Go.RowKit Go.ChangeShapes Go.WideShapes Go.ChangeAt
section
variable {H : Type} {enc : TypeId × Value → H} {w : World} {base : Nat} {held : Bool}
set_option maxRecDepth 100000 in
theorem trod_by {fuel : Nat} {cs : List Value} {x : DataW H × List MemPlace} (h : DataW.trod enc Tryz.prog w base (fun _ => true) held fuel 26 cs = some x) : ∃ a n c xs, cs = [.slice a n c] ∧ By w a n xs ∧ (n ≤ c ∧ c ≤ maxLen) ∧ n ≤ Rows.uptoBulk x.1 := by
  rcases open_ints Tryz.underlying26 Tryz.underlying5 (by kernel_rfl) h with ⟨rfl, _⟩ | ⟨a, l, c, zs, rfl, _, hl, hm, hz, hx, hcell, hwz⟩
  · exact ⟨none, 0, 0, [], rfl, By.nil _ _, ⟨Nat.le_refl _, by simp [maxLen]⟩, Nat.zero_le _⟩
  · have hz2 : zs.length = c := by simpa using hz
    obtain ⟨xs, h1, h2, h3⟩ := By.of_row (w := w) (a := some a) (len := l) (cap := c) (zs := zs) (.inr ⟨_, rfl, hl, hm, hz2, hcell, hwz⟩)
    refine ⟨some a, l, c, xs, rfl, h1, ⟨hl, hm⟩, ?_⟩
    rw [hx]
    simp only [Rows.uptoBulk]
    have := bulk_len (H := H) (lits .u8 (zs.take l))
    have hlen : (lits (H := H) .u8 (zs.take l)).length = l := by simp [lits, hz2, hl]
    omega
end
end Go.Proofs.YtekngjkjgmplpaaGreat

namespace Go.Proofs.YtekngjkjgmplpaaGreat
set_option linter.unusedSimpArgs false
set_option linter.unusedVariables false
open Go Go.RowKit Go.ChangeShapes Go.WideShapes Go.ChangeAt
def bulkRo (r : Role) : Nat := 1 + r.1.length + r.2.length
def bulkSg (x : SgnT) : Nat := bulkC x.c + x.n
def bulkMsg (x : MsgT) : Nat := x.nm.length + (x.ws.map bulkRo).sum + (x.ss.map bulkSg).sum
theorem weightSg_bulk : ∀ l : List SgnT, weightSg l ≤ 20 * (l.map bulkSg).sum
  | [] => by simp [weightSg]
  | x :: l => by
    have := weightSg_bulk l
    have h1 := wtC_bulk x.c
    have h2 : wtSg x = wtC x.c + x.n := rfl
    have h3 : bulkSg x = bulkC x.c + x.n := rfl
    rw [weightSg_cons]; simp only [List.map_cons, List.sum_cons]; omega
theorem weightW_bulk : ∀ l : List Role, weightW l ≤ 5 * (l.map bulkRo).sum
  | [] => by simp [weightW]
  | x :: l => by
    have := weightW_bulk l
    have h2 : wtR x = 5 + x.1.length + x.2.length := rfl
    have h3 : bulkRo x = 1 + x.1.length + x.2.length := rfl
    rw [weightW_cons]; simp only [List.map_cons, List.sum_cons]; omega
theorem weightM_bulk (x : MsgT) : weightM x ≤ 20 * bulkMsg x := by
  have h1 := weightSg_bulk x.ss
  have h2 := weightW_bulk x.ws
  unfold weightM bulkMsg
  omega
section
variable {H : Type} {enc : TypeId × Value → H} {w : World} {base : Nat} {held : Bool}
theorem trod_roleF {fuel : Nat} {cs : List Value} {x : DataW H × List MemPlace} (h : DataW.trod enc Tryz.prog w base (fun _ => true) held fuel 45 cs = some x) : ∃ y : Role, cs = Flt.cells y ∧ bulkRo y ≤ Rows.uptoBulk x.1 ∧ True := by
  obtain ⟨r, q, b⟩ := trod_role Tryz.underlying45 (by kernel_rfl) rfl rfl (by kernel_rfl) (by kernel_rfl) Tryz.underlying9 Tryz.underlying9 h
  exact ⟨r, q, by unfold bulkRo; omega, trivial⟩
set_option maxRecDepth 100000 in
theorem trod_sgn {fuel : Nat} {cs : List Value} {x : DataW H × List MemPlace} (h : DataW.trod enc Tryz.prog w base (fun _ => true) held fuel 61 cs = some x) : ∃ y : SgnT, cs = Flt.cells y ∧ bulkSg y ≤ Rows.uptoBulk x.1 ∧ SgOk w y := by
  have hS := Tryz.underlying61
  obtain ⟨xs, n, hx, hl, hlen, hf⟩ := trod_fields hS h
  rw [show Tryz.prog.cellsOf 61 = 10 from by kernel_rfl] at hl
  obtain ⟨y0, e0, h0⟩ := hf 0 _ rfl
  obtain ⟨y1, e1, h1⟩ := hf 1 _ rfl
  change DataW.trod enc Tryz.prog w base (fun _ => true) held n 47 ((cs.drop 0).take (Tryz.prog.cellsOf 47)) = some y0 at h0
  change DataW.trod enc Tryz.prog w base (fun _ => true) held n 26 ((cs.drop 9).take (Tryz.prog.cellsOf 26)) = some y1 at h1
  have k1 : Tryz.prog.cellsOf 47 = 9 := by kernel_rfl
  have k2 : Tryz.prog.cellsOf 26 = 1 := by kernel_rfl
  rw [k1] at h0
  rw [k2] at h1
  have hl2 : xs.length = 2 := hlen
  match cs, hl, xs, hl2 with
  | [c0, c1, c2, c3, c4, c5, c6, c7, c8, c9], _, [z0, z1], _ =>
    simp at e0 e1
    subst e0 e1
    simp only [List.drop_succ_cons, List.drop_zero, List.take_succ_cons, List.take_zero] at h0 h1
    obtain ⟨y, q0, b0, _⟩ := trod_cred h0
    obtain ⟨a, m, c, ys, q1, hb, hc, hk⟩ := trod_by h1
    refine ⟨⟨y, a, m, c, ys⟩, ?_, ?_, hc, hb⟩
    · simp [Flt.cells, cC] at q0
      simp at q1
      obtain ⟨rfl, rfl, rfl, rfl, rfl, rfl, rfl, rfl, rfl⟩ := q0
      subst q1
      rfl
    · rw [hx]
      simp only [List.map_cons, List.map_nil, Rows.uptoBulk, Rows.uptoBulkAll, bulkSg]
      omega
  | [], hl, _, _ => simp at hl
set_option maxRecDepth 100000 in
theorem trod_msg {fuel : Nat} {cs : List Value} {x : DataW H × List MemPlace} (h : DataW.trod enc Tryz.prog w base (fun _ => true) held fuel 25 cs = some x) : ∃ y : MsgT, cs = Flt.cells y ∧ bulkMsg y ≤ Rows.uptoBulk x.1 ∧ MgOk w y := by
  have hS := Tryz.underlying25
  obtain ⟨xs, n, hx, hl, hlen, hf⟩ := trod_fields hS h
  rw [show Tryz.prog.cellsOf 25 = 6 from by kernel_rfl] at hl
  obtain ⟨y0, e0, h0⟩ := hf 0 _ rfl
  obtain ⟨y1, e1, h1⟩ := hf 1 _ rfl
  obtain ⟨y2, e2, h2⟩ := hf 2 _ rfl
  obtain ⟨y3, e3, h3⟩ := hf 3 _ rfl
  obtain ⟨y4, e4, h4⟩ := hf 4 _ rfl
  obtain ⟨y5, e5, h5⟩ := hf 5 _ rfl
  change DataW.trod enc Tryz.prog w base (fun _ => true) held n 3 ((cs.drop 0).take (Tryz.prog.cellsOf 3)) = some y0 at h0
  change DataW.trod enc Tryz.prog w base (fun _ => true) held n 3 ((cs.drop 1).take (Tryz.prog.cellsOf 3)) = some y1 at h1
  change DataW.trod enc Tryz.prog w base (fun _ => true) held n 3 ((cs.drop 2).take (Tryz.prog.cellsOf 3)) = some y2 at h2
  change DataW.trod enc Tryz.prog w base (fun _ => true) held n 9 ((cs.drop 3).take (Tryz.prog.cellsOf 9)) = some y3 at h3
  change DataW.trod enc Tryz.prog w base (fun _ => true) held n 22 ((cs.drop 4).take (Tryz.prog.cellsOf 22)) = some y4 at h4
  change DataW.trod enc Tryz.prog w base (fun _ => true) held n 23 ((cs.drop 5).take (Tryz.prog.cellsOf 23)) = some y5 at h5
  have k1 : Tryz.prog.cellsOf 3 = 1 := by kernel_rfl
  have k2 : Tryz.prog.cellsOf 9 = 1 := by kernel_rfl
  have k3 : Tryz.prog.cellsOf 22 = 1 := by kernel_rfl
  have k4 : Tryz.prog.cellsOf 23 = 1 := by kernel_rfl
  rw [k1] at h0 h1 h2
  rw [k2] at h3
  rw [k3] at h4
  rw [k4] at h5
  have hl6 : xs.length = 6 := hlen
  match cs, hl, xs, hl6 with
  | [c0, c1, c2, c3, c4, c5], _, [z0, z1, z2, z3, z4, z5], _ =>
    simp at e0 e1 e2 e3 e4 e5
    subst e0 e1 e2 e3 e4 e5
    simp only [List.drop_succ_cons, List.drop_zero, List.take_succ_cons, List.take_zero] at h0 h1 h2 h3 h4 h5
    obtain ⟨i0, q0, rfl, _⟩ := DataW.trod_int Tryz.underlying3 h0
    obtain ⟨i1, q1, rfl, _⟩ := DataW.trod_int Tryz.underlying3 h1
    obtain ⟨i2, q2, rfl, _⟩ := DataW.trod_int Tryz.underlying3 h2
    obtain ⟨s3, q3, rfl, _⟩ := DataW.trod_string Tryz.underlying9 h3
    obtain ⟨wa, wn, wc, ws, q4, hw1, hw2, hw3, _⟩ := trod_flts (α := Role) bulkRo (fun _ => True) Tryz.underlying22 (by kernel_rfl) (fun _ _ _ h => trod_roleF h) h4
    obtain ⟨sa, sn, sc, ss, q5, hs1, hs2, hs3, hs4⟩ := trod_flts (α := SgnT) bulkSg (SgOk w) Tryz.underlying23 (by kernel_rfl) (fun _ _ _ h => trod_sgn h) h5
    simp at q0 q1 q2 q3 q4 q5
    obtain ⟨⟨s3⟩⟩ := s3
    refine ⟨⟨i0, i1, i2, s3, wa, wn, wc, ws, sa, sn, sc, ss⟩, ?_, ?_, ⟨hw2, hw1⟩, ⟨hs2, hs1⟩, hs4⟩
    · rw [q0, q1, q2, q3, q4, q5]; rfl
    · rw [hx]
      simp only [List.map_cons, List.map_nil, Rows.uptoBulk, Rows.uptoBulkAll, bulkMsg]
      simp [Rows.uptoBulk]
      omega
  | [], hl, _, _ => simp at hl
end
end Go.Proofs.YtekngjkjgmplpaaGreat

namespace Go.Proofs.YtekngjkjgmplpaaGreat
set_option linter.unusedSimpArgs false
set_option linter.unusedVariables false
open Go Go.RowKit Go.ChangeShapes Go.WideShapes Go.ChangeAt
structure ToldT where
  n : Int
  m : MsgT
  t : Int
  c : Int
deriving Inhabited
def toldC (h : ToldT) : List Value := [.int .u32 h.n, .int .i64 h.m.k, .int .i64 h.m.p, .int .i64 h.m.e, S h.m.nm, .slice h.m.wa h.m.wn h.m.wc, .slice h.m.sa h.m.sn h.m.sc, .int .u16 h.t, .int .u8 h.c]
instance fltTold : Flt ToldT := ⟨9, toldC, fun _ => rfl, by decide, fun x u hu => by simp [toldC] at hu; rcases hu with rfl | rfl | rfl | rfl | rfl | rfl | rfl | rfl | rfl <;> rfl⟩
def ToldR (w : World) (h : ToldT) : Prop := MgOk w h.m ∧ (0 ≤ h.n ∧ h.n ≤ 4294967295) ∧ (0 ≤ h.t ∧ h.t ≤ 65535) ∧ (0 ≤ h.c ∧ h.c ≤ 255)
def toldW (h : ToldT) : Nat := bulkMsg h.m
section
variable {H : Type} {enc : TypeId × Value → H} {w : World} {base : Nat} {held : Bool}
set_option maxRecDepth 100000 in
theorem trod_told {fuel : Nat} {cs : List Value} {x : DataW H × List MemPlace} (h : DataW.trod enc Tryz.prog w base (fun _ => true) held fuel 38 cs = some x) : ∃ y : ToldT, cs = Flt.cells y ∧ toldW y ≤ Rows.uptoBulk x.1 ∧ ToldR w y := by
  have hS := Tryz.underlying38
  obtain ⟨xs, n, hx, hl, hlen, hf⟩ := trod_fields hS h
  rw [show Tryz.prog.cellsOf 38 = 9 from by kernel_rfl] at hl
  obtain ⟨y0, e0, h0⟩ := hf 0 _ rfl
  obtain ⟨y1, e1, h1⟩ := hf 1 _ rfl
  obtain ⟨y2, e2, h2⟩ := hf 2 _ rfl
  obtain ⟨y3, e3, h3⟩ := hf 3 _ rfl
  change DataW.trod enc Tryz.prog w base (fun _ => true) held n 35 ((cs.drop 0).take (Tryz.prog.cellsOf 35)) = some y0 at h0
  change DataW.trod enc Tryz.prog w base (fun _ => true) held n 25 ((cs.drop 1).take (Tryz.prog.cellsOf 25)) = some y1 at h1
  change DataW.trod enc Tryz.prog w base (fun _ => true) held n 36 ((cs.drop 7).take (Tryz.prog.cellsOf 36)) = some y2 at h2
  change DataW.trod enc Tryz.prog w base (fun _ => true) held n 5 ((cs.drop 8).take (Tryz.prog.cellsOf 5)) = some y3 at h3
  have k1 : Tryz.prog.cellsOf 35 = 1 := by kernel_rfl
  have k2 : Tryz.prog.cellsOf 25 = 6 := by kernel_rfl
  have k3 : Tryz.prog.cellsOf 36 = 1 := by kernel_rfl
  have k4 : Tryz.prog.cellsOf 5 = 1 := by kernel_rfl
  rw [k1] at h0
  rw [k2] at h1
  rw [k3] at h2
  rw [k4] at h3
  simp at hlen
  match xs, hlen, cs, hl with
  | [z0, z1, z2, z3], _, [c0, c1, c2, c3, c4, c5, c6, c7, c8], _ =>
    simp at e0 e1 e2 e3
    subst e0 e1 e2 e3
    simp only [List.drop_succ_cons, List.drop_zero, List.take_succ_cons, List.take_zero] at h0 h1 h2 h3
    obtain ⟨i0, q0, rfl, b0⟩ := DataW.trod_int Tryz.underlying35 h0
    obtain ⟨y, q1, b1, hm⟩ := trod_msg h1
    obtain ⟨i2, q2, rfl, b2⟩ := DataW.trod_int Tryz.underlying36 h2
    obtain ⟨i3, q3, rfl, b3⟩ := DataW.trod_int Tryz.underlying5 h3
    simp [Flt.cells, mgC] at q1
    simp at q0 q2 q3
    refine ⟨⟨i0, y, i2, i3⟩, ?_, ?_, hm, ?_, ?_, ?_⟩
    · obtain ⟨r1, r2, r3, r4, r5, r6⟩ := q1
      rw [q0, q2, q3, r1, r2, r3, r4, r5, r6]; rfl
    · rw [hx]
      simp only [List.map_cons, List.map_nil, Rows.uptoBulk, Rows.uptoBulkAll, toldW]
      omega
    · have h := b0; simp [Lit.wf, IntKind.min, IntKind.max, IntKind.signed, IntKind.bits] at h; exact h
    · have h := b2; simp [Lit.wf, IntKind.min, IntKind.max, IntKind.signed, IntKind.bits] at h; exact h
    · have h := b3; simp [Lit.wf, IntKind.min, IntKind.max, IntKind.signed, IntKind.bits] at h; exact h
end
theorem frameTells_told (h : ToldT) (W : World) (hr : ToldR W h) (hw : weightM h.m ≤ 100000000) :
    Calls Tryz.prog 4 #[.agg #[.int .u32 h.n, .int .i64 h.m.k, .int .i64 h.m.p, .int .i64 h.m.e, S h.m.nm, .slice h.m.wa h.m.wn h.m.wc, .slice h.m.sa h.m.sn h.m.sc, .int .u16 h.t, .int .u8 h.c]] W fun e w' => e = .returned (.bool true) ∧ Ext W w' := by
  obtain ⟨n, m, t, c⟩ := h
  obtain ⟨hm, hn, ht, hc⟩ := hr
  simp only at hm hn ht hc hw
  obtain ⟨n, rfl⟩ : ∃ k : Nat, n = k := ⟨n.toNat, by omega⟩
  obtain ⟨t, rfl⟩ : ∃ k : Nat, t = k := ⟨t.toNat, by omega⟩
  obtain ⟨c, rfl⟩ : ∃ k : UInt8, c = (k.toNat : Int) := ⟨UInt8.ofNat c.toNat, by simp; omega⟩
  exact frameTells_all n m t c W hm (by omega) (by omega) hw
end Go.Proofs.YtekngjkjgmplpaaGreat
