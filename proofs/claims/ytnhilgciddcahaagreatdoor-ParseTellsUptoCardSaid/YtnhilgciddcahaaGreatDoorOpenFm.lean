/- Formulas: the reference's Nodes, Deep, well, Right. -/
import Derived.Test.YtnhilgciddcahaaGreatDoorPsW
import Derived.Test.YtnhilgciddcahaaGreatDoorPsC
import Derived.Test.YtnhilgciddcahaaGreatDoorPsS
import Derived.Test.YtnhilgciddcahaaGreatDoorRows
import Derived.Stop.LaidErr
import Derived.ProofKit
import Derived.OpenShut
import Derived.Deep.Strs
import Derived.Deep.Slices
import Derived.ChangeSame
import Derived.ChangeArms
namespace Go.Proofs.YtnhilgciddcahaaGreatDoor
set_option linter.unusedSimpArgs false
set_option linter.unusedVariables false
open Go Go.RowKit
set_option maxRecDepth 100000 in
set_option maxHeartbeats 2000000 in
theorem refNodes_any (f : Fm) : ∀ (W : World), FmOk W f → f.strip.nodes ≤ 1000000000 →
    Calls Tryz.prog 12 #[fmV f] W fun e w' => e = .returned (.int .i64 (f.strip.nodes : Int)) ∧ Ext W w' := by
  induction f using Fm.ind
  rename_i op k r a n c kids ih
  intro W hok hs
  obtain ⟨o, d⟩ := r
  rw [strip_mk] at *
  have HN : Hid (n = kids.length) := Lib.hid hok.fl.1
  have HOK := Lib.hid hok
  have HI := Lib.hid ih
  rw [Fo.nodes] at *
  have HS : Hid (1 + nodesL (kids.map Fm.strip) ≤ 1000000000) := Lib.hid hs
  have hn : n ≤ 1000000000 := by have := nodesL_len (kids.map Fm.strip); rw [List.length_map] at this; have := hok.fl.1; omega
  clear hok ih hs
  have st := Own.startOld W
  unfold fmV S
  simp only
  (try simp only [nsl, Value.cells, unB] at st)
  (try clear hc); have hc := st.facts; (try simp only [nfl, nft, Nat.reduceAdd] at hc)
  go_enter Tryz.func12, Tryz.ntmps12
  go_wp2_with ((first
        | ((with_reducible refine wl_box ?_ (fun K hK => ?_)); rfl; refine owp_box (o := ⟨some 1, _, _, _, _, _⟩) rfl st ?_; apply Exists.intro; refine ⟨?_, ?_⟩; (focus (go_simp; try rfl)); (clear st; intro b1 w hb st; clear hb))
        | ((with_reducible refine wl_alloc ?_ (fun K hK => ?_)); rfl; refine owp_alloc (o := ⟨some 5, _, _, _, _, _⟩) rfl st ?_; apply Exists.intro; apply Exists.intro; refine ⟨?_, ?_⟩; (focus (first | (go_simp; done) | (go_simp; rfl))); (clear st; intro b5 w hb st; clear hb))
        | ((with_reducible refine wl_store ?_ (fun K hK => ?_)); rfl; refine owp_store rfl st ?_; apply Exists.intro; apply Exists.intro; refine ⟨?_, ?_, ?_⟩; (focus (go_simp; try rfl)); (focus (go_simp; try rfl)); (first | (with_reducible refine ⟨0, _, _, _, _, get0, rfl, rfl, ?_, ?_, ?_, ?_⟩) | (with_reducible refine ⟨1, _, _, _, _, get1, rfl, rfl, ?_, ?_, ?_, ?_⟩) | (with_reducible refine ⟨2, _, _, _, _, get2, rfl, rfl, ?_, ?_, ?_, ?_⟩) | (with_reducible refine ⟨3, _, _, _, _, get3, rfl, rfl, ?_, ?_, ?_, ?_⟩)); (kernel_rfl); (simp [Value.cells]); (rfl); (clear st; intro w st))); (try simp only [nsl, Value.cells, unB] at st); (try clear hc); have hc := st.facts; (try simp only [nfl, nft, Nat.reduceAdd] at hc))
  go_loopg [3, 9] n (fun q s i wr => ∃ (j g : Nat), j ≤ n ∧ q = n - j ∧ s = .int .i64 (g : Int) ∧ i = .int .i64 (j : Int) ∧ g ≤ 1000000000 ∧ Hid (g = 1 + nodesL ((kids.take j).map Fm.strip)) ∧ Own (fun _ => False) (fun _ => True) W [oldI W, blkI b1 [.int .i64 op, .int .i64 k, .string ⟨o.toArray⟩, .string ⟨d.toArray⟩, .slice a n c]] wr)
  case atStart => exact ⟨0, 1, by omega, by omega, rfl, rfl, by omega, Lib.hid (by simp [nodesL]), st⟩
  case round =>
    obtain ⟨j, g, hj, rfl, rfl, rfl, hg, HG, st'⟩ := hrel
    clear st hc
    have st := st'
    clear st'
    by_cases hjn : j < n
    · obtain ⟨b, off, ha, hcell⟩ := (st.oldFl (i := 0) get0 HOK.out.fl).fm (by omega)
      have hjl : j < kids.length := by have := HN.out; omega
      have hsn := map_snoc_strip kids j hjl
      have hle := nodesL_take (kids.map Fm.strip) (j + 1)
      rw [← List.map_take, hsn, nodesL_snoc] at hle
      have hsv := HS.out
      have hok := HOK.out.kids _ (List.getElem_mem hjl)
      have hih := HI.out _ (List.getElem_mem hjl)
      have hgt := List.getElem?_eq_getElem hjl
      generalize kids[j] = x at *
      obtain ⟨m, hm⟩ : ∃ v, x.strip.nodes = v := ⟨_, rfl⟩
      have HC := Lib.hid (fun W' (hx : Ext W W') => hih W' (hok.ext hx) (by omega))
      rw [hm] at HC hle
      have hgm : g + m ≤ 1000000000 := by have := HG.out; omega
      have HG2 : Hid (g + m = 1 + nodesL ((kids.take (j + 1)).map Fm.strip)) := Lib.hid (by rw [hsn, nodesL_snoc, HG.out, hm]; omega)
      clear hsn hle hsv hih hjl hok hm
      obtain ⟨op', k', ⟨o', d'⟩, a', n', c', kids'⟩ := x
      obtain ⟨r0, r1, r2, r3, r4⟩ := hcell j op' k' (o', d') a' n' c' kids' hgt
      unfold fmV S at HC
      simp only at HC
      clear hcell hgt
      subst ha
      unfold S at r2 r3
      simp only at r2 r3
      have z1 : IntKind.i64.wrap ((g : Int) + (m : Int)) = ((g + m : Nat) : Int) := by rw [IntWalk.i64_in _ ⟨by omega, by omega⟩]; omega
      (try simp only [nsl, Value.cells, unB] at st)
      (try clear hc); have hc := st.facts; (try simp only [nfl, nft, Nat.reduceAdd] at hc)
      go_wp2_with ((first
            | ((with_reducible refine wl_box ?_ (fun K hK => ?_)); rfl; refine owp_box (o := ⟨some 1, _, _, _, _, _⟩) rfl st ?_; apply Exists.intro; refine ⟨?_, ?_⟩; (focus (go_simp; try rfl)); (clear st; intro b1 w hb st; clear hb))
            | ((with_reducible refine wl_alloc ?_ (fun K hK => ?_)); rfl; refine owp_alloc (o := ⟨some 5, _, _, _, _, _⟩) rfl st ?_; apply Exists.intro; apply Exists.intro; refine ⟨?_, ?_⟩; (focus (first | (go_simp; done) | (go_simp; rfl))); (clear st; intro b5 w hb st; clear hb))
            | ((with_reducible refine wl_store ?_ (fun K hK => ?_)); rfl; refine owp_store rfl st ?_; apply Exists.intro; apply Exists.intro; refine ⟨?_, ?_, ?_⟩; (focus (go_simp; try rfl)); (focus (go_simp; try rfl)); (first | (with_reducible refine ⟨0, _, _, _, _, get0, rfl, rfl, ?_, ?_, ?_, ?_⟩) | (with_reducible refine ⟨1, _, _, _, _, get1, rfl, rfl, ?_, ?_, ?_, ?_⟩) | (with_reducible refine ⟨2, _, _, _, _, get2, rfl, rfl, ?_, ?_, ?_, ?_⟩) | (with_reducible refine ⟨3, _, _, _, _, get3, rfl, rfl, ?_, ?_, ?_, ?_⟩)); (kernel_rfl); (simp [Value.cells]); (rfl); (clear st; intro w st))); (try simp only [nsl, Value.cells, unB] at st); (try clear hc); have hc := st.facts; (try simp only [nfl, nft, Nat.reduceAdd] at hc))
      clear r0 r1 r2 r3 r4
      refine (HC.out _ st.ext0).mono ?_
      rintro en w ⟨rfl, hx⟩
      replace st := st.ext hx
      clear hx
      (try simp only [nsl, Value.cells, unB] at st)
      (try clear hc); have hc := st.facts; (try simp only [nfl, nft, Nat.reduceAdd] at hc)
      go_wp2_with fail
      have st' := st.keep [0, 1] (by decide) (by simp)
      go_roundg (n - (j + 1))
      case measure => omega
      case rel => exact ⟨j + 1, g + m, by omega, rfl, by go_num, by go_num, hgm, HG2, by simpa [pick] using st'⟩
    · obtain rfl : n = j := by omega
      have HE : Hid (1 + nodesL (kids.map Fm.strip) = g) := Lib.hid (by rw [HG.out, List.take_of_length_le (by have := HN.out; omega)])
      (try simp only [nsl, Value.cells, unB] at st)
      (try clear hc); have hc := st.facts; (try simp only [nfl, nft, Nat.reduceAdd] at hc)
      go_wp2_with fail
      go_ret
      exact ⟨by rw [HE.out] <;> rfl, st.ext0⟩
set_option maxRecDepth 100000 in
set_option maxHeartbeats 2000000 in
theorem refDeep_any (f : Fm) : ∀ (W : World), FmOk W f → f.strip.nodes ≤ 1000000000 →
    Calls Tryz.prog 13 #[fmV f] W fun e w' => e = .returned (.int .i64 (f.strip.deep : Int)) ∧ Ext W w' := by
  induction f using Fm.ind
  rename_i op k r a n c kids ih
  intro W hok hs
  obtain ⟨o, d⟩ := r
  rw [strip_mk] at *
  have HN : Hid (n = kids.length) := Lib.hid hok.fl.1
  have HOK := Lib.hid hok
  have HI := Lib.hid ih
  have hdn := deep_nodes (Fo.mk op k (o, d) (kids.map Fm.strip))
  rw [Fo.nodes] at *
  rw [Fo.deep] at *
  have HS : Hid (1 + nodesL (kids.map Fm.strip) ≤ 1000000000 ∧ deepL (kids.map Fm.strip) ≤ 1000000000) := Lib.hid (by omega)
  have hn : n ≤ 1000000000 := by have := nodesL_len (kids.map Fm.strip); rw [List.length_map] at this; have := hok.fl.1; omega
  clear hok ih hs hdn
  have st := Own.startOld W
  unfold fmV S
  simp only
  (try simp only [nsl, Value.cells, unB] at st)
  (try clear hc); have hc := st.facts; (try simp only [nfl, nft, Nat.reduceAdd] at hc)
  go_enter Tryz.func13, Tryz.ntmps13
  go_wp2_with ((first
        | ((with_reducible refine wl_box ?_ (fun K hK => ?_)); rfl; refine owp_box (o := ⟨some 1, _, _, _, _, _⟩) rfl st ?_; apply Exists.intro; refine ⟨?_, ?_⟩; (focus (go_simp; try rfl)); (clear st; intro b1 w hb st; clear hb))
        | ((with_reducible refine wl_alloc ?_ (fun K hK => ?_)); rfl; refine owp_alloc (o := ⟨some 5, _, _, _, _, _⟩) rfl st ?_; apply Exists.intro; apply Exists.intro; refine ⟨?_, ?_⟩; (focus (first | (go_simp; done) | (go_simp; rfl))); (clear st; intro b5 w hb st; clear hb))
        | ((with_reducible refine wl_store ?_ (fun K hK => ?_)); rfl; refine owp_store rfl st ?_; apply Exists.intro; apply Exists.intro; refine ⟨?_, ?_, ?_⟩; (focus (go_simp; try rfl)); (focus (go_simp; try rfl)); (first | (with_reducible refine ⟨0, _, _, _, _, get0, rfl, rfl, ?_, ?_, ?_, ?_⟩) | (with_reducible refine ⟨1, _, _, _, _, get1, rfl, rfl, ?_, ?_, ?_, ?_⟩) | (with_reducible refine ⟨2, _, _, _, _, get2, rfl, rfl, ?_, ?_, ?_, ?_⟩) | (with_reducible refine ⟨3, _, _, _, _, get3, rfl, rfl, ?_, ?_, ?_, ?_⟩)); (kernel_rfl); (simp [Value.cells]); (rfl); (clear st; intro w st))); (try simp only [nsl, Value.cells, unB] at st); (try clear hc); have hc := st.facts; (try simp only [nfl, nft, Nat.reduceAdd] at hc))
  go_loopg [3, 9] n (fun q s i wr => ∃ (j g : Nat), j ≤ n ∧ q = n - j ∧ s = .int .i64 (g : Int) ∧ i = .int .i64 (j : Int) ∧ g ≤ 1000000000 ∧ Hid (g = deepL ((kids.take j).map Fm.strip)) ∧ Own (fun _ => False) (fun _ => True) W [oldI W, blkI b1 [.int .i64 op, .int .i64 k, .string ⟨o.toArray⟩, .string ⟨d.toArray⟩, .slice a n c]] wr)
  case atStart => exact ⟨0, 0, by omega, by omega, rfl, rfl, by omega, Lib.hid (by simp [deepL]), st⟩
  case round =>
    obtain ⟨j, g, hj, rfl, rfl, rfl, hg, HG, st'⟩ := hrel
    clear st hc
    have st := st'
    clear st'
    by_cases hjn : j < n
    · obtain ⟨b, off, ha, hcell⟩ := (st.oldFl (i := 0) get0 HOK.out.fl).fm (by omega)
      have hjl : j < kids.length := by have := HN.out; omega
      have hsn := map_snoc_strip kids j hjl
      have hle := nodesL_take (kids.map Fm.strip) (j + 1)
      have hld := deepL_take (kids.map Fm.strip) (j + 1)
      rw [← List.map_take, hsn, nodesL_snoc] at hle
      rw [← List.map_take, hsn, deepL_snoc] at hld
      have hsv := HS.out
      have hok := HOK.out.kids _ (List.getElem_mem hjl)
      have hih := HI.out _ (List.getElem_mem hjl)
      have hgt := List.getElem?_eq_getElem hjl
      generalize kids[j] = x at *
      have HC := Lib.hid (fun W' (hx : Ext W W') => hih W' (hok.ext hx) (by omega))
      obtain ⟨m, hm⟩ : ∃ v, x.strip.deep = v := ⟨_, rfl⟩
      rw [hm] at HC hld
      have hgm : max g m ≤ 1000000000 := by have := HG.out; omega
      have HG2 : Hid (max g m = deepL ((kids.take (j + 1)).map Fm.strip)) := Lib.hid (by rw [hsn, deepL_snoc, ← HG.out, hm])
      clear hsn hle hld hsv hih hjl hok hm
      obtain ⟨op', k', ⟨o', d'⟩, a', n', c', kids'⟩ := x
      obtain ⟨r0, r1, r2, r3, r4⟩ := hcell j op' k' (o', d') a' n' c' kids' hgt
      unfold fmV S at HC
      simp only at HC
      clear hcell hgt
      subst ha
      unfold S at r2 r3
      simp only at r2 r3
      (try simp only [nsl, Value.cells, unB] at st)
      (try clear hc); have hc := st.facts; (try simp only [nfl, nft, Nat.reduceAdd] at hc)
      go_wp2_with ((first
            | ((with_reducible refine wl_box ?_ (fun K hK => ?_)); rfl; refine owp_box (o := ⟨some 1, _, _, _, _, _⟩) rfl st ?_; apply Exists.intro; refine ⟨?_, ?_⟩; (focus (go_simp; try rfl)); (clear st; intro b1 w hb st; clear hb))
            | ((with_reducible refine wl_alloc ?_ (fun K hK => ?_)); rfl; refine owp_alloc (o := ⟨some 5, _, _, _, _, _⟩) rfl st ?_; apply Exists.intro; apply Exists.intro; refine ⟨?_, ?_⟩; (focus (first | (go_simp; done) | (go_simp; rfl))); (clear st; intro b5 w hb st; clear hb))
            | ((with_reducible refine wl_store ?_ (fun K hK => ?_)); rfl; refine owp_store rfl st ?_; apply Exists.intro; apply Exists.intro; refine ⟨?_, ?_, ?_⟩; (focus (go_simp; try rfl)); (focus (go_simp; try rfl)); (first | (with_reducible refine ⟨0, _, _, _, _, get0, rfl, rfl, ?_, ?_, ?_, ?_⟩) | (with_reducible refine ⟨1, _, _, _, _, get1, rfl, rfl, ?_, ?_, ?_, ?_⟩) | (with_reducible refine ⟨2, _, _, _, _, get2, rfl, rfl, ?_, ?_, ?_, ?_⟩) | (with_reducible refine ⟨3, _, _, _, _, get3, rfl, rfl, ?_, ?_, ?_, ?_⟩)); (kernel_rfl); (simp [Value.cells]); (rfl); (clear st; intro w st))); (try simp only [nsl, Value.cells, unB] at st); (try clear hc); have hc := st.facts; (try simp only [nfl, nft, Nat.reduceAdd] at hc))
      clear r0 r1 r2 r3 r4
      refine (HC.out _ st.ext0).mono ?_
      rintro en w ⟨rfl, hx⟩
      replace st := st.ext hx
      clear hx
      obtain ⟨mx, hmx⟩ : ∃ v, max g m = v := ⟨_, rfl⟩
      rw [hmx] at hgm HG2
      by_cases hgm2 : g < m
      · have hgi : (g : Int) < (m : Int) := by omega
        have hgi2 : ¬ (m : Int) ≤ (g : Int) := by omega
        obtain rfl : mx = m := by omega
        clear hgm2
        (try simp only [nsl, Value.cells, unB] at st)
        (try clear hc); have hc := st.facts; (try simp only [nfl, nft, Nat.reduceAdd] at hc)
        go_wp2_with fail
        have st' := st.keep [0, 1] (by decide) (by simp)
        go_roundg (n - (j + 1))
        case measure => omega
        case rel => exact ⟨j + 1, mx, by omega, rfl, by go_num, by go_num, hgm, HG2, by simpa [pick] using st'⟩
      · have hgi : ¬ (g : Int) < (m : Int) := by omega
        have hgi2 : (m : Int) ≤ (g : Int) := by omega
        obtain rfl : mx = g := by omega
        clear hgm2
        (try simp only [nsl, Value.cells, unB] at st)
        (try clear hc); have hc := st.facts; (try simp only [nfl, nft, Nat.reduceAdd] at hc)
        go_wp2_with fail
        have st' := st.keep [0, 1] (by decide) (by simp)
        go_roundg (n - (j + 1))
        case measure => omega
        case rel => exact ⟨j + 1, mx, by omega, rfl, by go_num, by go_num, hgm, HG2, by simpa [pick] using st'⟩
    · obtain rfl : n = j := by omega
      have HE : Hid (deepL (kids.map Fm.strip) = g) := Lib.hid (by rw [HG.out, List.take_of_length_le (by have := HN.out; omega)])
      have z1 : IntKind.i64.wrap ((g : Int) + 1) = ((g + 1 : Nat) : Int) := by rw [IntWalk.i64_in _ ⟨by omega, by omega⟩]; omega
      (try simp only [nsl, Value.cells, unB] at st)
      (try clear hc); have hc := st.facts; (try simp only [nfl, nft, Nat.reduceAdd] at hc)
      go_wp2_with fail
      go_ret
      exact ⟨by rw [HE.out] <;> rfl, st.ext0⟩
end Go.Proofs.YtnhilgciddcahaaGreatDoor

namespace Go.Proofs.YtnhilgciddcahaaGreatDoor
set_option linter.unusedSimpArgs false
set_option linter.unusedVariables false
open Go Go.RowKit
set_option maxRecDepth 100000 in
set_option maxHeartbeats 4000000 in
theorem refWell_any (f : Fm) : ∀ (W : World), FmOk W f → FoL 100000 f.strip →
    Calls Tryz.prog 14 #[fmV f] W fun e w' => e = .returned (.bool f.strip.well) ∧ Ext W w' := by
  induction f using Fm.ind
  rename_i op k r a n c kids ih
  intro W hok hl
  obtain ⟨o, d⟩ := r
  rw [strip_mk] at *
  have HRo := Lib.hid (fun W => refRoleRight_any (o, d) W (by have := hl.role.1; simp only at this ⊢; omega) (by have := hl.role.2; simp only at this ⊢; omega))
  unfold rV S at HRo
  simp only at HRo
  have HN : Hid (n = kids.length) := Lib.hid hok.fl.1
  have HOK := Lib.hid hok
  have HI := Lib.hid (fun x hx W h => ih x hx W h (hl.kids x.strip (List.mem_map_of_mem hx)))
  have HV : Hid ((Fo.mk op k (o, d) (kids.map Fm.strip)).well = (nodeR op k (o, d) n && decide (n ≤ 8) && wellL (kids.map Fm.strip))) := Lib.hid (by rw [Fo.well, List.length_map, ← HN.out])
  have HA : Hid (wellL (kids.map Fm.strip) = kids.all fun x => x.strip.well) := Lib.hid (by rw [wellL_all, List.all_map]; rfl)
  have HE0 : Hid (n = 0 → wellL (kids.map Fm.strip) = true) := Lib.hid (fun h => by rw [List.eq_nil_of_length_eq_zero (HN.out.symm.trans h)]; rfl)
  obtain ⟨v, hv⟩ : ∃ v, (Fo.mk op k (o, d) (kids.map Fm.strip)).well = v := ⟨_, rfl⟩
  rw [hv] at HV ⊢
  have HNR : Hid (nodeR op k (o, d) n = (if op = 1 then roleR (o, d) && decide (n = 0) && decide (k = 0) else if op = 2 ∨ op = 3 then roleEq (o, d) ([], []) && decide (k = 0) else decide (op = 4) && roleEq (o, d) ([], []) && decide (0 ≤ k) && decide (k ≤ (n : Int)) && decide (1 ≤ n))) := Lib.hid (by unfold nodeR roleEq; rfl)
  generalize wellL (kids.map Fm.strip) = wv at *
  generalize nodeR op k (o, d) n = nr at *
  obtain ⟨e, he⟩ : ∃ v, roleEq (o, d) ([], []) = v := ⟨_, rfl⟩
  have heq := eqRole o d [] []
  rw [he] at HNR heq
  clear he hv hok ih hl
  have st := Own.startOld W
  unfold fmV S
  simp only
  (try simp only [nsl, Value.cells, unB] at st)
  (try clear hc); have hc := st.facts; (try simp only [nfl, nft, Nat.reduceAdd] at hc)
  go_enter Tryz.func14, Tryz.ntmps14
  by_cases o1 : op = 1
  · subst o1
    have HV2 : Hid (v = (roleR (o, d) && decide (n = 0) && decide (k = 0))) := Lib.hid (by
      rw [HV.out, HNR.out, if_pos rfl]
      by_cases q : n = 0
      · rw [HE0.out q]; simp [q]
      · simp [q])
    clear HV HNR heq HA HE0 HI
    have b1 : ((1 : Int) == 1) = true := rfl
    go_wp2_with ((first
          | ((with_reducible refine wl_box ?_ (fun K hK => ?_)); rfl; refine owp_box (o := ⟨some 1, _, _, _, _, _⟩) rfl st ?_; apply Exists.intro; refine ⟨?_, ?_⟩; (focus (go_simp; try rfl)); (clear st; intro b1 w hb st; clear hb))
          | ((with_reducible refine wl_alloc ?_ (fun K hK => ?_)); rfl; refine owp_alloc (o := ⟨some 5, _, _, _, _, _⟩) rfl st ?_; apply Exists.intro; apply Exists.intro; refine ⟨?_, ?_⟩; (focus (first | (go_simp; done) | (go_simp; rfl))); (clear st; intro b5 w hb st; clear hb))
          | ((with_reducible refine wl_store ?_ (fun K hK => ?_)); rfl; refine owp_store rfl st ?_; apply Exists.intro; apply Exists.intro; refine ⟨?_, ?_, ?_⟩; (focus (go_simp; try rfl)); (focus (go_simp; try rfl)); (first | (with_reducible refine ⟨0, _, _, _, _, get0, rfl, rfl, ?_, ?_, ?_, ?_⟩) | (with_reducible refine ⟨1, _, _, _, _, get1, rfl, rfl, ?_, ?_, ?_, ?_⟩) | (with_reducible refine ⟨2, _, _, _, _, get2, rfl, rfl, ?_, ?_, ?_, ?_⟩) | (with_reducible refine ⟨3, _, _, _, _, get3, rfl, rfl, ?_, ?_, ?_, ?_⟩)); (kernel_rfl); (simp [Value.cells]); (rfl); (clear st; intro w st))); (try simp only [nsl, Value.cells, unB] at st); (try clear hc); have hc := st.facts; (try simp only [nfl, nft, Nat.reduceAdd] at hc))
    refine (HRo.out _).mono ?_
    rintro en w ⟨rfl, hx⟩
    replace st := st.ext hx
    clear hx
    (try clear hc); have hc := st.facts; (try simp only [nfl, nft, Nat.reduceAdd] at hc)
    cases hr : roleR (o, d) with
    | false =>
      have H : Hid (v = false) := Lib.hid (by rw [HV2.out, hr]; rfl)
      clear hr
      (try simp only [nsl, Value.cells, unB] at st)
      (try clear hc); have hc := st.facts; (try simp only [nfl, nft, Nat.reduceAdd] at hc)
      go_wp2_with ((first
            | ((with_reducible refine wl_box ?_ (fun K hK => ?_)); rfl; refine owp_box (o := ⟨some 1, _, _, _, _, _⟩) rfl st ?_; apply Exists.intro; refine ⟨?_, ?_⟩; (focus (go_simp; try rfl)); (clear st; intro b1 w hb st; clear hb))
            | ((with_reducible refine wl_alloc ?_ (fun K hK => ?_)); rfl; refine owp_alloc (o := ⟨some 5, _, _, _, _, _⟩) rfl st ?_; apply Exists.intro; apply Exists.intro; refine ⟨?_, ?_⟩; (focus (first | (go_simp; done) | (go_simp; rfl))); (clear st; intro b5 w hb st; clear hb))
            | ((with_reducible refine wl_store ?_ (fun K hK => ?_)); rfl; refine owp_store rfl st ?_; apply Exists.intro; apply Exists.intro; refine ⟨?_, ?_, ?_⟩; (focus (go_simp; try rfl)); (focus (go_simp; try rfl)); (first | (with_reducible refine ⟨0, _, _, _, _, get0, rfl, rfl, ?_, ?_, ?_, ?_⟩) | (with_reducible refine ⟨1, _, _, _, _, get1, rfl, rfl, ?_, ?_, ?_, ?_⟩) | (with_reducible refine ⟨2, _, _, _, _, get2, rfl, rfl, ?_, ?_, ?_, ?_⟩) | (with_reducible refine ⟨3, _, _, _, _, get3, rfl, rfl, ?_, ?_, ?_, ?_⟩)); (kernel_rfl); (simp [Value.cells]); (rfl); (clear st; intro w st))); (try simp only [nsl, Value.cells, unB] at st); (try clear hc); have hc := st.facts; (try simp only [nfl, nft, Nat.reduceAdd] at hc))
      go_ret
      exact ⟨by rw [H.out] <;> rfl, st.ext0⟩
    | true =>
      by_cases n0 : n = 0
      · subst n0
        by_cases k0 : k = 0
        · subst k0
          have H : Hid (v = true) := Lib.hid (by rw [HV2.out, hr]; rfl)
          clear hr
          (try simp only [nsl, Value.cells, unB] at st)
          (try clear hc); have hc := st.facts; (try simp only [nfl, nft, Nat.reduceAdd] at hc)
          go_wp2_with ((first
                | ((with_reducible refine wl_box ?_ (fun K hK => ?_)); rfl; refine owp_box (o := ⟨some 1, _, _, _, _, _⟩) rfl st ?_; apply Exists.intro; refine ⟨?_, ?_⟩; (focus (go_simp; try rfl)); (clear st; intro b1 w hb st; clear hb))
                | ((with_reducible refine wl_alloc ?_ (fun K hK => ?_)); rfl; refine owp_alloc (o := ⟨some 5, _, _, _, _, _⟩) rfl st ?_; apply Exists.intro; apply Exists.intro; refine ⟨?_, ?_⟩; (focus (first | (go_simp; done) | (go_simp; rfl))); (clear st; intro b5 w hb st; clear hb))
                | ((with_reducible refine wl_store ?_ (fun K hK => ?_)); rfl; refine owp_store rfl st ?_; apply Exists.intro; apply Exists.intro; refine ⟨?_, ?_, ?_⟩; (focus (go_simp; try rfl)); (focus (go_simp; try rfl)); (first | (with_reducible refine ⟨0, _, _, _, _, get0, rfl, rfl, ?_, ?_, ?_, ?_⟩) | (with_reducible refine ⟨1, _, _, _, _, get1, rfl, rfl, ?_, ?_, ?_, ?_⟩) | (with_reducible refine ⟨2, _, _, _, _, get2, rfl, rfl, ?_, ?_, ?_, ?_⟩) | (with_reducible refine ⟨3, _, _, _, _, get3, rfl, rfl, ?_, ?_, ?_, ?_⟩)); (kernel_rfl); (simp [Value.cells]); (rfl); (clear st; intro w st))); (try simp only [nsl, Value.cells, unB] at st); (try clear hc); have hc := st.facts; (try simp only [nfl, nft, Nat.reduceAdd] at hc))
          go_ret
          exact ⟨by rw [H.out] <;> rfl, st.ext0⟩
        · have H : Hid (v = false) := Lib.hid (by rw [HV2.out, hr]; simp [k0])
          have hk0 : (k == 0) = false := by simpa using k0
          clear hr k0
          (try simp only [nsl, Value.cells, unB] at st)
          (try clear hc); have hc := st.facts; (try simp only [nfl, nft, Nat.reduceAdd] at hc)
          go_wp2_with ((first
                | ((with_reducible refine wl_box ?_ (fun K hK => ?_)); rfl; refine owp_box (o := ⟨some 1, _, _, _, _, _⟩) rfl st ?_; apply Exists.intro; refine ⟨?_, ?_⟩; (focus (go_simp; try rfl)); (clear st; intro b1 w hb st; clear hb))
                | ((with_reducible refine wl_alloc ?_ (fun K hK => ?_)); rfl; refine owp_alloc (o := ⟨some 5, _, _, _, _, _⟩) rfl st ?_; apply Exists.intro; apply Exists.intro; refine ⟨?_, ?_⟩; (focus (first | (go_simp; done) | (go_simp; rfl))); (clear st; intro b5 w hb st; clear hb))
                | ((with_reducible refine wl_store ?_ (fun K hK => ?_)); rfl; refine owp_store rfl st ?_; apply Exists.intro; apply Exists.intro; refine ⟨?_, ?_, ?_⟩; (focus (go_simp; try rfl)); (focus (go_simp; try rfl)); (first | (with_reducible refine ⟨0, _, _, _, _, get0, rfl, rfl, ?_, ?_, ?_, ?_⟩) | (with_reducible refine ⟨1, _, _, _, _, get1, rfl, rfl, ?_, ?_, ?_, ?_⟩) | (with_reducible refine ⟨2, _, _, _, _, get2, rfl, rfl, ?_, ?_, ?_, ?_⟩) | (with_reducible refine ⟨3, _, _, _, _, get3, rfl, rfl, ?_, ?_, ?_, ?_⟩)); (kernel_rfl); (simp [Value.cells]); (rfl); (clear st; intro w st))); (try simp only [nsl, Value.cells, unB] at st); (try clear hc); have hc := st.facts; (try simp only [nfl, nft, Nat.reduceAdd] at hc))
          go_ret
          exact ⟨by rw [H.out] <;> rfl, st.ext0⟩
      · have H : Hid (v = false) := Lib.hid (by rw [HV2.out, hr]; simp [n0])
        have hn0 : ((n : Int) == 0) = false := by simp; omega
        clear hr n0
        (try simp only [nsl, Value.cells, unB] at st)
        (try clear hc); have hc := st.facts; (try simp only [nfl, nft, Nat.reduceAdd] at hc)
        go_wp2_with ((first
              | ((with_reducible refine wl_box ?_ (fun K hK => ?_)); rfl; refine owp_box (o := ⟨some 1, _, _, _, _, _⟩) rfl st ?_; apply Exists.intro; refine ⟨?_, ?_⟩; (focus (go_simp; try rfl)); (clear st; intro b1 w hb st; clear hb))
              | ((with_reducible refine wl_alloc ?_ (fun K hK => ?_)); rfl; refine owp_alloc (o := ⟨some 5, _, _, _, _, _⟩) rfl st ?_; apply Exists.intro; apply Exists.intro; refine ⟨?_, ?_⟩; (focus (first | (go_simp; done) | (go_simp; rfl))); (clear st; intro b5 w hb st; clear hb))
              | ((with_reducible refine wl_store ?_ (fun K hK => ?_)); rfl; refine owp_store rfl st ?_; apply Exists.intro; apply Exists.intro; refine ⟨?_, ?_, ?_⟩; (focus (go_simp; try rfl)); (focus (go_simp; try rfl)); (first | (with_reducible refine ⟨0, _, _, _, _, get0, rfl, rfl, ?_, ?_, ?_, ?_⟩) | (with_reducible refine ⟨1, _, _, _, _, get1, rfl, rfl, ?_, ?_, ?_, ?_⟩) | (with_reducible refine ⟨2, _, _, _, _, get2, rfl, rfl, ?_, ?_, ?_, ?_⟩) | (with_reducible refine ⟨3, _, _, _, _, get3, rfl, rfl, ?_, ?_, ?_, ?_⟩)); (kernel_rfl); (simp [Value.cells]); (rfl); (clear st; intro w st))); (try simp only [nsl, Value.cells, unB] at st); (try clear hc); have hc := st.facts; (try simp only [nfl, nft, Nat.reduceAdd] at hc))
        go_ret
        exact ⟨by rw [H.out] <;> rfl, st.ext0⟩
  · have b1 : (op == 1) = false := by simpa using o1
    by_cases p1 : op < 1
    · have H : Hid (v = false) := Lib.hid (by rw [HV.out, HNR.out, if_neg o1, if_neg (by omega), decide_eq_false (show ¬ op = 4 by omega)]; rfl)
      clear HV HNR HRo HA HE0 HI
      (try simp only [nsl, Value.cells, unB] at st)
      (try clear hc); have hc := st.facts; (try simp only [nfl, nft, Nat.reduceAdd] at hc)
      go_wp2_with ((first
            | ((with_reducible refine wl_box ?_ (fun K hK => ?_)); rfl; refine owp_box (o := ⟨some 1, _, _, _, _, _⟩) rfl st ?_; apply Exists.intro; refine ⟨?_, ?_⟩; (focus (go_simp; try rfl)); (clear st; intro b1 w hb st; clear hb))
            | ((with_reducible refine wl_alloc ?_ (fun K hK => ?_)); rfl; refine owp_alloc (o := ⟨some 5, _, _, _, _, _⟩) rfl st ?_; apply Exists.intro; apply Exists.intro; refine ⟨?_, ?_⟩; (focus (first | (go_simp; done) | (go_simp; rfl))); (clear st; intro b5 w hb st; clear hb))
            | ((with_reducible refine wl_store ?_ (fun K hK => ?_)); rfl; refine owp_store rfl st ?_; apply Exists.intro; apply Exists.intro; refine ⟨?_, ?_, ?_⟩; (focus (go_simp; try rfl)); (focus (go_simp; try rfl)); (first | (with_reducible refine ⟨0, _, _, _, _, get0, rfl, rfl, ?_, ?_, ?_, ?_⟩) | (with_reducible refine ⟨1, _, _, _, _, get1, rfl, rfl, ?_, ?_, ?_, ?_⟩) | (with_reducible refine ⟨2, _, _, _, _, get2, rfl, rfl, ?_, ?_, ?_, ?_⟩) | (with_reducible refine ⟨3, _, _, _, _, get3, rfl, rfl, ?_, ?_, ?_, ?_⟩)); (kernel_rfl); (simp [Value.cells]); (rfl); (clear st; intro w st))); (try simp only [nsl, Value.cells, unB] at st); (try clear hc); have hc := st.facts; (try simp only [nfl, nft, Nat.reduceAdd] at hc))
      go_ret
      exact ⟨by rw [H.out] <;> rfl, st.ext0⟩
    by_cases p4 : 4 < op
    · have H : Hid (v = false) := Lib.hid (by rw [HV.out, HNR.out, if_neg o1, if_neg (by omega), decide_eq_false (show ¬ op = 4 by omega)]; rfl)
      clear HV HNR HRo HA HE0 HI
      (try simp only [nsl, Value.cells, unB] at st)
      (try clear hc); have hc := st.facts; (try simp only [nfl, nft, Nat.reduceAdd] at hc)
      go_wp2_with ((first
            | ((with_reducible refine wl_box ?_ (fun K hK => ?_)); rfl; refine owp_box (o := ⟨some 1, _, _, _, _, _⟩) rfl st ?_; apply Exists.intro; refine ⟨?_, ?_⟩; (focus (go_simp; try rfl)); (clear st; intro b1 w hb st; clear hb))
            | ((with_reducible refine wl_alloc ?_ (fun K hK => ?_)); rfl; refine owp_alloc (o := ⟨some 5, _, _, _, _, _⟩) rfl st ?_; apply Exists.intro; apply Exists.intro; refine ⟨?_, ?_⟩; (focus (first | (go_simp; done) | (go_simp; rfl))); (clear st; intro b5 w hb st; clear hb))
            | ((with_reducible refine wl_store ?_ (fun K hK => ?_)); rfl; refine owp_store rfl st ?_; apply Exists.intro; apply Exists.intro; refine ⟨?_, ?_, ?_⟩; (focus (go_simp; try rfl)); (focus (go_simp; try rfl)); (first | (with_reducible refine ⟨0, _, _, _, _, get0, rfl, rfl, ?_, ?_, ?_, ?_⟩) | (with_reducible refine ⟨1, _, _, _, _, get1, rfl, rfl, ?_, ?_, ?_, ?_⟩) | (with_reducible refine ⟨2, _, _, _, _, get2, rfl, rfl, ?_, ?_, ?_, ?_⟩) | (with_reducible refine ⟨3, _, _, _, _, get3, rfl, rfl, ?_, ?_, ?_, ?_⟩)); (kernel_rfl); (simp [Value.cells]); (rfl); (clear st; intro w st))); (try simp only [nsl, Value.cells, unB] at st); (try clear hc); have hc := st.facts; (try simp only [nfl, nft, Nat.reduceAdd] at hc))
      go_ret
      exact ⟨by rw [H.out] <;> rfl, st.ext0⟩
    cases e with
    | false =>
      have H : Hid (v = false) := Lib.hid (by rw [HV.out, HNR.out, if_neg o1]; simp)
      clear HV HNR HRo HA HE0 HI
      (try simp only [nsl, Value.cells, unB] at st)
      (try clear hc); have hc := st.facts; (try simp only [nfl, nft, Nat.reduceAdd] at hc)
      go_wp2_with ((first
            | ((with_reducible refine wl_box ?_ (fun K hK => ?_)); rfl; refine owp_box (o := ⟨some 1, _, _, _, _, _⟩) rfl st ?_; apply Exists.intro; refine ⟨?_, ?_⟩; (focus (go_simp; try rfl)); (clear st; intro b1 w hb st; clear hb))
            | ((with_reducible refine wl_alloc ?_ (fun K hK => ?_)); rfl; refine owp_alloc (o := ⟨some 5, _, _, _, _, _⟩) rfl st ?_; apply Exists.intro; apply Exists.intro; refine ⟨?_, ?_⟩; (focus (first | (go_simp; done) | (go_simp; rfl))); (clear st; intro b5 w hb st; clear hb))
            | ((with_reducible refine wl_store ?_ (fun K hK => ?_)); rfl; refine owp_store rfl st ?_; apply Exists.intro; apply Exists.intro; refine ⟨?_, ?_, ?_⟩; (focus (go_simp; try rfl)); (focus (go_simp; try rfl)); (first | (with_reducible refine ⟨0, _, _, _, _, get0, rfl, rfl, ?_, ?_, ?_, ?_⟩) | (with_reducible refine ⟨1, _, _, _, _, get1, rfl, rfl, ?_, ?_, ?_, ?_⟩) | (with_reducible refine ⟨2, _, _, _, _, get2, rfl, rfl, ?_, ?_, ?_, ?_⟩) | (with_reducible refine ⟨3, _, _, _, _, get3, rfl, rfl, ?_, ?_, ?_, ?_⟩)); (kernel_rfl); (simp [Value.cells]); (rfl); (clear st; intro w st))); (try simp only [nsl, Value.cells, unB] at st); (try clear hc); have hc := st.facts; (try simp only [nfl, nft, Nat.reduceAdd] at hc))
      go_ret
      exact ⟨by rw [H.out] <;> rfl, st.ext0⟩
    | true =>
      by_cases n8 : n ≤ 8
      · have n8i : ¬ (8 : Int) < (n : Int) := by omega
        by_cases o4 : op = 4
        · subst o4
          have b4 : ((4 : Int) == 4) = true := rfl
          by_cases n1 : 1 ≤ n
          · have n1i : ¬ (n : Int) < 1 := by omega
            by_cases k0 : k < 0
            · have H : Hid (v = false) := Lib.hid (by rw [HV.out, HNR.out, if_neg o1, if_neg (by omega), decide_eq_false (show ¬ 0 ≤ k by omega)]; simp)
              clear HV HNR HRo HA HE0 HI
              (try simp only [nsl, Value.cells, unB] at st)
              (try clear hc); have hc := st.facts; (try simp only [nfl, nft, Nat.reduceAdd] at hc)
              go_wp2_with ((first
                    | ((with_reducible refine wl_box ?_ (fun K hK => ?_)); rfl; refine owp_box (o := ⟨some 1, _, _, _, _, _⟩) rfl st ?_; apply Exists.intro; refine ⟨?_, ?_⟩; (focus (go_simp; try rfl)); (clear st; intro b1 w hb st; clear hb))
                    | ((with_reducible refine wl_alloc ?_ (fun K hK => ?_)); rfl; refine owp_alloc (o := ⟨some 5, _, _, _, _, _⟩) rfl st ?_; apply Exists.intro; apply Exists.intro; refine ⟨?_, ?_⟩; (focus (first | (go_simp; done) | (go_simp; rfl))); (clear st; intro b5 w hb st; clear hb))
                    | ((with_reducible refine wl_store ?_ (fun K hK => ?_)); rfl; refine owp_store rfl st ?_; apply Exists.intro; apply Exists.intro; refine ⟨?_, ?_, ?_⟩; (focus (go_simp; try rfl)); (focus (go_simp; try rfl)); (first | (with_reducible refine ⟨0, _, _, _, _, get0, rfl, rfl, ?_, ?_, ?_, ?_⟩) | (with_reducible refine ⟨1, _, _, _, _, get1, rfl, rfl, ?_, ?_, ?_, ?_⟩) | (with_reducible refine ⟨2, _, _, _, _, get2, rfl, rfl, ?_, ?_, ?_, ?_⟩) | (with_reducible refine ⟨3, _, _, _, _, get3, rfl, rfl, ?_, ?_, ?_, ?_⟩)); (kernel_rfl); (simp [Value.cells]); (rfl); (clear st; intro w st))); (try simp only [nsl, Value.cells, unB] at st); (try clear hc); have hc := st.facts; (try simp only [nfl, nft, Nat.reduceAdd] at hc))
              go_ret
              exact ⟨by rw [H.out] <;> rfl, st.ext0⟩
            · by_cases kn : (n : Int) < k
              · have H : Hid (v = false) := Lib.hid (by rw [HV.out, HNR.out, if_neg o1, if_neg (by omega), decide_eq_false (show ¬ k ≤ (n : Int) by omega)]; simp)
                clear HV HNR HRo HA HE0 HI
                (try simp only [nsl, Value.cells, unB] at st)
                (try clear hc); have hc := st.facts; (try simp only [nfl, nft, Nat.reduceAdd] at hc)
                go_wp2_with ((first
                      | ((with_reducible refine wl_box ?_ (fun K hK => ?_)); rfl; refine owp_box (o := ⟨some 1, _, _, _, _, _⟩) rfl st ?_; apply Exists.intro; refine ⟨?_, ?_⟩; (focus (go_simp; try rfl)); (clear st; intro b1 w hb st; clear hb))
                      | ((with_reducible refine wl_alloc ?_ (fun K hK => ?_)); rfl; refine owp_alloc (o := ⟨some 5, _, _, _, _, _⟩) rfl st ?_; apply Exists.intro; apply Exists.intro; refine ⟨?_, ?_⟩; (focus (first | (go_simp; done) | (go_simp; rfl))); (clear st; intro b5 w hb st; clear hb))
                      | ((with_reducible refine wl_store ?_ (fun K hK => ?_)); rfl; refine owp_store rfl st ?_; apply Exists.intro; apply Exists.intro; refine ⟨?_, ?_, ?_⟩; (focus (go_simp; try rfl)); (focus (go_simp; try rfl)); (first | (with_reducible refine ⟨0, _, _, _, _, get0, rfl, rfl, ?_, ?_, ?_, ?_⟩) | (with_reducible refine ⟨1, _, _, _, _, get1, rfl, rfl, ?_, ?_, ?_, ?_⟩) | (with_reducible refine ⟨2, _, _, _, _, get2, rfl, rfl, ?_, ?_, ?_, ?_⟩) | (with_reducible refine ⟨3, _, _, _, _, get3, rfl, rfl, ?_, ?_, ?_, ?_⟩)); (kernel_rfl); (simp [Value.cells]); (rfl); (clear st; intro w st))); (try simp only [nsl, Value.cells, unB] at st); (try clear hc); have hc := st.facts; (try simp only [nfl, nft, Nat.reduceAdd] at hc))
                go_ret
                exact ⟨by rw [H.out] <;> rfl, st.ext0⟩
              · have HW : Hid (v = wv) := Lib.hid (by rw [HV.out, HNR.out, if_neg o1, if_neg (by omega), decide_eq_true (show 0 ≤ k by omega), decide_eq_true (show k ≤ (n : Int) by omega), decide_eq_true n1, decide_eq_true n8]; simp)
                clear HV HNR HRo HE0
                (try simp only [nsl, Value.cells, unB] at st)
                (try clear hc); have hc := st.facts; (try simp only [nfl, nft, Nat.reduceAdd] at hc)
                go_wp2_with ((first
                      | ((with_reducible refine wl_box ?_ (fun K hK => ?_)); rfl; refine owp_box (o := ⟨some 1, _, _, _, _, _⟩) rfl st ?_; apply Exists.intro; refine ⟨?_, ?_⟩; (focus (go_simp; try rfl)); (clear st; intro b1 w hb st; clear hb))
                      | ((with_reducible refine wl_alloc ?_ (fun K hK => ?_)); rfl; refine owp_alloc (o := ⟨some 5, _, _, _, _, _⟩) rfl st ?_; apply Exists.intro; apply Exists.intro; refine ⟨?_, ?_⟩; (focus (first | (go_simp; done) | (go_simp; rfl))); (clear st; intro b5 w hb st; clear hb))
                      | ((with_reducible refine wl_store ?_ (fun K hK => ?_)); rfl; refine owp_store rfl st ?_; apply Exists.intro; apply Exists.intro; refine ⟨?_, ?_, ?_⟩; (focus (go_simp; try rfl)); (focus (go_simp; try rfl)); (first | (with_reducible refine ⟨0, _, _, _, _, get0, rfl, rfl, ?_, ?_, ?_, ?_⟩) | (with_reducible refine ⟨1, _, _, _, _, get1, rfl, rfl, ?_, ?_, ?_, ?_⟩) | (with_reducible refine ⟨2, _, _, _, _, get2, rfl, rfl, ?_, ?_, ?_, ?_⟩) | (with_reducible refine ⟨3, _, _, _, _, get3, rfl, rfl, ?_, ?_, ?_, ?_⟩)); (kernel_rfl); (simp [Value.cells]); (rfl); (clear st; intro w st))); (try simp only [nsl, Value.cells, unB] at st); (try clear hc); have hc := st.facts; (try simp only [nfl, nft, Nat.reduceAdd] at hc))
                go_loopg [73] n (fun q i wr => ∃ (j : Nat), j ≤ n ∧ q = n - j ∧ i = .int .i64 (j : Int) ∧ Hid (((kids.take j).all fun x => x.strip.well) = true) ∧ Own (fun _ => False) (fun _ => True) W [oldI W, blkI b1 [.int .i64 4, .int .i64 k, .string ⟨o.toArray⟩, .string ⟨d.toArray⟩, .slice a n c]] wr)
                case atStart => exact ⟨0, by omega, by omega, rfl, Lib.hid (by simp), st⟩
                case round =>
                  obtain ⟨j, hj, rfl, rfl, HG, st'⟩ := hrel
                  clear st hc
                  have st := st'
                  clear st'
                  by_cases hjn : j < n
                  · obtain ⟨b, off, ha, hcell⟩ := (st.oldFl (i := 0) get0 HOK.out.fl).fm (by omega)
                    have hjl : j < kids.length := by have := HN.out; omega
                    have HT : Hid (kids.take (j + 1) = kids.take j ++ [kids[j]]) := Lib.hid (List.take_append_getElem hjl).symm
                    have hok := HOK.out.kids _ (List.getElem_mem hjl)
                    have hih := HI.out _ (List.getElem_mem hjl)
                    have hgt := List.getElem?_eq_getElem hjl
                    have HM : Hid (kids[j] ∈ kids) := Lib.hid (List.getElem_mem hjl)
                    generalize kids[j] = x at *
                    obtain ⟨m, hm⟩ : ∃ v, x.strip.well = v := ⟨_, rfl⟩
                    have HC := Lib.hid (fun W' (hx : Ext W W') => hih W' (hok.ext hx))
                    rw [hm] at HC
                    have HX : Hid (x.strip.well = m) := Lib.hid hm
                    clear hih hjl hok hm
                    obtain ⟨xx, hxx⟩ : ∃ y, x = y := ⟨_, rfl⟩
                    rw [hxx] at HT HX HM
                    obtain ⟨op', k', ⟨o', d'⟩, a', n', c', kids'⟩ := x
                    obtain ⟨r0, r1, r2, r3, r4⟩ := hcell j op' k' (o', d') a' n' c' kids' hgt
                    unfold fmV S at HC
                    simp only at HC
                    clear hcell hgt hxx
                    subst ha
                    unfold S at r2 r3
                    simp only at r2 r3
                    (try simp only [nsl, Value.cells, unB] at st)
                    (try clear hc); have hc := st.facts; (try simp only [nfl, nft, Nat.reduceAdd] at hc)
                    go_wp2_with ((first
                          | ((with_reducible refine wl_box ?_ (fun K hK => ?_)); rfl; refine owp_box (o := ⟨some 1, _, _, _, _, _⟩) rfl st ?_; apply Exists.intro; refine ⟨?_, ?_⟩; (focus (go_simp; try rfl)); (clear st; intro b1 w hb st; clear hb))
                          | ((with_reducible refine wl_alloc ?_ (fun K hK => ?_)); rfl; refine owp_alloc (o := ⟨some 5, _, _, _, _, _⟩) rfl st ?_; apply Exists.intro; apply Exists.intro; refine ⟨?_, ?_⟩; (focus (first | (go_simp; done) | (go_simp; rfl))); (clear st; intro b5 w hb st; clear hb))
                          | ((with_reducible refine wl_store ?_ (fun K hK => ?_)); rfl; refine owp_store rfl st ?_; apply Exists.intro; apply Exists.intro; refine ⟨?_, ?_, ?_⟩; (focus (go_simp; try rfl)); (focus (go_simp; try rfl)); (first | (with_reducible refine ⟨0, _, _, _, _, get0, rfl, rfl, ?_, ?_, ?_, ?_⟩) | (with_reducible refine ⟨1, _, _, _, _, get1, rfl, rfl, ?_, ?_, ?_, ?_⟩) | (with_reducible refine ⟨2, _, _, _, _, get2, rfl, rfl, ?_, ?_, ?_, ?_⟩) | (with_reducible refine ⟨3, _, _, _, _, get3, rfl, rfl, ?_, ?_, ?_, ?_⟩)); (kernel_rfl); (simp [Value.cells]); (rfl); (clear st; intro w st))); (try simp only [nsl, Value.cells, unB] at st); (try clear hc); have hc := st.facts; (try simp only [nfl, nft, Nat.reduceAdd] at hc))
                    clear r0 r1 r2 r3 r4
                    refine (HC.out _ st.ext0).mono ?_
                    rintro en w ⟨rfl, hx⟩
                    replace st := st.ext hx
                    clear hx
                    cases m with
                    | false =>
                      have H : Hid (v = false) := Lib.hid (by
                        rw [HW.out, HA.out, Bool.eq_false_iff]
                        intro q
                        have := List.all_eq_true.1 q xx HM.out
                        rw [HX.out] at this
                        cases this)
                      (try simp only [nsl, Value.cells, unB] at st)
                      (try clear hc); have hc := st.facts; (try simp only [nfl, nft, Nat.reduceAdd] at hc)
                      go_wp2_with fail
                      go_ret
                      exact ⟨by rw [H.out] <;> rfl, st.ext0⟩
                    | true =>
                      have HG2 : Hid (((kids.take (j + 1)).all fun x => x.strip.well) = true) := Lib.hid (by rw [HT.out, List.all_append, HG.out]; simp [HX.out])
                      (try simp only [nsl, Value.cells, unB] at st)
                      (try clear hc); have hc := st.facts; (try simp only [nfl, nft, Nat.reduceAdd] at hc)
                      go_wp2_with fail
                      have st' := st.keep [0, 1] (by decide) (by simp)
                      go_roundg (n - (j + 1))
                      case measure => omega
                      case rel => exact ⟨j + 1, by omega, rfl, by go_num, HG2, by simpa [pick] using st'⟩
                  · obtain rfl : n = j := by omega
                    have H : Hid (v = true) := Lib.hid (by rw [HW.out, HA.out, ← HG.out, List.take_of_length_le (by have := HN.out; omega)])
                    (try simp only [nsl, Value.cells, unB] at st)
                    (try clear hc); have hc := st.facts; (try simp only [nfl, nft, Nat.reduceAdd] at hc)
                    go_wp2_with fail
                    go_ret
                    exact ⟨by rw [H.out] <;> rfl, st.ext0⟩
          · have n1i : (n : Int) < 1 := by omega
            have H : Hid (v = false) := Lib.hid (by rw [HV.out, HNR.out, if_neg o1, if_neg (by omega), decide_eq_false n1]; simp)
            clear HV HNR HRo HA HE0 HI n1
            (try simp only [nsl, Value.cells, unB] at st)
            (try clear hc); have hc := st.facts; (try simp only [nfl, nft, Nat.reduceAdd] at hc)
            go_wp2_with ((first
                  | ((with_reducible refine wl_box ?_ (fun K hK => ?_)); rfl; refine owp_box (o := ⟨some 1, _, _, _, _, _⟩) rfl st ?_; apply Exists.intro; refine ⟨?_, ?_⟩; (focus (go_simp; try rfl)); (clear st; intro b1 w hb st; clear hb))
                  | ((with_reducible refine wl_alloc ?_ (fun K hK => ?_)); rfl; refine owp_alloc (o := ⟨some 5, _, _, _, _, _⟩) rfl st ?_; apply Exists.intro; apply Exists.intro; refine ⟨?_, ?_⟩; (focus (first | (go_simp; done) | (go_simp; rfl))); (clear st; intro b5 w hb st; clear hb))
                  | ((with_reducible refine wl_store ?_ (fun K hK => ?_)); rfl; refine owp_store rfl st ?_; apply Exists.intro; apply Exists.intro; refine ⟨?_, ?_, ?_⟩; (focus (go_simp; try rfl)); (focus (go_simp; try rfl)); (first | (with_reducible refine ⟨0, _, _, _, _, get0, rfl, rfl, ?_, ?_, ?_, ?_⟩) | (with_reducible refine ⟨1, _, _, _, _, get1, rfl, rfl, ?_, ?_, ?_, ?_⟩) | (with_reducible refine ⟨2, _, _, _, _, get2, rfl, rfl, ?_, ?_, ?_, ?_⟩) | (with_reducible refine ⟨3, _, _, _, _, get3, rfl, rfl, ?_, ?_, ?_, ?_⟩)); (kernel_rfl); (simp [Value.cells]); (rfl); (clear st; intro w st))); (try simp only [nsl, Value.cells, unB] at st); (try clear hc); have hc := st.facts; (try simp only [nfl, nft, Nat.reduceAdd] at hc))
            go_ret
            exact ⟨by rw [H.out] <;> rfl, st.ext0⟩
        · have b4 : (op == 4) = false := by simpa using o4
          have o4i : op < 4 := by omega
          have o23 : op = 2 ∨ op = 3 := by omega
          by_cases k0 : k = 0
          · have HW : Hid (v = wv) := Lib.hid (by rw [HV.out, HNR.out, if_neg o1, if_pos o23, decide_eq_true k0, decide_eq_true n8]; simp)
            clear HV HNR HRo HE0 o23 o4
            subst k0
            (try simp only [nsl, Value.cells, unB] at st)
            (try clear hc); have hc := st.facts; (try simp only [nfl, nft, Nat.reduceAdd] at hc)
            go_wp2_with ((first
                  | ((with_reducible refine wl_box ?_ (fun K hK => ?_)); rfl; refine owp_box (o := ⟨some 1, _, _, _, _, _⟩) rfl st ?_; apply Exists.intro; refine ⟨?_, ?_⟩; (focus (go_simp; try rfl)); (clear st; intro b1 w hb st; clear hb))
                  | ((with_reducible refine wl_alloc ?_ (fun K hK => ?_)); rfl; refine owp_alloc (o := ⟨some 5, _, _, _, _, _⟩) rfl st ?_; apply Exists.intro; apply Exists.intro; refine ⟨?_, ?_⟩; (focus (first | (go_simp; done) | (go_simp; rfl))); (clear st; intro b5 w hb st; clear hb))
                  | ((with_reducible refine wl_store ?_ (fun K hK => ?_)); rfl; refine owp_store rfl st ?_; apply Exists.intro; apply Exists.intro; refine ⟨?_, ?_, ?_⟩; (focus (go_simp; try rfl)); (focus (go_simp; try rfl)); (first | (with_reducible refine ⟨0, _, _, _, _, get0, rfl, rfl, ?_, ?_, ?_, ?_⟩) | (with_reducible refine ⟨1, _, _, _, _, get1, rfl, rfl, ?_, ?_, ?_, ?_⟩) | (with_reducible refine ⟨2, _, _, _, _, get2, rfl, rfl, ?_, ?_, ?_, ?_⟩) | (with_reducible refine ⟨3, _, _, _, _, get3, rfl, rfl, ?_, ?_, ?_, ?_⟩)); (kernel_rfl); (simp [Value.cells]); (rfl); (clear st; intro w st))); (try simp only [nsl, Value.cells, unB] at st); (try clear hc); have hc := st.facts; (try simp only [nfl, nft, Nat.reduceAdd] at hc))
            go_loopg [73] n (fun q i wr => ∃ (j : Nat), j ≤ n ∧ q = n - j ∧ i = .int .i64 (j : Int) ∧ Hid (((kids.take j).all fun x => x.strip.well) = true) ∧ Own (fun _ => False) (fun _ => True) W [oldI W, blkI b1 [.int .i64 op, .int .i64 0, .string ⟨o.toArray⟩, .string ⟨d.toArray⟩, .slice a n c]] wr)
            case atStart => exact ⟨0, by omega, by omega, rfl, Lib.hid (by simp), st⟩
            case round =>
              obtain ⟨j, hj, rfl, rfl, HG, st'⟩ := hrel
              clear st hc
              have st := st'
              clear st'
              by_cases hjn : j < n
              · obtain ⟨b, off, ha, hcell⟩ := (st.oldFl (i := 0) get0 HOK.out.fl).fm (by omega)
                have hjl : j < kids.length := by have := HN.out; omega
                have HT : Hid (kids.take (j + 1) = kids.take j ++ [kids[j]]) := Lib.hid (List.take_append_getElem hjl).symm
                have hok := HOK.out.kids _ (List.getElem_mem hjl)
                have hih := HI.out _ (List.getElem_mem hjl)
                have hgt := List.getElem?_eq_getElem hjl
                have HM : Hid (kids[j] ∈ kids) := Lib.hid (List.getElem_mem hjl)
                generalize kids[j] = x at *
                obtain ⟨m, hm⟩ : ∃ v, x.strip.well = v := ⟨_, rfl⟩
                have HC := Lib.hid (fun W' (hx : Ext W W') => hih W' (hok.ext hx))
                rw [hm] at HC
                have HX : Hid (x.strip.well = m) := Lib.hid hm
                clear hih hjl hok hm
                obtain ⟨xx, hxx⟩ : ∃ y, x = y := ⟨_, rfl⟩
                rw [hxx] at HT HX HM
                obtain ⟨op', k', ⟨o', d'⟩, a', n', c', kids'⟩ := x
                obtain ⟨r0, r1, r2, r3, r4⟩ := hcell j op' k' (o', d') a' n' c' kids' hgt
                unfold fmV S at HC
                simp only at HC
                clear hcell hgt hxx
                subst ha
                unfold S at r2 r3
                simp only at r2 r3
                (try simp only [nsl, Value.cells, unB] at st)
                (try clear hc); have hc := st.facts; (try simp only [nfl, nft, Nat.reduceAdd] at hc)
                go_wp2_with ((first
                      | ((with_reducible refine wl_box ?_ (fun K hK => ?_)); rfl; refine owp_box (o := ⟨some 1, _, _, _, _, _⟩) rfl st ?_; apply Exists.intro; refine ⟨?_, ?_⟩; (focus (go_simp; try rfl)); (clear st; intro b1 w hb st; clear hb))
                      | ((with_reducible refine wl_alloc ?_ (fun K hK => ?_)); rfl; refine owp_alloc (o := ⟨some 5, _, _, _, _, _⟩) rfl st ?_; apply Exists.intro; apply Exists.intro; refine ⟨?_, ?_⟩; (focus (first | (go_simp; done) | (go_simp; rfl))); (clear st; intro b5 w hb st; clear hb))
                      | ((with_reducible refine wl_store ?_ (fun K hK => ?_)); rfl; refine owp_store rfl st ?_; apply Exists.intro; apply Exists.intro; refine ⟨?_, ?_, ?_⟩; (focus (go_simp; try rfl)); (focus (go_simp; try rfl)); (first | (with_reducible refine ⟨0, _, _, _, _, get0, rfl, rfl, ?_, ?_, ?_, ?_⟩) | (with_reducible refine ⟨1, _, _, _, _, get1, rfl, rfl, ?_, ?_, ?_, ?_⟩) | (with_reducible refine ⟨2, _, _, _, _, get2, rfl, rfl, ?_, ?_, ?_, ?_⟩) | (with_reducible refine ⟨3, _, _, _, _, get3, rfl, rfl, ?_, ?_, ?_, ?_⟩)); (kernel_rfl); (simp [Value.cells]); (rfl); (clear st; intro w st))); (try simp only [nsl, Value.cells, unB] at st); (try clear hc); have hc := st.facts; (try simp only [nfl, nft, Nat.reduceAdd] at hc))
                clear r0 r1 r2 r3 r4
                refine (HC.out _ st.ext0).mono ?_
                rintro en w ⟨rfl, hx⟩
                replace st := st.ext hx
                clear hx
                cases m with
                | false =>
                  have H : Hid (v = false) := Lib.hid (by
                    rw [HW.out, HA.out, Bool.eq_false_iff]
                    intro q
                    have := List.all_eq_true.1 q xx HM.out
                    rw [HX.out] at this
                    cases this)
                  (try simp only [nsl, Value.cells, unB] at st)
                  (try clear hc); have hc := st.facts; (try simp only [nfl, nft, Nat.reduceAdd] at hc)
                  go_wp2_with fail
                  go_ret
                  exact ⟨by rw [H.out] <;> rfl, st.ext0⟩
                | true =>
                  have HG2 : Hid (((kids.take (j + 1)).all fun x => x.strip.well) = true) := Lib.hid (by rw [HT.out, List.all_append, HG.out]; simp [HX.out])
                  (try simp only [nsl, Value.cells, unB] at st)
                  (try clear hc); have hc := st.facts; (try simp only [nfl, nft, Nat.reduceAdd] at hc)
                  go_wp2_with fail
                  have st' := st.keep [0, 1] (by decide) (by simp)
                  go_roundg (n - (j + 1))
                  case measure => omega
                  case rel => exact ⟨j + 1, by omega, rfl, by go_num, HG2, by simpa [pick] using st'⟩
              · obtain rfl : n = j := by omega
                have H : Hid (v = true) := Lib.hid (by rw [HW.out, HA.out, ← HG.out, List.take_of_length_le (by have := HN.out; omega)])
                (try simp only [nsl, Value.cells, unB] at st)
                (try clear hc); have hc := st.facts; (try simp only [nfl, nft, Nat.reduceAdd] at hc)
                go_wp2_with fail
                go_ret
                exact ⟨by rw [H.out] <;> rfl, st.ext0⟩
          · have H : Hid (v = false) := Lib.hid (by rw [HV.out, HNR.out, if_neg o1, if_pos o23]; simp [k0])
            clear HV HNR HRo HA HE0 HI o23 o4
            (try simp only [nsl, Value.cells, unB] at st)
            (try clear hc); have hc := st.facts; (try simp only [nfl, nft, Nat.reduceAdd] at hc)
            go_wp2_with ((first
                  | ((with_reducible refine wl_box ?_ (fun K hK => ?_)); rfl; refine owp_box (o := ⟨some 1, _, _, _, _, _⟩) rfl st ?_; apply Exists.intro; refine ⟨?_, ?_⟩; (focus (go_simp; try rfl)); (clear st; intro b1 w hb st; clear hb))
                  | ((with_reducible refine wl_alloc ?_ (fun K hK => ?_)); rfl; refine owp_alloc (o := ⟨some 5, _, _, _, _, _⟩) rfl st ?_; apply Exists.intro; apply Exists.intro; refine ⟨?_, ?_⟩; (focus (first | (go_simp; done) | (go_simp; rfl))); (clear st; intro b5 w hb st; clear hb))
                  | ((with_reducible refine wl_store ?_ (fun K hK => ?_)); rfl; refine owp_store rfl st ?_; apply Exists.intro; apply Exists.intro; refine ⟨?_, ?_, ?_⟩; (focus (go_simp; try rfl)); (focus (go_simp; try rfl)); (first | (with_reducible refine ⟨0, _, _, _, _, get0, rfl, rfl, ?_, ?_, ?_, ?_⟩) | (with_reducible refine ⟨1, _, _, _, _, get1, rfl, rfl, ?_, ?_, ?_, ?_⟩) | (with_reducible refine ⟨2, _, _, _, _, get2, rfl, rfl, ?_, ?_, ?_, ?_⟩) | (with_reducible refine ⟨3, _, _, _, _, get3, rfl, rfl, ?_, ?_, ?_, ?_⟩)); (kernel_rfl); (simp [Value.cells]); (rfl); (clear st; intro w st))); (try simp only [nsl, Value.cells, unB] at st); (try clear hc); have hc := st.facts; (try simp only [nfl, nft, Nat.reduceAdd] at hc))
            go_ret
            exact ⟨by rw [H.out] <;> rfl, st.ext0⟩
      · have n8i : (8 : Int) < (n : Int) := by omega
        have H : Hid (v = false) := Lib.hid (by rw [HV.out, decide_eq_false n8]; simp)
        clear HV HNR HRo HA HE0 HI n8
        (try simp only [nsl, Value.cells, unB] at st)
        (try clear hc); have hc := st.facts; (try simp only [nfl, nft, Nat.reduceAdd] at hc)
        go_wp2_with ((first
              | ((with_reducible refine wl_box ?_ (fun K hK => ?_)); rfl; refine owp_box (o := ⟨some 1, _, _, _, _, _⟩) rfl st ?_; apply Exists.intro; refine ⟨?_, ?_⟩; (focus (go_simp; try rfl)); (clear st; intro b1 w hb st; clear hb))
              | ((with_reducible refine wl_alloc ?_ (fun K hK => ?_)); rfl; refine owp_alloc (o := ⟨some 5, _, _, _, _, _⟩) rfl st ?_; apply Exists.intro; apply Exists.intro; refine ⟨?_, ?_⟩; (focus (first | (go_simp; done) | (go_simp; rfl))); (clear st; intro b5 w hb st; clear hb))
              | ((with_reducible refine wl_store ?_ (fun K hK => ?_)); rfl; refine owp_store rfl st ?_; apply Exists.intro; apply Exists.intro; refine ⟨?_, ?_, ?_⟩; (focus (go_simp; try rfl)); (focus (go_simp; try rfl)); (first | (with_reducible refine ⟨0, _, _, _, _, get0, rfl, rfl, ?_, ?_, ?_, ?_⟩) | (with_reducible refine ⟨1, _, _, _, _, get1, rfl, rfl, ?_, ?_, ?_, ?_⟩) | (with_reducible refine ⟨2, _, _, _, _, get2, rfl, rfl, ?_, ?_, ?_, ?_⟩) | (with_reducible refine ⟨3, _, _, _, _, get3, rfl, rfl, ?_, ?_, ?_, ?_⟩)); (kernel_rfl); (simp [Value.cells]); (rfl); (clear st; intro w st))); (try simp only [nsl, Value.cells, unB] at st); (try clear hc); have hc := st.facts; (try simp only [nfl, nft, Nat.reduceAdd] at hc))
        go_ret
        exact ⟨by rw [H.out] <;> rfl, st.ext0⟩
set_option maxRecDepth 100000 in
set_option maxHeartbeats 2000000 in
theorem refRight11_any (f : Fm) (W : World) (h : FmOk W f) (hs : f.strip.nodes ≤ 1000000000) (hl : FoL 100000 f.strip) :
    Calls Tryz.prog 6 #[fmV f] W fun e w' => e = .returned (.bool (foR f.strip)) ∧ Ext W w' := by
  have HN := Lib.hid (fun W' (hx : Ext W W') => refNodes_any f W' (h.ext hx) hs)
  have HD := Lib.hid (fun W' (hx : Ext W W') => refDeep_any f W' (h.ext hx) hs)
  have HW := Lib.hid (fun W' (hx : Ext W W') => refWell_any f W' (h.ext hx) hl)
  have HV : Hid (foR f.strip = (decide (f.strip.nodes ≤ 64) && decide (f.strip.deep ≤ 6) && f.strip.well)) := Lib.hid rfl
  obtain ⟨op, k, ⟨o, d⟩, a, n, c, kids⟩ := f
  generalize foR (Fm.mk op k (o, d) a n c kids).strip = v at *
  generalize (Fm.mk op k (o, d) a n c kids).strip.nodes = N1 at *
  generalize (Fm.mk op k (o, d) a n c kids).strip.deep = D1 at *
  generalize (Fm.mk op k (o, d) a n c kids).strip.well = wv at *
  clear h hs hl
  have st := Own.startOld W
  unfold fmV S at HN HD HW ⊢
  simp only at HN HD HW ⊢
  (try simp only [nsl, Value.cells, unB] at st)
  (try clear hc); have hc := st.facts; (try simp only [nfl, nft, Nat.reduceAdd] at hc)
  go_enter Tryz.func6, Tryz.ntmps6
  go_wp2_with ((((with_reducible refine wl_box ?_ (fun K hK => ?_)); rfl; refine owp_box (o := ⟨some 1, _, _, _, _, _⟩) rfl st ?_; apply Exists.intro; refine ⟨?_, ?_⟩; (focus (go_simp; try rfl)); (clear st; intro b1 w hb st; clear hb))); (try simp only [nsl, Value.cells, unB] at st); (try clear hc); have hc := st.facts; (try simp only [nfl, nft, Nat.reduceAdd] at hc))
  refine (HN.out _ st.ext0).mono ?_
  rintro en w ⟨rfl, hx⟩
  replace st := st.ext hx
  clear hx
  by_cases h1 : N1 ≤ 64
  · have h1i : (N1 : Int) ≤ 64 := by omega
    (try simp only [nsl, Value.cells, unB] at st)
    (try clear hc); have hc := st.facts; (try simp only [nfl, nft, Nat.reduceAdd] at hc)
    go_wp2_with ((((with_reducible refine wl_box ?_ (fun K hK => ?_)); rfl; refine owp_box (o := ⟨some 1, _, _, _, _, _⟩) rfl st ?_; apply Exists.intro; refine ⟨?_, ?_⟩; (focus (go_simp; try rfl)); (clear st; intro b1 w hb st; clear hb))); (try simp only [nsl, Value.cells, unB] at st); (try clear hc); have hc := st.facts; (try simp only [nfl, nft, Nat.reduceAdd] at hc))
    refine (HD.out _ st.ext0).mono ?_
    rintro en w ⟨rfl, hx⟩
    replace st := st.ext hx
    clear hx
    by_cases h2 : D1 ≤ 6
    · have h2i : (D1 : Int) ≤ 6 := by omega
      have H : Hid (v = wv) := Lib.hid (by rw [HV.out]; simp [h1, h2])
      (try simp only [nsl, Value.cells, unB] at st)
      (try clear hc); have hc := st.facts; (try simp only [nfl, nft, Nat.reduceAdd] at hc)
      go_wp2_with ((((with_reducible refine wl_box ?_ (fun K hK => ?_)); rfl; refine owp_box (o := ⟨some 1, _, _, _, _, _⟩) rfl st ?_; apply Exists.intro; refine ⟨?_, ?_⟩; (focus (go_simp; try rfl)); (clear st; intro b1 w hb st; clear hb))); (try simp only [nsl, Value.cells, unB] at st); (try clear hc); have hc := st.facts; (try simp only [nfl, nft, Nat.reduceAdd] at hc))
      refine (HW.out _ st.ext0).mono ?_
      rintro en w ⟨rfl, hx⟩
      replace st := st.ext hx
      clear hx
      (try simp only [nsl, Value.cells, unB] at st)
      (try clear hc); have hc := st.facts; (try simp only [nfl, nft, Nat.reduceAdd] at hc)
      go_wp2_with ((((with_reducible refine wl_box ?_ (fun K hK => ?_)); rfl; refine owp_box (o := ⟨some 1, _, _, _, _, _⟩) rfl st ?_; apply Exists.intro; refine ⟨?_, ?_⟩; (focus (go_simp; try rfl)); (clear st; intro b1 w hb st; clear hb))); (try simp only [nsl, Value.cells, unB] at st); (try clear hc); have hc := st.facts; (try simp only [nfl, nft, Nat.reduceAdd] at hc))
      go_ret
      exact ⟨by rw [H.out] <;> rfl, st.ext0⟩
    · have h2i : ¬ (D1 : Int) ≤ 6 := by omega
      have H : Hid (v = false) := Lib.hid (by rw [HV.out]; simp [h2])
      clear h2
      (try simp only [nsl, Value.cells, unB] at st)
      (try clear hc); have hc := st.facts; (try simp only [nfl, nft, Nat.reduceAdd] at hc)
      go_wp2_with ((((with_reducible refine wl_box ?_ (fun K hK => ?_)); rfl; refine owp_box (o := ⟨some 1, _, _, _, _, _⟩) rfl st ?_; apply Exists.intro; refine ⟨?_, ?_⟩; (focus (go_simp; try rfl)); (clear st; intro b1 w hb st; clear hb))); (try simp only [nsl, Value.cells, unB] at st); (try clear hc); have hc := st.facts; (try simp only [nfl, nft, Nat.reduceAdd] at hc))
      go_ret
      exact ⟨by rw [H.out] <;> rfl, st.ext0⟩
  · have h1i : ¬ (N1 : Int) ≤ 64 := by omega
    have H : Hid (v = false) := Lib.hid (by rw [HV.out]; simp [h1])
    clear h1
    (try simp only [nsl, Value.cells, unB] at st)
    (try clear hc); have hc := st.facts; (try simp only [nfl, nft, Nat.reduceAdd] at hc)
    go_wp2_with ((((with_reducible refine wl_box ?_ (fun K hK => ?_)); rfl; refine owp_box (o := ⟨some 1, _, _, _, _, _⟩) rfl st ?_; apply Exists.intro; refine ⟨?_, ?_⟩; (focus (go_simp; try rfl)); (clear st; intro b1 w hb st; clear hb))); (try simp only [nsl, Value.cells, unB] at st); (try clear hc); have hc := st.facts; (try simp only [nfl, nft, Nat.reduceAdd] at hc))
    go_ret
    exact ⟨by rw [H.out] <;> rfl, st.ext0⟩
end Go.Proofs.YtnhilgciddcahaaGreatDoor

namespace Go.Proofs.YtnhilgciddcahaaGreatDoor
set_option linter.unusedSimpArgs false
set_option linter.unusedVariables false
open Go Go.RowKit
/-- With another byte behind the words the parser never comes to their end. -/
def NeP (one : List Tok → PRes) : Prop := ∀ t x t', one t = some (x, t') → t' ≠ []
theorem stT_ne {t t' : List Tok} (h : stT true t = some t') : t' ≠ [] := by
  unfold stT at h
  split at h
  · cases h
  · rename_i q
    injection h with h
    rintro rfl
    exact q ⟨rfl, h⟩
theorem takeP_ne {t t' : List Tok} {w : Tok} (h : takeP true w t = some t') : t' ≠ [] := by
  unfold takeP at h
  split at h
  · exact stT_ne h
  · cases h
theorem moreP_ne {w : Tok} {one : List Tok → PRes} (ho : NeP one) : ∀ (g : Nat) (l : List Fo) (t : List Tok) (l' : List Fo) (t' : List Tok), t ≠ [] → moreP true w one g l t = some (l', t') → t' ≠ [] := by
  intro g
  induction g with
  | zero => intro l t l' t' ht h; simp only [moreP, Option.some.injEq, Prod.mk.injEq] at h; rw [← h.2]; exact ht
  | succ g ih =>
    intro l t l' t' ht h
    rw [moreP] at h
    split at h
    · rw [Option.bind_eq_some_iff] at h
      obtain ⟨t1, h1, h2⟩ := h
      rw [Option.bind_eq_some_iff] at h2
      obtain ⟨⟨x, t2⟩, h3, h4⟩ := h2
      exact ih _ _ _ _ (ho _ _ _ h3) h4
    · simp only [Option.some.injEq, Prod.mk.injEq] at h; rw [← h.2]; exact ht
theorem joinP_ne {w : Tok} {op : Int} {one : List Tok → PRes} (ho : NeP one) : NeP (joinP true w op one) := by
  intro t x t' h
  unfold joinP at h
  rw [Option.bind_eq_some_iff] at h
  obtain ⟨⟨y, t1⟩, h1, h2⟩ := h
  rw [Option.map_eq_some_iff] at h2
  obtain ⟨⟨l, t2⟩, h3, h4⟩ := h2
  simp only [Prod.mk.injEq] at h4
  rw [← h4.2]
  exact moreP_ne ho _ _ _ _ _ (ho _ _ _ h1) h3
theorem anyP_ne {one : List Tok → PRes} (ho : NeP one) : NeP (anyP true one) := joinP_ne (joinP_ne ho)
theorem listP_ne {one : List Tok → PRes} {t t' : List Tok} {l : List Fo} (h : listP true one t = some (l, t')) : t' ≠ [] := by
  unfold listP at h
  rw [Option.bind_eq_some_iff] at h
  obtain ⟨t1, h1, h2⟩ := h
  split at h2
  · rw [Option.map_eq_some_iff] at h2
    obtain ⟨t2, h3, h4⟩ := h2
    simp only [Prod.mk.injEq] at h4
    rw [← h4.2]; exact stT_ne h3
  · rw [Option.bind_eq_some_iff] at h2
    obtain ⟨p, h3, h4⟩ := h2
    rw [Option.bind_eq_some_iff] at h4
    obtain ⟨q, h5, h6⟩ := h4
    rw [Option.map_eq_some_iff] at h6
    obtain ⟨t4, h7, h8⟩ := h6
    simp only [Prod.mk.injEq] at h8
    rw [← h8.2]; exact takeP_ne h7
theorem oneB_ne {one : List Tok → PRes} : NeP (oneB true one) := by
  intro t x t' h
  unfold oneB at h
  split at h
  · rw [Option.bind_eq_some_iff] at h
    obtain ⟨t1, h1, h2⟩ := h
    rw [Option.bind_eq_some_iff] at h2
    obtain ⟨p, h3, h4⟩ := h2
    rw [Option.map_eq_some_iff] at h4
    obtain ⟨t3, h5, h6⟩ := h4
    simp only [Prod.mk.injEq] at h6
    rw [← h6.2]; exact takeP_ne h5
  · split at h
    · rw [Option.bind_eq_some_iff] at h
      obtain ⟨t1, h1, h2⟩ := h
      rw [Option.map_eq_some_iff] at h2
      obtain ⟨⟨l, t2⟩, h3, h4⟩ := h2
      simp only [Prod.mk.injEq] at h4
      rw [← h4.2]; exact listP_ne h3
    · split at h
      · rw [Option.bind_eq_some_iff] at h
        obtain ⟨t1, h1, h2⟩ := h
        rw [Option.map_eq_some_iff] at h2
        obtain ⟨⟨l, t2⟩, h3, h4⟩ := h2
        simp only [Prod.mk.injEq] at h4
        rw [← h4.2]; exact listP_ne h3
      · split at h
        · rw [Option.bind_eq_some_iff] at h
          obtain ⟨t1, h1, h2⟩ := h
          rw [Option.bind_eq_some_iff] at h2
          obtain ⟨k, _, h3⟩ := h2
          rw [Option.bind_eq_some_iff] at h3
          obtain ⟨t2, h4, h5⟩ := h3
          rw [Option.map_eq_some_iff] at h5
          obtain ⟨⟨l, t3⟩, h6, h7⟩ := h5
          simp only [Prod.mk.injEq] at h7
          rw [← h7.2]; exact listP_ne h6
        · rw [Option.bind_eq_some_iff] at h
          obtain ⟨r, hr, h2⟩ := h
          rw [Option.map_eq_some_iff] at h2
          obtain ⟨t1, h3, h4⟩ := h2
          simp only [Prod.mk.injEq] at h4
          rw [← h4.2]; exact stT_ne h3
theorem oneP_ne : ∀ f, NeP (oneP true f)
  | 0 => fun t x t' h => by cases h
  | f + 1 => oneB_ne
theorem lx_tok {b : Bool} {s : List UInt8} {l : List Tok} (h : Lx b s l) : ∀ u ∈ l, u.length ≤ s.length := by
  induction h with
  | done _ => simp
  | bad _ => simp
  | more h hw _ ih =>
    intro u hu
    rcases List.mem_cons.1 hu with q | q
    · rw [q]; exact stepP_word h
    · have := ih u q; have := stepP_short h; omega
section
variable {fr al : Nat → Prop} {w0 w W : World}
def RparseGot (fr al : Nat → Prop) (w0 W : World) (s : List UInt8) (e : Ending) (w' : World) : Prop := ∃ g v, e = .returned (.tuple #[fmV g, .int .i64 v]) ∧ ParseIs s g.strip v ∧ Own fr al w0 [oldI W, fmI g] w'
theorem rparseGot0 {s : List UInt8} {v : Int} (hs : ParseIs s zeroF v) (st : Own fr al w0 [oldI W] w) : RparseGot fr al w0 W s (.returned (.tuple #[.agg zF.toArray, .int .i64 v])) w :=
  ⟨.mk 0 0 ([], []) none 0 0 [], v, rfl, hs, zeroFm st⟩
theorem parsedE_left {x : Fo} {c : Tok} {t : List Tok} : parsedE (some (x, c :: t)) = (zeroF, 11) := rfl
set_option maxRecDepth 100000 in
set_option maxHeartbeats 4000000 in
theorem rparse_c {s : List UInt8} (hs : s.length ≤ 100000) (st : Own fr al w0 [oldI W] w) :
    Calls Tryz.prog 9 #[S s] w (RparseGot fr al w0 W s) := by
  obtain ⟨b, l, hl⟩ := lx_ex _ s (Nat.le_refl _)
  have HL := Lib.hid hl
  have HW := Lib.hid (fun (fr al : Nat → Prop) (w0 w : World) (st : Own fr al w0 [oldI W] w) => words_c (fr := fr) (al := al) (w0 := w0) (w := w) s hs st)
  rw [wordsR_lx hl []] at HW
  have HT : Hid (TokL l) := Lib.hid ⟨by have := lx_len hl; omega, fun u hu => by have := lx_tok hl u hu; omega⟩
  have HTN : Hid (TokL []) := Lib.hid ⟨by simp, by simp⟩
  have HA := Lib.hid (fun rb => rany_c (rb := rb) (oneP_short false (l.length + 1)) (rone_c (l.length + 1)))
  clear hl
  unfold S at HW ⊢
  by_cases h1 : 2048 < s.length
  · have HP : Hid (ParseIs s zeroF 12) := Lib.hid (by unfold ParseIs; rw [if_pos h1]; exact ⟨rfl, rfl⟩)
    (try simp only [nsl, Value.cells, unB] at st)
    (try clear hc); have hc := st.facts; (try simp only [nfl, nft, Nat.reduceAdd] at hc)
    go_enter Tryz.func9, Tryz.ntmps9
    go_wp2_with ((first
          | ((with_reducible refine wl_alloc ?_ (fun K hK => ?_)); rfl; refine owp_alloc (o := ⟨some 2, _, _, _, _, _⟩) rfl st ?_; apply Exists.intro; apply Exists.intro; refine ⟨?_, ?_⟩; (focus (first | (go_simp; done) | (go_simp; rfl))); (clear st; intro b2 w hb st; clear hb))
          | ((with_reducible refine wl_store ?_ (fun K hK => ?_)); rfl; refine owp_store rfl st ?_; apply Exists.intro; apply Exists.intro; refine ⟨?_, ?_, ?_⟩; (focus (go_simp; try rfl)); (focus (go_simp; try rfl)); (first | (with_reducible refine ⟨0, _, _, _, _, get0, rfl, rfl, ?_, ?_, ?_, ?_⟩) | (with_reducible refine ⟨1, _, _, _, _, get1, rfl, rfl, ?_, ?_, ?_, ?_⟩) | (with_reducible refine ⟨2, _, _, _, _, get2, rfl, rfl, ?_, ?_, ?_, ?_⟩) | (with_reducible refine ⟨3, _, _, _, _, get3, rfl, rfl, ?_, ?_, ?_, ?_⟩) | (with_reducible refine ⟨4, _, _, _, _, get4, rfl, rfl, ?_, ?_, ?_, ?_⟩) | (with_reducible refine ⟨5, _, _, _, _, get5, rfl, rfl, ?_, ?_, ?_, ?_⟩) | (with_reducible refine ⟨6, _, _, _, _, get6, rfl, rfl, ?_, ?_, ?_, ?_⟩)); (kernel_rfl); (simp [Value.cells]); (rfl); (clear st; intro w st))
          | ((with_reducible refine wl_box ?_ (fun K hK => ?_)); rfl; refine owp_box (o := ⟨some 21, _, _, _, _, _⟩) rfl st ?_; apply Exists.intro; refine ⟨?_, ?_⟩; (focus (go_simp; try rfl)); (clear st; intro b21 w hb st; clear hb))
          | ((with_reducible refine wl_alloc ?_ (fun K hK => ?_)); rfl; refine owp_alloc (o := ⟨some 7, _, _, _, _, _⟩) rfl st ?_; apply Exists.intro; apply Exists.intro; refine ⟨?_, ?_⟩; (focus (first | (go_simp; done) | (go_simp; rfl))); (clear st; intro b7 w hb st; clear hb))); (try simp only [nsl, Value.cells, unB] at st); (try clear hc); have hc := st.facts; (try simp only [nfl, nft, Nat.reduceAdd] at hc))
    (try simp only [Exit.inBlock, Exit.then])
    refine bodyPost_cell2 rfl rfl (st.blk (i := 1) get1) Tryz.underlying26 rfl (by kernel_rfl) rfl ?_
    have st2 := st.keep [0] (by decide) (by simp)
    exact rparseGot0 HP.out (by simpa [pick] using st2)
  · have HPI := Lib.hid (fun f e hf => parseIs_lx (f := f) (e := e) h1 HL.out hf)
    cases b with
    | true =>
      have HP : Hid (ParseIs s zeroF 11) := Lib.hid (HPI.out _ _ (parsedE_no (fun x h => anyP_ne (oneP_ne _) _ _ _ h rfl)).symm)
      rw [if_pos rfl] at HW
      clear HPI
      (try simp only [nsl, Value.cells, unB] at st)
      (try clear hc); have hc := st.facts; (try simp only [nfl, nft, Nat.reduceAdd] at hc)
      go_enter Tryz.func9, Tryz.ntmps9
      go_wp2_with ((first
            | ((with_reducible refine wl_alloc ?_ (fun K hK => ?_)); rfl; refine owp_alloc (o := ⟨some 2, _, _, _, _, _⟩) rfl st ?_; apply Exists.intro; apply Exists.intro; refine ⟨?_, ?_⟩; (focus (first | (go_simp; done) | (go_simp; rfl))); (clear st; intro b2 w hb st; clear hb))
            | ((with_reducible refine wl_store ?_ (fun K hK => ?_)); rfl; refine owp_store rfl st ?_; apply Exists.intro; apply Exists.intro; refine ⟨?_, ?_, ?_⟩; (focus (go_simp; try rfl)); (focus (go_simp; try rfl)); (first | (with_reducible refine ⟨0, _, _, _, _, get0, rfl, rfl, ?_, ?_, ?_, ?_⟩) | (with_reducible refine ⟨1, _, _, _, _, get1, rfl, rfl, ?_, ?_, ?_, ?_⟩) | (with_reducible refine ⟨2, _, _, _, _, get2, rfl, rfl, ?_, ?_, ?_, ?_⟩) | (with_reducible refine ⟨3, _, _, _, _, get3, rfl, rfl, ?_, ?_, ?_, ?_⟩) | (with_reducible refine ⟨4, _, _, _, _, get4, rfl, rfl, ?_, ?_, ?_, ?_⟩) | (with_reducible refine ⟨5, _, _, _, _, get5, rfl, rfl, ?_, ?_, ?_, ?_⟩) | (with_reducible refine ⟨6, _, _, _, _, get6, rfl, rfl, ?_, ?_, ?_, ?_⟩)); (kernel_rfl); (simp [Value.cells]); (rfl); (clear st; intro w st))
            | ((with_reducible refine wl_box ?_ (fun K hK => ?_)); rfl; refine owp_box (o := ⟨some 21, _, _, _, _, _⟩) rfl st ?_; apply Exists.intro; refine ⟨?_, ?_⟩; (focus (go_simp; try rfl)); (clear st; intro b21 w hb st; clear hb))
            | ((with_reducible refine wl_alloc ?_ (fun K hK => ?_)); rfl; refine owp_alloc (o := ⟨some 7, _, _, _, _, _⟩) rfl st ?_; apply Exists.intro; apply Exists.intro; refine ⟨?_, ?_⟩; (focus (first | (go_simp; done) | (go_simp; rfl))); (clear st; intro b7 w hb st; clear hb))); (try simp only [nsl, Value.cells, unB] at st); (try clear hc); have hc := st.facts; (try simp only [nfl, nft, Nat.reduceAdd] at hc))
      obtain ⟨fr', al', st', back⟩ := st.sub [0] (by decide) (by simp)
      (try simp only [nsl, Value.cells, unB] at st')
      refine (HW.out _ _ _ _ st').mono ?_
      clear st'
      rintro en w ⟨rfl, st'⟩
      replace st := back _ _ (by simp) st'
      clear back st'
      (try simp only [nsl, Value.cells, unB] at st)
      (try clear hc); have hc := st.facts; (try simp only [nfl, nft, Nat.reduceAdd] at hc)
      replace st := st.flNone none
      simp only [List.cons_append, List.nil_append] at st
      (try simp only [nsl, Value.cells, unB] at st)
      (try clear hc); have hc := st.facts; (try simp only [nfl, nft, Nat.reduceAdd] at hc)
      go_wp2_with ((first
            | ((with_reducible refine wl_alloc ?_ (fun K hK => ?_)); rfl; refine owp_alloc (o := ⟨some 2, _, _, _, _, _⟩) rfl st ?_; apply Exists.intro; apply Exists.intro; refine ⟨?_, ?_⟩; (focus (first | (go_simp; done) | (go_simp; rfl))); (clear st; intro b2 w hb st; clear hb))
            | ((with_reducible refine wl_store ?_ (fun K hK => ?_)); rfl; refine owp_store rfl st ?_; apply Exists.intro; apply Exists.intro; refine ⟨?_, ?_, ?_⟩; (focus (go_simp; try rfl)); (focus (go_simp; try rfl)); (first | (with_reducible refine ⟨0, _, _, _, _, get0, rfl, rfl, ?_, ?_, ?_, ?_⟩) | (with_reducible refine ⟨1, _, _, _, _, get1, rfl, rfl, ?_, ?_, ?_, ?_⟩) | (with_reducible refine ⟨2, _, _, _, _, get2, rfl, rfl, ?_, ?_, ?_, ?_⟩) | (with_reducible refine ⟨3, _, _, _, _, get3, rfl, rfl, ?_, ?_, ?_, ?_⟩) | (with_reducible refine ⟨4, _, _, _, _, get4, rfl, rfl, ?_, ?_, ?_, ?_⟩) | (with_reducible refine ⟨5, _, _, _, _, get5, rfl, rfl, ?_, ?_, ?_, ?_⟩) | (with_reducible refine ⟨6, _, _, _, _, get6, rfl, rfl, ?_, ?_, ?_, ?_⟩)); (kernel_rfl); (simp [Value.cells]); (rfl); (clear st; intro w st))
            | ((with_reducible refine wl_box ?_ (fun K hK => ?_)); rfl; refine owp_box (o := ⟨some 21, _, _, _, _, _⟩) rfl st ?_; apply Exists.intro; refine ⟨?_, ?_⟩; (focus (go_simp; try rfl)); (clear st; intro b21 w hb st; clear hb))
            | ((with_reducible refine wl_alloc ?_ (fun K hK => ?_)); rfl; refine owp_alloc (o := ⟨some 7, _, _, _, _, _⟩) rfl st ?_; apply Exists.intro; apply Exists.intro; refine ⟨?_, ?_⟩; (focus (first | (go_simp; done) | (go_simp; rfl))); (clear st; intro b7 w hb st; clear hb))); (try simp only [nsl, Value.cells, unB] at st); (try clear hc); have hc := st.facts; (try simp only [nfl, nft, Nat.reduceAdd] at hc))
      obtain ⟨fr', al', st', back⟩ := st.sub [3, 2] (by decide) (by simp)
      (try simp only [nsl, Value.cells, unB] at st')
      refine (HA.out _ _ _ _ _ _ _ _ _ _ HTN.out (fun h => by cases h) ⟨Nat.le_refl _, by simp [maxLen]⟩ st').mono ?_
      clear st'
      rintro en w ⟨g, bad1, a1, n1, c1, t1, rfl, hc1, ht1, hl1, hr1, st'⟩
      obtain rfl := hr1.bad
      clear hc1 ht1 hl1 hr1
      replace st := back _ _ (by simp) st'
      clear back st'
      (try simp only [nsl, Value.cells, unB] at st)
      (try clear hc); have hc := st.facts; (try simp only [nfl, nft, Nat.reduceAdd] at hc)
      obtain ⟨op', k', ⟨o', d'⟩, a', n', c', kids'⟩ := g
      unfold fmV S
      simp only
      (try simp only [nsl, Value.cells, unB] at st)
      (try clear hc); have hc := st.facts; (try simp only [nfl, nft, Nat.reduceAdd] at hc)
      go_wp2_with ((first
            | ((with_reducible refine wl_alloc ?_ (fun K hK => ?_)); rfl; refine owp_alloc (o := ⟨some 2, _, _, _, _, _⟩) rfl st ?_; apply Exists.intro; apply Exists.intro; refine ⟨?_, ?_⟩; (focus (first | (go_simp; done) | (go_simp; rfl))); (clear st; intro b2 w hb st; clear hb))
            | ((with_reducible refine wl_store ?_ (fun K hK => ?_)); rfl; refine owp_store rfl st ?_; apply Exists.intro; apply Exists.intro; refine ⟨?_, ?_, ?_⟩; (focus (go_simp; try rfl)); (focus (go_simp; try rfl)); (first | (with_reducible refine ⟨0, _, _, _, _, get0, rfl, rfl, ?_, ?_, ?_, ?_⟩) | (with_reducible refine ⟨1, _, _, _, _, get1, rfl, rfl, ?_, ?_, ?_, ?_⟩) | (with_reducible refine ⟨2, _, _, _, _, get2, rfl, rfl, ?_, ?_, ?_, ?_⟩) | (with_reducible refine ⟨3, _, _, _, _, get3, rfl, rfl, ?_, ?_, ?_, ?_⟩) | (with_reducible refine ⟨4, _, _, _, _, get4, rfl, rfl, ?_, ?_, ?_, ?_⟩) | (with_reducible refine ⟨5, _, _, _, _, get5, rfl, rfl, ?_, ?_, ?_, ?_⟩) | (with_reducible refine ⟨6, _, _, _, _, get6, rfl, rfl, ?_, ?_, ?_, ?_⟩)); (kernel_rfl); (simp [Value.cells]); (rfl); (clear st; intro w st))
            | ((with_reducible refine wl_box ?_ (fun K hK => ?_)); rfl; refine owp_box (o := ⟨some 21, _, _, _, _, _⟩) rfl st ?_; apply Exists.intro; refine ⟨?_, ?_⟩; (focus (go_simp; try rfl)); (clear st; intro b21 w hb st; clear hb))
            | ((with_reducible refine wl_alloc ?_ (fun K hK => ?_)); rfl; refine owp_alloc (o := ⟨some 7, _, _, _, _, _⟩) rfl st ?_; apply Exists.intro; apply Exists.intro; refine ⟨?_, ?_⟩; (focus (first | (go_simp; done) | (go_simp; rfl))); (clear st; intro b7 w hb st; clear hb))); (try simp only [nsl, Value.cells, unB] at st); (try clear hc); have hc := st.facts; (try simp only [nfl, nft, Nat.reduceAdd] at hc))
      (try simp only [Exit.inBlock, Exit.then])
      refine bodyPost_cell2 rfl rfl (st.blk (i := 1) get1) Tryz.underlying26 rfl (by kernel_rfl) rfl ?_
      have st2 := st.keep [0] (by decide) (by simp)
      exact rparseGot0 HP.out (by simpa [pick] using st2)
    | false =>
      rw [if_neg (by decide), List.nil_append] at HW
      have HSM := Lib.hid (fun x (h : anyP false (oneP false (l.length + 1)) l = some (x, [])) => anyP_small (oneP_small false _) _ _ _ h)
      obtain ⟨o, ho⟩ : ∃ o, anyP false (oneP false (l.length + 1)) l = o := ⟨_, rfl⟩
      have HO := Lib.hid ho
      rw [ho] at HPI HSM
      clear ho HL
      (try simp only [nsl, Value.cells, unB] at st)
      (try clear hc); have hc := st.facts; (try simp only [nfl, nft, Nat.reduceAdd] at hc)
      go_enter Tryz.func9, Tryz.ntmps9
      go_wp2_with ((first
            | ((with_reducible refine wl_alloc ?_ (fun K hK => ?_)); rfl; refine owp_alloc (o := ⟨some 2, _, _, _, _, _⟩) rfl st ?_; apply Exists.intro; apply Exists.intro; refine ⟨?_, ?_⟩; (focus (first | (go_simp; done) | (go_simp; rfl))); (clear st; intro b2 w hb st; clear hb))
            | ((with_reducible refine wl_store ?_ (fun K hK => ?_)); rfl; refine owp_store rfl st ?_; apply Exists.intro; apply Exists.intro; refine ⟨?_, ?_, ?_⟩; (focus (go_simp; try rfl)); (focus (go_simp; try rfl)); (first | (with_reducible refine ⟨0, _, _, _, _, get0, rfl, rfl, ?_, ?_, ?_, ?_⟩) | (with_reducible refine ⟨1, _, _, _, _, get1, rfl, rfl, ?_, ?_, ?_, ?_⟩) | (with_reducible refine ⟨2, _, _, _, _, get2, rfl, rfl, ?_, ?_, ?_, ?_⟩) | (with_reducible refine ⟨3, _, _, _, _, get3, rfl, rfl, ?_, ?_, ?_, ?_⟩) | (with_reducible refine ⟨4, _, _, _, _, get4, rfl, rfl, ?_, ?_, ?_, ?_⟩) | (with_reducible refine ⟨5, _, _, _, _, get5, rfl, rfl, ?_, ?_, ?_, ?_⟩) | (with_reducible refine ⟨6, _, _, _, _, get6, rfl, rfl, ?_, ?_, ?_, ?_⟩)); (kernel_rfl); (simp [Value.cells]); (rfl); (clear st; intro w st))
            | ((with_reducible refine wl_box ?_ (fun K hK => ?_)); rfl; refine owp_box (o := ⟨some 21, _, _, _, _, _⟩) rfl st ?_; apply Exists.intro; refine ⟨?_, ?_⟩; (focus (go_simp; try rfl)); (clear st; intro b21 w hb st; clear hb))
            | ((with_reducible refine wl_alloc ?_ (fun K hK => ?_)); rfl; refine owp_alloc (o := ⟨some 7, _, _, _, _, _⟩) rfl st ?_; apply Exists.intro; apply Exists.intro; refine ⟨?_, ?_⟩; (focus (first | (go_simp; done) | (go_simp; rfl))); (clear st; intro b7 w hb st; clear hb))); (try simp only [nsl, Value.cells, unB] at st); (try clear hc); have hc := st.facts; (try simp only [nfl, nft, Nat.reduceAdd] at hc))
      obtain ⟨fr', al', st', back⟩ := st.sub [0] (by decide) (by simp)
      (try simp only [nsl, Value.cells, unB] at st')
      refine (HW.out _ _ _ _ st').mono ?_
      clear st'
      rintro en w ⟨va, vc, rfl, hcap, st'⟩
      replace st := back _ _ (by simp) st'
      clear back st'
      (try simp only [nsl, Value.cells, unB] at st)
      (try clear hc); have hc := st.facts; (try simp only [nfl, nft, Nat.reduceAdd] at hc)
      have HCAP := Lib.hid hcap
      clear hcap
      (try simp only [nsl, Value.cells, unB] at st)
      (try clear hc); have hc := st.facts; (try simp only [nfl, nft, Nat.reduceAdd] at hc)
      go_wp2_with ((first
            | ((with_reducible refine wl_alloc ?_ (fun K hK => ?_)); rfl; refine owp_alloc (o := ⟨some 2, _, _, _, _, _⟩) rfl st ?_; apply Exists.intro; apply Exists.intro; refine ⟨?_, ?_⟩; (focus (first | (go_simp; done) | (go_simp; rfl))); (clear st; intro b2 w hb st; clear hb))
            | ((with_reducible refine wl_store ?_ (fun K hK => ?_)); rfl; refine owp_store rfl st ?_; apply Exists.intro; apply Exists.intro; refine ⟨?_, ?_, ?_⟩; (focus (go_simp; try rfl)); (focus (go_simp; try rfl)); (first | (with_reducible refine ⟨0, _, _, _, _, get0, rfl, rfl, ?_, ?_, ?_, ?_⟩) | (with_reducible refine ⟨1, _, _, _, _, get1, rfl, rfl, ?_, ?_, ?_, ?_⟩) | (with_reducible refine ⟨2, _, _, _, _, get2, rfl, rfl, ?_, ?_, ?_, ?_⟩) | (with_reducible refine ⟨3, _, _, _, _, get3, rfl, rfl, ?_, ?_, ?_, ?_⟩) | (with_reducible refine ⟨4, _, _, _, _, get4, rfl, rfl, ?_, ?_, ?_, ?_⟩) | (with_reducible refine ⟨5, _, _, _, _, get5, rfl, rfl, ?_, ?_, ?_, ?_⟩) | (with_reducible refine ⟨6, _, _, _, _, get6, rfl, rfl, ?_, ?_, ?_, ?_⟩)); (kernel_rfl); (simp [Value.cells]); (rfl); (clear st; intro w st))
            | ((with_reducible refine wl_box ?_ (fun K hK => ?_)); rfl; refine owp_box (o := ⟨some 21, _, _, _, _, _⟩) rfl st ?_; apply Exists.intro; refine ⟨?_, ?_⟩; (focus (go_simp; try rfl)); (clear st; intro b21 w hb st; clear hb))
            | ((with_reducible refine wl_alloc ?_ (fun K hK => ?_)); rfl; refine owp_alloc (o := ⟨some 7, _, _, _, _, _⟩) rfl st ?_; apply Exists.intro; apply Exists.intro; refine ⟨?_, ?_⟩; (focus (first | (go_simp; done) | (go_simp; rfl))); (clear st; intro b7 w hb st; clear hb))); (try simp only [nsl, Value.cells, unB] at st); (try clear hc); have hc := st.facts; (try simp only [nfl, nft, Nat.reduceAdd] at hc))
      obtain ⟨fr', al', st', back⟩ := st.sub [3, 2] (by decide) (by simp)
      (try simp only [nsl, Value.cells, unB] at st')
      refine (HA.out _ _ _ _ _ _ _ _ _ _ HT.out (fun _ => Nat.lt_succ_self _) HCAP.out st').mono ?_
      clear st'
      rintro en w ⟨g, bad1, a1, n1, c1, t1, rfl, hc1, ht1, hl1, hr1, st'⟩
      rw [HO.out] at hr1
      have HR1 := Lib.hid hr1
      clear hc1 ht1 hl1 hr1
      replace st := back _ _ (by simp) st'
      clear back st'
      (try simp only [nsl, Value.cells, unB] at st)
      (try clear hc); have hc := st.facts; (try simp only [nfl, nft, Nat.reduceAdd] at hc)
      have hn1 := (st.flAt (i := 2) get2).1
      have HN1 := Lib.hid hn1
      clear hn1
      obtain ⟨gx, hgx⟩ : ∃ x, g = x := ⟨_, rfl⟩
      obtain ⟨op', k', ⟨o', d'⟩, a', n', c', kids'⟩ := g
      have HV : Hid (fmV gx = .agg #[.int .i64 op', .int .i64 k', .string ⟨o'.toArray⟩, .string ⟨d'.toArray⟩, .slice a' n' c']) := Lib.hid (by rw [← hgx]; rfl)
      rw [hgx] at HR1 st ⊢
      rw [HV.out]
      clear hgx
      cases bad1 with
      | true =>
        have HP : Hid (ParseIs s zeroF 11) := Lib.hid (HPI.out _ _ (by
          rcases HR1.out.no with q | q
          · cases q
          · rw [q]; rfl))
        clear HPI HSM
        (try simp only [nsl, Value.cells, unB] at st)
        (try clear hc); have hc := st.facts; (try simp only [nfl, nft, Nat.reduceAdd] at hc)
        go_wp2_with ((first
              | ((with_reducible refine wl_alloc ?_ (fun K hK => ?_)); rfl; refine owp_alloc (o := ⟨some 2, _, _, _, _, _⟩) rfl st ?_; apply Exists.intro; apply Exists.intro; refine ⟨?_, ?_⟩; (focus (first | (go_simp; done) | (go_simp; rfl))); (clear st; intro b2 w hb st; clear hb))
              | ((with_reducible refine wl_store ?_ (fun K hK => ?_)); rfl; refine owp_store rfl st ?_; apply Exists.intro; apply Exists.intro; refine ⟨?_, ?_, ?_⟩; (focus (go_simp; try rfl)); (focus (go_simp; try rfl)); (first | (with_reducible refine ⟨0, _, _, _, _, get0, rfl, rfl, ?_, ?_, ?_, ?_⟩) | (with_reducible refine ⟨1, _, _, _, _, get1, rfl, rfl, ?_, ?_, ?_, ?_⟩) | (with_reducible refine ⟨2, _, _, _, _, get2, rfl, rfl, ?_, ?_, ?_, ?_⟩) | (with_reducible refine ⟨3, _, _, _, _, get3, rfl, rfl, ?_, ?_, ?_, ?_⟩) | (with_reducible refine ⟨4, _, _, _, _, get4, rfl, rfl, ?_, ?_, ?_, ?_⟩) | (with_reducible refine ⟨5, _, _, _, _, get5, rfl, rfl, ?_, ?_, ?_, ?_⟩) | (with_reducible refine ⟨6, _, _, _, _, get6, rfl, rfl, ?_, ?_, ?_, ?_⟩)); (kernel_rfl); (simp [Value.cells]); (rfl); (clear st; intro w st))
              | ((with_reducible refine wl_box ?_ (fun K hK => ?_)); rfl; refine owp_box (o := ⟨some 21, _, _, _, _, _⟩) rfl st ?_; apply Exists.intro; refine ⟨?_, ?_⟩; (focus (go_simp; try rfl)); (clear st; intro b21 w hb st; clear hb))
              | ((with_reducible refine wl_alloc ?_ (fun K hK => ?_)); rfl; refine owp_alloc (o := ⟨some 7, _, _, _, _, _⟩) rfl st ?_; apply Exists.intro; apply Exists.intro; refine ⟨?_, ?_⟩; (focus (first | (go_simp; done) | (go_simp; rfl))); (clear st; intro b7 w hb st; clear hb))); (try simp only [nsl, Value.cells, unB] at st); (try clear hc); have hc := st.facts; (try simp only [nfl, nft, Nat.reduceAdd] at hc))
        (try simp only [Exit.inBlock, Exit.then])
        refine bodyPost_cell2 rfl rfl (st.blk (i := 1) get1) Tryz.underlying26 rfl (by kernel_rfl) rfl ?_
        have st2 := st.keep [0] (by decide) (by simp)
        exact rparseGot0 HP.out (by simpa [pick] using st2)
      | false =>
        cases t1 with
        | cons c t =>
          have hp1 : 0 < (n1 : Int) := by have := HN1.out; rw [List.length_cons] at this; omega
          have HP : Hid (ParseIs s zeroF 11) := Lib.hid (HPI.out _ _ (by rw [HR1.out.ok.2, parsedE_left]))
          clear HPI HSM HN1
          (try simp only [nsl, Value.cells, unB] at st)
          (try clear hc); have hc := st.facts; (try simp only [nfl, nft, Nat.reduceAdd] at hc)
          go_wp2_with ((first
                | ((with_reducible refine wl_alloc ?_ (fun K hK => ?_)); rfl; refine owp_alloc (o := ⟨some 2, _, _, _, _, _⟩) rfl st ?_; apply Exists.intro; apply Exists.intro; refine ⟨?_, ?_⟩; (focus (first | (go_simp; done) | (go_simp; rfl))); (clear st; intro b2 w hb st; clear hb))
                | ((with_reducible refine wl_store ?_ (fun K hK => ?_)); rfl; refine owp_store rfl st ?_; apply Exists.intro; apply Exists.intro; refine ⟨?_, ?_, ?_⟩; (focus (go_simp; try rfl)); (focus (go_simp; try rfl)); (first | (with_reducible refine ⟨0, _, _, _, _, get0, rfl, rfl, ?_, ?_, ?_, ?_⟩) | (with_reducible refine ⟨1, _, _, _, _, get1, rfl, rfl, ?_, ?_, ?_, ?_⟩) | (with_reducible refine ⟨2, _, _, _, _, get2, rfl, rfl, ?_, ?_, ?_, ?_⟩) | (with_reducible refine ⟨3, _, _, _, _, get3, rfl, rfl, ?_, ?_, ?_, ?_⟩) | (with_reducible refine ⟨4, _, _, _, _, get4, rfl, rfl, ?_, ?_, ?_, ?_⟩) | (with_reducible refine ⟨5, _, _, _, _, get5, rfl, rfl, ?_, ?_, ?_, ?_⟩) | (with_reducible refine ⟨6, _, _, _, _, get6, rfl, rfl, ?_, ?_, ?_, ?_⟩)); (kernel_rfl); (simp [Value.cells]); (rfl); (clear st; intro w st))
                | ((with_reducible refine wl_box ?_ (fun K hK => ?_)); rfl; refine owp_box (o := ⟨some 21, _, _, _, _, _⟩) rfl st ?_; apply Exists.intro; refine ⟨?_, ?_⟩; (focus (go_simp; try rfl)); (clear st; intro b21 w hb st; clear hb))
                | ((with_reducible refine wl_alloc ?_ (fun K hK => ?_)); rfl; refine owp_alloc (o := ⟨some 7, _, _, _, _, _⟩) rfl st ?_; apply Exists.intro; apply Exists.intro; refine ⟨?_, ?_⟩; (focus (first | (go_simp; done) | (go_simp; rfl))); (clear st; intro b7 w hb st; clear hb))); (try simp only [nsl, Value.cells, unB] at st); (try clear hc); have hc := st.facts; (try simp only [nfl, nft, Nat.reduceAdd] at hc))
          (try simp only [Exit.inBlock, Exit.then])
          refine bodyPost_cell2 rfl rfl (st.blk (i := 1) get1) Tryz.underlying26 rfl (by kernel_rfl) rfl ?_
          have st2 := st.keep [0] (by decide) (by simp)
          exact rparseGot0 HP.out (by simpa [pick] using st2)
        | nil =>
          obtain rfl : n1 = 0 := HN1.out
          have ho := HR1.out.ok.2
          obtain ⟨hsm1, hsm2⟩ := HSM.out _ ho
          have hsm3 : gx.strip.nodes ≤ 100000 := by have := HT.out.1; simp at hsm1; omega
          have HOK := Lib.hid (fun W' (h : FmOk W' gx) => refRight11_any gx W' h (by omega) hsm2)
          obtain ⟨v, hv⟩ : ∃ v, foR gx.strip = v := ⟨_, rfl⟩
          have HVV := Lib.hid hv
          rw [hv, HV.out] at HOK
          have HO2 := Lib.hid ho
          clear ho hsm1 hsm2 hsm3 hv HSM HN1
          cases v with
          | true =>
            have HP : Hid (ParseIs s gx.strip 0) := Lib.hid (HPI.out _ _ (by rw [HO2.out]; unfold parsedE; simp only; rw [if_pos HVV.out]))
            clear HPI
            (try simp only [nsl, Value.cells, unB] at st)
            (try clear hc); have hc := st.facts; (try simp only [nfl, nft, Nat.reduceAdd] at hc)
            go_wp2_with ((first
                  | ((with_reducible refine wl_alloc ?_ (fun K hK => ?_)); rfl; refine owp_alloc (o := ⟨some 2, _, _, _, _, _⟩) rfl st ?_; apply Exists.intro; apply Exists.intro; refine ⟨?_, ?_⟩; (focus (first | (go_simp; done) | (go_simp; rfl))); (clear st; intro b2 w hb st; clear hb))
                  | ((with_reducible refine wl_store ?_ (fun K hK => ?_)); rfl; refine owp_store rfl st ?_; apply Exists.intro; apply Exists.intro; refine ⟨?_, ?_, ?_⟩; (focus (go_simp; try rfl)); (focus (go_simp; try rfl)); (first | (with_reducible refine ⟨0, _, _, _, _, get0, rfl, rfl, ?_, ?_, ?_, ?_⟩) | (with_reducible refine ⟨1, _, _, _, _, get1, rfl, rfl, ?_, ?_, ?_, ?_⟩) | (with_reducible refine ⟨2, _, _, _, _, get2, rfl, rfl, ?_, ?_, ?_, ?_⟩) | (with_reducible refine ⟨3, _, _, _, _, get3, rfl, rfl, ?_, ?_, ?_, ?_⟩) | (with_reducible refine ⟨4, _, _, _, _, get4, rfl, rfl, ?_, ?_, ?_, ?_⟩) | (with_reducible refine ⟨5, _, _, _, _, get5, rfl, rfl, ?_, ?_, ?_, ?_⟩) | (with_reducible refine ⟨6, _, _, _, _, get6, rfl, rfl, ?_, ?_, ?_, ?_⟩)); (kernel_rfl); (simp [Value.cells]); (rfl); (clear st; intro w st))
                  | ((with_reducible refine wl_box ?_ (fun K hK => ?_)); rfl; refine owp_box (o := ⟨some 21, _, _, _, _, _⟩) rfl st ?_; apply Exists.intro; refine ⟨?_, ?_⟩; (focus (go_simp; try rfl)); (clear st; intro b21 w hb st; clear hb))
                  | ((with_reducible refine wl_alloc ?_ (fun K hK => ?_)); rfl; refine owp_alloc (o := ⟨some 7, _, _, _, _, _⟩) rfl st ?_; apply Exists.intro; apply Exists.intro; refine ⟨?_, ?_⟩; (focus (first | (go_simp; done) | (go_simp; rfl))); (clear st; intro b7 w hb st; clear hb))); (try simp only [nsl, Value.cells, unB] at st); (try clear hc); have hc := st.facts; (try simp only [nfl, nft, Nat.reduceAdd] at hc))
            refine (HOK.out _ (st.fm (i := 4) get4)).mono ?_
            rintro en w ⟨rfl, hx⟩
            replace st := st.ext hx
            clear hx
            (try clear hc); have hc := st.facts; (try simp only [nfl, nft, Nat.reduceAdd] at hc)
            go_wp2_with ((first
                  | ((with_reducible refine wl_alloc ?_ (fun K hK => ?_)); rfl; refine owp_alloc (o := ⟨some 2, _, _, _, _, _⟩) rfl st ?_; apply Exists.intro; apply Exists.intro; refine ⟨?_, ?_⟩; (focus (first | (go_simp; done) | (go_simp; rfl))); (clear st; intro b2 w hb st; clear hb))
                  | ((with_reducible refine wl_store ?_ (fun K hK => ?_)); rfl; refine owp_store rfl st ?_; apply Exists.intro; apply Exists.intro; refine ⟨?_, ?_, ?_⟩; (focus (go_simp; try rfl)); (focus (go_simp; try rfl)); (first | (with_reducible refine ⟨0, _, _, _, _, get0, rfl, rfl, ?_, ?_, ?_, ?_⟩) | (with_reducible refine ⟨1, _, _, _, _, get1, rfl, rfl, ?_, ?_, ?_, ?_⟩) | (with_reducible refine ⟨2, _, _, _, _, get2, rfl, rfl, ?_, ?_, ?_, ?_⟩) | (with_reducible refine ⟨3, _, _, _, _, get3, rfl, rfl, ?_, ?_, ?_, ?_⟩) | (with_reducible refine ⟨4, _, _, _, _, get4, rfl, rfl, ?_, ?_, ?_, ?_⟩) | (with_reducible refine ⟨5, _, _, _, _, get5, rfl, rfl, ?_, ?_, ?_, ?_⟩) | (with_reducible refine ⟨6, _, _, _, _, get6, rfl, rfl, ?_, ?_, ?_, ?_⟩)); (kernel_rfl); (simp [Value.cells]); (rfl); (clear st; intro w st))
                  | ((with_reducible refine wl_box ?_ (fun K hK => ?_)); rfl; refine owp_box (o := ⟨some 21, _, _, _, _, _⟩) rfl st ?_; apply Exists.intro; refine ⟨?_, ?_⟩; (focus (go_simp; try rfl)); (clear st; intro b21 w hb st; clear hb))
                  | ((with_reducible refine wl_alloc ?_ (fun K hK => ?_)); rfl; refine owp_alloc (o := ⟨some 7, _, _, _, _, _⟩) rfl st ?_; apply Exists.intro; apply Exists.intro; refine ⟨?_, ?_⟩; (focus (first | (go_simp; done) | (go_simp; rfl))); (clear st; intro b7 w hb st; clear hb))); (try simp only [nsl, Value.cells, unB] at st); (try clear hc); have hc := st.facts; (try simp only [nfl, nft, Nat.reduceAdd] at hc))
            (try simp only [Exit.inBlock, Exit.then])
            refine bodyPost_cell2 rfl rfl (st.blk (i := 1) get1) Tryz.underlying26 rfl (by kernel_rfl) rfl ?_
            have st2 := st.keep [0, 4] (by decide) (by simp)
            exact ⟨gx, 0, by rw [HV.out] <;> rfl, HP.out, by simpa [pick] using st2⟩
          | false =>
            have HP : Hid (ParseIs s zeroF 12) := Lib.hid (HPI.out _ _ (by rw [HO2.out]; unfold parsedE; simp only; rw [if_neg (by rw [HVV.out]; decide)]))
            clear HPI
            (try simp only [nsl, Value.cells, unB] at st)
            (try clear hc); have hc := st.facts; (try simp only [nfl, nft, Nat.reduceAdd] at hc)
            go_wp2_with ((first
                  | ((with_reducible refine wl_alloc ?_ (fun K hK => ?_)); rfl; refine owp_alloc (o := ⟨some 2, _, _, _, _, _⟩) rfl st ?_; apply Exists.intro; apply Exists.intro; refine ⟨?_, ?_⟩; (focus (first | (go_simp; done) | (go_simp; rfl))); (clear st; intro b2 w hb st; clear hb))
                  | ((with_reducible refine wl_store ?_ (fun K hK => ?_)); rfl; refine owp_store rfl st ?_; apply Exists.intro; apply Exists.intro; refine ⟨?_, ?_, ?_⟩; (focus (go_simp; try rfl)); (focus (go_simp; try rfl)); (first | (with_reducible refine ⟨0, _, _, _, _, get0, rfl, rfl, ?_, ?_, ?_, ?_⟩) | (with_reducible refine ⟨1, _, _, _, _, get1, rfl, rfl, ?_, ?_, ?_, ?_⟩) | (with_reducible refine ⟨2, _, _, _, _, get2, rfl, rfl, ?_, ?_, ?_, ?_⟩) | (with_reducible refine ⟨3, _, _, _, _, get3, rfl, rfl, ?_, ?_, ?_, ?_⟩) | (with_reducible refine ⟨4, _, _, _, _, get4, rfl, rfl, ?_, ?_, ?_, ?_⟩) | (with_reducible refine ⟨5, _, _, _, _, get5, rfl, rfl, ?_, ?_, ?_, ?_⟩) | (with_reducible refine ⟨6, _, _, _, _, get6, rfl, rfl, ?_, ?_, ?_, ?_⟩)); (kernel_rfl); (simp [Value.cells]); (rfl); (clear st; intro w st))
                  | ((with_reducible refine wl_box ?_ (fun K hK => ?_)); rfl; refine owp_box (o := ⟨some 21, _, _, _, _, _⟩) rfl st ?_; apply Exists.intro; refine ⟨?_, ?_⟩; (focus (go_simp; try rfl)); (clear st; intro b21 w hb st; clear hb))
                  | ((with_reducible refine wl_alloc ?_ (fun K hK => ?_)); rfl; refine owp_alloc (o := ⟨some 7, _, _, _, _, _⟩) rfl st ?_; apply Exists.intro; apply Exists.intro; refine ⟨?_, ?_⟩; (focus (first | (go_simp; done) | (go_simp; rfl))); (clear st; intro b7 w hb st; clear hb))); (try simp only [nsl, Value.cells, unB] at st); (try clear hc); have hc := st.facts; (try simp only [nfl, nft, Nat.reduceAdd] at hc))
            refine (HOK.out _ (st.fm (i := 4) get4)).mono ?_
            rintro en w ⟨rfl, hx⟩
            replace st := st.ext hx
            clear hx
            (try clear hc); have hc := st.facts; (try simp only [nfl, nft, Nat.reduceAdd] at hc)
            go_wp2_with ((first
                  | ((with_reducible refine wl_alloc ?_ (fun K hK => ?_)); rfl; refine owp_alloc (o := ⟨some 2, _, _, _, _, _⟩) rfl st ?_; apply Exists.intro; apply Exists.intro; refine ⟨?_, ?_⟩; (focus (first | (go_simp; done) | (go_simp; rfl))); (clear st; intro b2 w hb st; clear hb))
                  | ((with_reducible refine wl_store ?_ (fun K hK => ?_)); rfl; refine owp_store rfl st ?_; apply Exists.intro; apply Exists.intro; refine ⟨?_, ?_, ?_⟩; (focus (go_simp; try rfl)); (focus (go_simp; try rfl)); (first | (with_reducible refine ⟨0, _, _, _, _, get0, rfl, rfl, ?_, ?_, ?_, ?_⟩) | (with_reducible refine ⟨1, _, _, _, _, get1, rfl, rfl, ?_, ?_, ?_, ?_⟩) | (with_reducible refine ⟨2, _, _, _, _, get2, rfl, rfl, ?_, ?_, ?_, ?_⟩) | (with_reducible refine ⟨3, _, _, _, _, get3, rfl, rfl, ?_, ?_, ?_, ?_⟩) | (with_reducible refine ⟨4, _, _, _, _, get4, rfl, rfl, ?_, ?_, ?_, ?_⟩) | (with_reducible refine ⟨5, _, _, _, _, get5, rfl, rfl, ?_, ?_, ?_, ?_⟩) | (with_reducible refine ⟨6, _, _, _, _, get6, rfl, rfl, ?_, ?_, ?_, ?_⟩)); (kernel_rfl); (simp [Value.cells]); (rfl); (clear st; intro w st))
                  | ((with_reducible refine wl_box ?_ (fun K hK => ?_)); rfl; refine owp_box (o := ⟨some 21, _, _, _, _, _⟩) rfl st ?_; apply Exists.intro; refine ⟨?_, ?_⟩; (focus (go_simp; try rfl)); (clear st; intro b21 w hb st; clear hb))
                  | ((with_reducible refine wl_alloc ?_ (fun K hK => ?_)); rfl; refine owp_alloc (o := ⟨some 7, _, _, _, _, _⟩) rfl st ?_; apply Exists.intro; apply Exists.intro; refine ⟨?_, ?_⟩; (focus (first | (go_simp; done) | (go_simp; rfl))); (clear st; intro b7 w hb st; clear hb))); (try simp only [nsl, Value.cells, unB] at st); (try clear hc); have hc := st.facts; (try simp only [nfl, nft, Nat.reduceAdd] at hc))
            (try simp only [Exit.inBlock, Exit.then])
            refine bodyPost_cell2 rfl rfl (st.blk (i := 1) get1) Tryz.underlying26 rfl (by kernel_rfl) rfl ?_
            have st2 := st.keep [0] (by decide) (by simp)
            exact rparseGot0 HP.out (by simpa [pick] using st2)
end
end Go.Proofs.YtnhilgciddcahaaGreatDoor

namespace Go.Proofs.YtnhilgciddcahaaGreatDoor
set_option linter.unusedSimpArgs false
set_option linter.unusedVariables false
open Go Go.RowKit
set_option maxRecDepth 100000 in
set_option maxHeartbeats 4000000 in
theorem refSame11_any (f : Fm) : ∀ (g : Fm) (W : World), FmOk W f → FmOk W g →
    Calls Tryz.prog 11 #[fmV f, fmV g] W fun e w' => e = .returned (.bool (pB (f.strip = g.strip))) ∧ Ext W w' := by
  induction f using Fm.ind
  rename_i op k r a n c kids ih
  intro g W hf hg
  obtain ⟨op2, k2, ⟨o2, d2⟩, a2, n2, c2, kids2⟩ := g
  obtain ⟨o, d⟩ := r
  have hcap : n ≤ 9223372036854775807 := by have := hf.cap; simp only [maxLen] at this; omega
  have hcap2 : n2 ≤ 9223372036854775807 := by have := hg.cap; simp only [maxLen] at this; omega
  have HP := Lib.hid (fun x hx1 y hy1 W' (hx : Ext W W') => ih x hx1 y W' ((hf.kids x hx1).ext hx) ((hg.kids y hy1).ext hx))
  have H := Lib.hid hf.fl
  have H2 := Lib.hid hg.fl
  have HN := Lib.hid hf.fl.1
  have HN2 := Lib.hid hg.fl.1
  obtain ⟨ev, hev⟩ : ∃ v, pB (kids.map Fm.strip = kids2.map Fm.strip) = v := ⟨_, rfl⟩
  have HEV := Lib.hid hev
  have HV : Hid (pB ((Fm.mk op k (o, d) a n c kids).strip = (Fm.mk op2 k2 (o2, d2) a2 n2 c2 kids2).strip) = (decide (op = op2) && decide (k = k2) && roleEq (o, d) (o2, d2) && ev)) := Lib.hid (pB_of (by
    rw [strip_mk, strip_mk, Fo.mk.injEq, roleEq_eq, Bool.and_eq_true, Bool.and_eq_true, Bool.and_eq_true, decide_eq_true_eq, decide_eq_true_eq, decide_eq_true_eq, ← hev, pB_iff, and_assoc, and_assoc]))
  obtain ⟨e, he⟩ : ∃ v, roleEq (o, d) (o2, d2) = v := ⟨_, rfl⟩
  have heq := eqRole o d o2 d2
  rw [he] at HV heq
  obtain ⟨rv, hrv⟩ : ∃ v, pB ((Fm.mk op k (o, d) a n c kids).strip = (Fm.mk op2 k2 (o2, d2) a2 n2 c2 kids2).strip) = v := ⟨_, rfl⟩
  rw [hrv] at HV ⊢
  clear he hrv hf hg ih hev
  have st := Own.startOld W
  unfold fmV S
  simp only
  by_cases h1 : op = op2
  case neg =>
    have HF : Hid (rv = false) := Lib.hid (by rw [HV.out, decide_eq_false h1]; simp)
    have hob : (op == op2) = false := by simpa using h1
    clear HV
    (try simp only [nsl, Value.cells, unB] at st)
    (try clear hc); have hc := st.facts; (try simp only [nfl, nft, elI, elF, Nat.reduceAdd] at hc)
    go_enter Tryz.func11, Tryz.ntmps11
    go_wp2_with ((first
          | ((with_reducible refine wl_box ?_ (fun K hK => ?_)); rfl; refine owp_box (o := ⟨some 2, _, _, _, _, _⟩) rfl st ?_; apply Exists.intro; refine ⟨?_, ?_⟩; (focus (go_simp; try rfl)); (clear st; intro b2 w hb st; clear hb))
          | ((with_reducible refine wl_box ?_ (fun K hK => ?_)); rfl; refine owp_box (o := ⟨some 3, _, _, _, _, _⟩) rfl st ?_; apply Exists.intro; refine ⟨?_, ?_⟩; (focus (go_simp; try rfl)); (clear st; intro b3 w hb st; clear hb))); (try simp only [nsl, Value.cells, unB] at st); (try clear hc); have hc := st.facts; (try simp only [nfl, nft, elI, elF, Nat.reduceAdd] at hc))
    go_ret
    exact ⟨by rw [HF.out] <;> rfl, st.ext0⟩
  subst h1
  by_cases h2 : k = k2
  case neg =>
    have HF : Hid (rv = false) := Lib.hid (by rw [HV.out, decide_eq_false h2]; simp)
    have hkb : (k == k2) = false := by simpa using h2
    clear HV
    (try simp only [nsl, Value.cells, unB] at st)
    (try clear hc); have hc := st.facts; (try simp only [nfl, nft, elI, elF, Nat.reduceAdd] at hc)
    go_enter Tryz.func11, Tryz.ntmps11
    go_wp2_with ((first
          | ((with_reducible refine wl_box ?_ (fun K hK => ?_)); rfl; refine owp_box (o := ⟨some 2, _, _, _, _, _⟩) rfl st ?_; apply Exists.intro; refine ⟨?_, ?_⟩; (focus (go_simp; try rfl)); (clear st; intro b2 w hb st; clear hb))
          | ((with_reducible refine wl_box ?_ (fun K hK => ?_)); rfl; refine owp_box (o := ⟨some 3, _, _, _, _, _⟩) rfl st ?_; apply Exists.intro; refine ⟨?_, ?_⟩; (focus (go_simp; try rfl)); (clear st; intro b3 w hb st; clear hb))); (try simp only [nsl, Value.cells, unB] at st); (try clear hc); have hc := st.facts; (try simp only [nfl, nft, elI, elF, Nat.reduceAdd] at hc))
    go_ret
    exact ⟨by rw [HF.out] <;> rfl, st.ext0⟩
  subst h2
  cases e with
  | false =>
    have HF : Hid (rv = false) := Lib.hid (by rw [HV.out]; simp)
    clear HV
    (try simp only [nsl, Value.cells, unB] at st)
    (try clear hc); have hc := st.facts; (try simp only [nfl, nft, elI, elF, Nat.reduceAdd] at hc)
    go_enter Tryz.func11, Tryz.ntmps11
    go_wp2_with ((first
          | ((with_reducible refine wl_box ?_ (fun K hK => ?_)); rfl; refine owp_box (o := ⟨some 2, _, _, _, _, _⟩) rfl st ?_; apply Exists.intro; refine ⟨?_, ?_⟩; (focus (go_simp; try rfl)); (clear st; intro b2 w hb st; clear hb))
          | ((with_reducible refine wl_box ?_ (fun K hK => ?_)); rfl; refine owp_box (o := ⟨some 3, _, _, _, _, _⟩) rfl st ?_; apply Exists.intro; refine ⟨?_, ?_⟩; (focus (go_simp; try rfl)); (clear st; intro b3 w hb st; clear hb))); (try simp only [nsl, Value.cells, unB] at st); (try clear hc); have hc := st.facts; (try simp only [nfl, nft, elI, elF, Nat.reduceAdd] at hc))
    go_ret
    exact ⟨by rw [HF.out] <;> rfl, st.ext0⟩
  | true =>
    have HR : Hid (rv = ev) := Lib.hid (by rw [HV.out]; simp)
    clear HV
    by_cases hnn : n = n2
    case neg =>
      have hb : ¬ (n : Int) = (n2 : Int) := by omega
      have hb2 : ((n : Int) == (n2 : Int)) = false := by simp; omega
      have HF : Hid (rv = false) := Lib.hid (by rw [HR.out, ← HEV.out]; exact pB_f fun q => hnn (by
        have := congrArg List.length q
        rw [List.length_map, List.length_map, ← HN.out, ← HN2.out] at this
        exact this))
      clear hnn HR
      (try simp only [nsl, Value.cells, unB] at st)
      (try clear hc); have hc := st.facts; (try simp only [nfl, nft, elI, elF, Nat.reduceAdd] at hc)
      go_enter Tryz.func11, Tryz.ntmps11
      go_wp2_with ((first
            | ((with_reducible refine wl_box ?_ (fun K hK => ?_)); rfl; refine owp_box (o := ⟨some 2, _, _, _, _, _⟩) rfl st ?_; apply Exists.intro; refine ⟨?_, ?_⟩; (focus (go_simp; try rfl)); (clear st; intro b2 w hb st; clear hb))
            | ((with_reducible refine wl_box ?_ (fun K hK => ?_)); rfl; refine owp_box (o := ⟨some 3, _, _, _, _, _⟩) rfl st ?_; apply Exists.intro; refine ⟨?_, ?_⟩; (focus (go_simp; try rfl)); (clear st; intro b3 w hb st; clear hb))); (try simp only [nsl, Value.cells, unB] at st); (try clear hc); have hc := st.facts; (try simp only [nfl, nft, elI, elF, Nat.reduceAdd] at hc))
      go_ret
      exact ⟨by rw [HF.out] <;> rfl, st.ext0⟩
    subst hnn
    (try simp only [nsl, Value.cells, unB] at st)
    (try clear hc); have hc := st.facts; (try simp only [nfl, nft, elI, elF, Nat.reduceAdd] at hc)
    go_enter Tryz.func11, Tryz.ntmps11
    go_wp2_with ((first
          | ((with_reducible refine wl_box ?_ (fun K hK => ?_)); rfl; refine owp_box (o := ⟨some 2, _, _, _, _, _⟩) rfl st ?_; apply Exists.intro; refine ⟨?_, ?_⟩; (focus (go_simp; try rfl)); (clear st; intro b2 w hb st; clear hb))
          | ((with_reducible refine wl_box ?_ (fun K hK => ?_)); rfl; refine owp_box (o := ⟨some 3, _, _, _, _, _⟩) rfl st ?_; apply Exists.intro; refine ⟨?_, ?_⟩; (focus (go_simp; try rfl)); (clear st; intro b3 w hb st; clear hb))); (try simp only [nsl, Value.cells, unB] at st); (try clear hc); have hc := st.facts; (try simp only [nfl, nft, elI, elF, Nat.reduceAdd] at hc))
    go_loopg [37] n (fun q i wr => ∃ (j : Nat), j ≤ n ∧ q = n - j ∧ i = .int .i64 (j : Int) ∧ Hid ((kids.take j).map Fm.strip = (kids2.take j).map Fm.strip) ∧ Own (fun _ => False) (fun _ => True) W [oldI W, blkI b2 [.int .i64 op, .int .i64 k, .string ⟨o.toArray⟩, .string ⟨d.toArray⟩, .slice a n c], blkI b3 [.int .i64 op, .int .i64 k, .string ⟨o2.toArray⟩, .string ⟨d2.toArray⟩, .slice a2 n c2]] wr)
    case atStart => exact ⟨0, by omega, by omega, rfl, Lib.hid (by simp), st⟩
    case round =>
      obtain ⟨j, hj, rfl, rfl, HT, st'⟩ := hrel
      clear st hc
      have st := st'
      clear st'
      by_cases hjn : j < n
      · obtain ⟨b, off, ha, hcell⟩ := H.out.fm (by omega)
        obtain ⟨b4, off2, ha2, hcell2⟩ := H2.out.fm (by omega)
        have hjl : j < kids.length := by have := HN.out; omega
        have hjl2 : j < kids2.length := by have := HN2.out; omega
        have hgt := List.getElem?_eq_getElem hjl
        have hgt2 := List.getElem?_eq_getElem hjl2
        have hx := HP.out kids[j] (List.getElem_mem hjl) kids2[j] (List.getElem_mem hjl2)
        have hst := map_strip_snoc2 hjl hjl2 HT.out
        have hat := map_strip_at (xs := kids) (ys := kids2) hjl hjl2
        generalize kids[j] = x at *
        generalize kids2[j] = y at *
        have HX := Lib.hid (And.intro hst hat)
        clear hst hat hjl hjl2
        obtain ⟨sx, hsx⟩ : ∃ v, x.strip = v := ⟨_, rfl⟩
        obtain ⟨sy, hsy⟩ : ∃ v, y.strip = v := ⟨_, rfl⟩
        rw [hsx, hsy] at hx HX
        obtain ⟨v, hv⟩ : ∃ v, pB (sx = sy) = v := ⟨_, rfl⟩
        rw [hv] at hx
        have HPV := Lib.hid hv
        clear hsx hsy hv
        obtain ⟨op5, k5, ⟨o5, d5⟩, a5, n5, c5, kids5⟩ := x
        obtain ⟨op6, k6, ⟨o6, d6⟩, a6, n6, c6, kids6⟩ := y
        obtain ⟨r0, r1, r2, r3, r4⟩ := hcell j op5 k5 (o5, d5) a5 n5 c5 kids5 hgt
        obtain ⟨s0, s1, s2, s3, s4⟩ := hcell2 j op6 k6 (o6, d6) a6 n6 c6 kids6 hgt2
        clear hcell hgt hcell2 hgt2
        subst ha ha2
        unfold fmV S at hx
        unfold S at r2 r3 s2 s3
        simp only at hx r2 r3 s2 s3
        have HQ := Lib.hid hx
        clear hx
        replace st := st.addEl (i := 0) get0 b (off + j * 5) (.int .i64 op5) [(off + j * 5 + 1, .int .i64 k5), (off + j * 5 + 2, .string ⟨o5.toArray⟩), (off + j * 5 + 3, .string ⟨d5.toArray⟩), (off + j * 5 + 4, .slice a5 n5 c5)] ⟨r0, r1, r2, r3, r4, trivial⟩
        simp only [List.cons_append, List.nil_append] at st
        replace st := st.addEl (i := 0) get0 b4 (off2 + j * 5) (.int .i64 op6) [(off2 + j * 5 + 1, .int .i64 k6), (off2 + j * 5 + 2, .string ⟨o6.toArray⟩), (off2 + j * 5 + 3, .string ⟨d6.toArray⟩), (off2 + j * 5 + 4, .slice a6 n6 c6)] ⟨s0, s1, s2, s3, s4, trivial⟩
        simp only [List.cons_append, List.nil_append] at st
        clear r0 r1 r2 r3 r4 s0 s1 s2 s3 s4
        (try simp only [nsl, Value.cells, unB] at st)
        (try clear hc); have hc := st.facts; (try simp only [nfl, nft, elI, elF, Nat.reduceAdd] at hc)
        go_wp2_with ((first
              | ((with_reducible refine wl_box ?_ (fun K hK => ?_)); rfl; refine owp_box (o := ⟨some 2, _, _, _, _, _⟩) rfl st ?_; apply Exists.intro; refine ⟨?_, ?_⟩; (focus (go_simp; try rfl)); (clear st; intro b2 w hb st; clear hb))
              | ((with_reducible refine wl_box ?_ (fun K hK => ?_)); rfl; refine owp_box (o := ⟨some 3, _, _, _, _, _⟩) rfl st ?_; apply Exists.intro; refine ⟨?_, ?_⟩; (focus (go_simp; try rfl)); (clear st; intro b3 w hb st; clear hb))); (try simp only [nsl, Value.cells, unB] at st); (try clear hc); have hc := st.facts; (try simp only [nfl, nft, elI, elF, Nat.reduceAdd] at hc))
        cases v with
        | false =>
          have HF : Hid (rv = false) := Lib.hid (by
            rw [HR.out, ← HEV.out]
            refine pB_f fun q => ?_
            have h1 := HPV.out
            rw [pB_t (HX.out.2 q)] at h1
            cases h1)
          refine Rg4.wp_region4_eq #[0, 1, 0, 7, 15, 0, 32, 0, 224, 480, 1023, 2047] [10] [1, 4, 6, 9] (fun _ => True) [0, 1, 2, 3, 4, 5, 6, 7, 8, 9, 10, 11] (by kernel_rfl) (by kernel_rfl) (by kernel_rfl) (by kernel_rfl) (show Rg4.PB _ by repeat (first | with_reducible exact Rg4.pb_body | with_reducible exact Rg4.pb_bodyD rfl | with_reducible refine Rg4.pb_then ?_ | with_reducible refine Rg4.pb_inBlock ?_ | with_reducible refine Rg4.pb_noGoto ?_ | with_reducible assumption)) (trivial) ?_
          replace st := st.drew
          change Rg4.wp4 _ _ _ _ _ _ _ _ _ (World.drew _) _ _
          generalize World.drew _ = w at st ⊢
          (try clear hc); have hc := st.facts; (try simp only [nfl, nft, elI, elF, Nat.reduceAdd] at hc)
          (refine Rg4.w4_any (Rg4.want_none rfl) rfl ?_; apply Exists.intro; refine ⟨fun w' => ?_, ?_⟩; (focus (first | (go_simp; done) | (go_simp; first | rfl | (rw [if_neg] <;> first | rfl | omega) | (rw [if_pos] <;> first | rfl | omega)))); (try simp only [Rg4.nrm]))
          (refine Rg4.w4_read (Rg4.want_none rfl) rfl rfl ?_; apply Exists.intro; refine ⟨fun w' hw' hcl' => ?_, ?_⟩; focus (subst hw'; (focus (first | (go_simp; done) | (go_simp; first | rfl | (rw [if_neg] <;> first | rfl | omega) | (rw [if_pos] <;> first | rfl | omega))))); (try simp only [Rg4.nrm]))
          iterate 2 (refine Rg4.w4_any (Rg4.want_none rfl) rfl ?_; apply Exists.intro; refine ⟨fun w' => ?_, ?_⟩; (focus (first | (go_simp; done) | (go_simp; first | rfl | (rw [if_neg] <;> first | rfl | omega) | (rw [if_pos] <;> first | rfl | omega)))); (try simp only [Rg4.nrm]))
          (refine Rg4.w4_read (Rg4.want_none rfl) rfl rfl ?_; apply Exists.intro; refine ⟨fun w' hw' hcl' => ?_, ?_⟩; focus (subst hw'; (focus (first | (go_simp; done) | (go_simp; first | rfl | (rw [if_neg] <;> first | rfl | omega) | (rw [if_pos] <;> first | rfl | omega))))); (try simp only [Rg4.nrm]))
          (refine Rg4.w4_any (Rg4.want_none rfl) rfl ?_; apply Exists.intro; refine ⟨fun w' => ?_, ?_⟩; (focus (first | (go_simp; done) | (go_simp; first | rfl | (rw [if_neg] <;> first | rfl | omega) | (rw [if_pos] <;> first | rfl | omega)))); (try simp only [Rg4.nrm]))
          (refine Rg4.w4_read (Rg4.want_none rfl) rfl rfl ?_; apply Exists.intro; refine ⟨fun w' hw' hcl' => ?_, ?_⟩; focus (subst hw'; (focus (first | (go_simp; done) | (go_simp; first | rfl | (rw [if_neg] <;> first | rfl | omega) | (rw [if_pos] <;> first | rfl | omega))))); (try simp only [Rg4.nrm]))
          iterate 2 (refine Rg4.w4_any (Rg4.want_none rfl) rfl ?_; apply Exists.intro; refine ⟨fun w' => ?_, ?_⟩; (focus (first | (go_simp; done) | (go_simp; first | rfl | (rw [if_neg] <;> first | rfl | omega) | (rw [if_pos] <;> first | rfl | omega)))); (try simp only [Rg4.nrm]))
          (refine Rg4.w4_read (Rg4.want_none rfl) rfl rfl ?_; apply Exists.intro; refine ⟨fun w' hw' hcl' => ?_, ?_⟩; focus (subst hw'; (focus (first | (go_simp; done) | (go_simp; first | rfl | (rw [if_neg] <;> first | rfl | omega) | (rw [if_pos] <;> first | rfl | omega))))); (try simp only [Rg4.nrm]))
          refine Rg4.w4_bar (Rg4.want_none rfl) rfl (fun w' hw' hcl _ K hK => ?_)
          subst hw'
          go_wp2_with fail
          refine (HQ.out _ st.ext0).mono ?_
          rintro en w ⟨rfl, hx⟩
          replace st := st.ext hx
          clear hx
          (try simp only [nsl, Value.cells, unB] at st)
          (try clear hc); have hc := st.facts; (try simp only [nfl, nft, elI, elF, Nat.reduceAdd] at hc)
          refine hK _ _ ⟨trivial, ?_⟩
          clear hK
          (try simp only [Rg4.nrm])
          (refine Rg4.w4_any (Rg4.want_none rfl) rfl ?_; apply Exists.intro; refine ⟨fun w' => ?_, ?_⟩; (focus (first | (go_simp; done) | (go_simp; first | rfl | (rw [if_neg] <;> first | rfl | omega) | (rw [if_pos] <;> first | rfl | omega)))); (try simp only [Rg4.nrm]))
          refine Rg4.w4_nil (fun w' hw' hcl' _ => ?_); subst hw'; clear hcl'
          go_wp2_with fail
          go_ret
          exact ⟨by rw [HF.out] <;> rfl, st.ext0⟩
        | true =>
          have HF : Hid ((kids.take (j + 1)).map Fm.strip = (kids2.take (j + 1)).map Fm.strip) := Lib.hid (HX.out.1 (pB_iff.1 HPV.out))
          refine Rg4.wp_region4_eq #[0, 1, 0, 7, 15, 0, 32, 0, 224, 480, 1023, 2047] [10] [1, 4, 6, 9] (fun _ => True) [0, 1, 2, 3, 4, 5, 6, 7, 8, 9, 10, 11] (by kernel_rfl) (by kernel_rfl) (by kernel_rfl) (by kernel_rfl) (show Rg4.PB _ by repeat (first | with_reducible exact Rg4.pb_body | with_reducible exact Rg4.pb_bodyD rfl | with_reducible refine Rg4.pb_then ?_ | with_reducible refine Rg4.pb_inBlock ?_ | with_reducible refine Rg4.pb_noGoto ?_ | with_reducible assumption)) (trivial) ?_
          replace st := st.drew
          change Rg4.wp4 _ _ _ _ _ _ _ _ _ (World.drew _) _ _
          generalize World.drew _ = w at st ⊢
          (try clear hc); have hc := st.facts; (try simp only [nfl, nft, elI, elF, Nat.reduceAdd] at hc)
          (refine Rg4.w4_any (Rg4.want_none rfl) rfl ?_; apply Exists.intro; refine ⟨fun w' => ?_, ?_⟩; (focus (first | (go_simp; done) | (go_simp; first | rfl | (rw [if_neg] <;> first | rfl | omega) | (rw [if_pos] <;> first | rfl | omega)))); (try simp only [Rg4.nrm]))
          (refine Rg4.w4_read (Rg4.want_none rfl) rfl rfl ?_; apply Exists.intro; refine ⟨fun w' hw' hcl' => ?_, ?_⟩; focus (subst hw'; (focus (first | (go_simp; done) | (go_simp; first | rfl | (rw [if_neg] <;> first | rfl | omega) | (rw [if_pos] <;> first | rfl | omega))))); (try simp only [Rg4.nrm]))
          iterate 2 (refine Rg4.w4_any (Rg4.want_none rfl) rfl ?_; apply Exists.intro; refine ⟨fun w' => ?_, ?_⟩; (focus (first | (go_simp; done) | (go_simp; first | rfl | (rw [if_neg] <;> first | rfl | omega) | (rw [if_pos] <;> first | rfl | omega)))); (try simp only [Rg4.nrm]))
          (refine Rg4.w4_read (Rg4.want_none rfl) rfl rfl ?_; apply Exists.intro; refine ⟨fun w' hw' hcl' => ?_, ?_⟩; focus (subst hw'; (focus (first | (go_simp; done) | (go_simp; first | rfl | (rw [if_neg] <;> first | rfl | omega) | (rw [if_pos] <;> first | rfl | omega))))); (try simp only [Rg4.nrm]))
          (refine Rg4.w4_any (Rg4.want_none rfl) rfl ?_; apply Exists.intro; refine ⟨fun w' => ?_, ?_⟩; (focus (first | (go_simp; done) | (go_simp; first | rfl | (rw [if_neg] <;> first | rfl | omega) | (rw [if_pos] <;> first | rfl | omega)))); (try simp only [Rg4.nrm]))
          (refine Rg4.w4_read (Rg4.want_none rfl) rfl rfl ?_; apply Exists.intro; refine ⟨fun w' hw' hcl' => ?_, ?_⟩; focus (subst hw'; (focus (first | (go_simp; done) | (go_simp; first | rfl | (rw [if_neg] <;> first | rfl | omega) | (rw [if_pos] <;> first | rfl | omega))))); (try simp only [Rg4.nrm]))
          iterate 2 (refine Rg4.w4_any (Rg4.want_none rfl) rfl ?_; apply Exists.intro; refine ⟨fun w' => ?_, ?_⟩; (focus (first | (go_simp; done) | (go_simp; first | rfl | (rw [if_neg] <;> first | rfl | omega) | (rw [if_pos] <;> first | rfl | omega)))); (try simp only [Rg4.nrm]))
          (refine Rg4.w4_read (Rg4.want_none rfl) rfl rfl ?_; apply Exists.intro; refine ⟨fun w' hw' hcl' => ?_, ?_⟩; focus (subst hw'; (focus (first | (go_simp; done) | (go_simp; first | rfl | (rw [if_neg] <;> first | rfl | omega) | (rw [if_pos] <;> first | rfl | omega))))); (try simp only [Rg4.nrm]))
          refine Rg4.w4_bar (Rg4.want_none rfl) rfl (fun w' hw' hcl _ K hK => ?_)
          subst hw'
          go_wp2_with fail
          refine (HQ.out _ st.ext0).mono ?_
          rintro en w ⟨rfl, hx⟩
          replace st := st.ext hx
          clear hx
          (try simp only [nsl, Value.cells, unB] at st)
          (try clear hc); have hc := st.facts; (try simp only [nfl, nft, elI, elF, Nat.reduceAdd] at hc)
          refine hK _ _ ⟨trivial, ?_⟩
          clear hK
          (try simp only [Rg4.nrm])
          (refine Rg4.w4_any (Rg4.want_none rfl) rfl ?_; apply Exists.intro; refine ⟨fun w' => ?_, ?_⟩; (focus (first | (go_simp; done) | (go_simp; first | rfl | (rw [if_neg] <;> first | rfl | omega) | (rw [if_pos] <;> first | rfl | omega)))); (try simp only [Rg4.nrm]))
          refine Rg4.w4_nil (fun w' hw' hcl' _ => ?_); subst hw'; clear hcl'
          go_wp2_with fail
          have st' := st.keep [0, 1, 2] (by decide) (by simp)
          go_roundg (n - (j + 1))
          case measure => omega
          case rel => exact ⟨j + 1, by omega, by omega, by go_num, HF, by simpa [pick] using st'⟩
      · obtain rfl : j = n := by omega
        have HF : Hid (rv = true) := Lib.hid (by
          rw [HR.out, ← HEV.out]
          refine pB_t ?_
          have := HT.out
          rw [List.take_of_length_le (by have := HN.out; omega), List.take_of_length_le (by have := HN2.out; omega)] at this
          exact this)
        (try simp only [nsl, Value.cells, unB] at st)
        (try clear hc); have hc := st.facts; (try simp only [nfl, nft, elI, elF, Nat.reduceAdd] at hc)
        go_wp2_with fail
        go_ret
        exact ⟨by rw [HF.out] <;> rfl, st.ext0⟩
end Go.Proofs.YtnhilgciddcahaaGreatDoor

namespace Go.Proofs.YtnhilgciddcahaaGreatDoor
set_option linter.unusedSimpArgs false
set_option linter.unusedVariables false
open Go Go.RowKit
theorem fmOk0 (W : World) (op k : Int) : FmOk W (.mk op k ([], []) none 0 0 []) := FmIn.mk ⟨Nat.le_refl _, by simp [maxLen]⟩ (Fl.nil _ _) (fun h => by omega) (by simp)
theorem text_is {g : Fm} {f : Fo} {t : List UInt8} {W : World} (hs : g.strip = f) (h : FmOk W g) (hn : g.strip.nodes ≤ 100000) (hl : FoL 100000 g.strip) (ht : (if foR f = true then f.text else []) = t) : Calls Tryz.prog 10 #[fmV g] W fun e w' => e = .returned (S t) ∧ Ext W w' := by
  have := text_any g W h (by omega) hl
  rw [hs, ht] at this
  exact this
set_option maxRecDepth 100000 in
set_option maxHeartbeats 4000000 in
theorem first12_any (W : World) (he : ErrV W) : Calls Tryz.prog 4 #[] W fun e w' => e = .returned (.bool true) ∧ Ext W w' := by
  have HE := Lib.hid he
  clear he
  have st := Own.startOld W
  (try simp only [nsl, Value.cells, unB] at st)
  (try clear hc); have hc := st.facts; (try simp only [nfl, nft, Nat.reduceAdd] at hc)
  go_enter Tryz.func4, Tryz.ntmps4
  go_wp2_with ((first
        | ((with_reducible refine wl_alloc ?_ (fun K hK => ?_)); rfl; refine owp_alloc (o := ⟨some 1, _, _, _, _, _⟩) rfl st ?_; apply Exists.intro; apply Exists.intro; refine ⟨?_, ?_⟩; (focus (first | (go_simp; done) | (go_simp; rfl))); (clear st; intro b1 w hb st; clear hb))
        | ((with_reducible refine wl_store ?_ (fun K hK => ?_)); rfl; refine owp_store rfl st ?_; apply Exists.intro; apply Exists.intro; refine ⟨?_, ?_, ?_⟩; (focus (go_simp; try rfl)); (focus (go_simp; try rfl)); (first | (with_reducible refine ⟨0, _, _, _, _, get0, rfl, rfl, ?_, ?_, ?_, ?_⟩) | (with_reducible refine ⟨1, _, _, _, _, get1, rfl, rfl, ?_, ?_, ?_, ?_⟩) | (with_reducible refine ⟨2, _, _, _, _, get2, rfl, rfl, ?_, ?_, ?_, ?_⟩) | (with_reducible refine ⟨3, _, _, _, _, get3, rfl, rfl, ?_, ?_, ?_, ?_⟩) | (with_reducible refine ⟨4, _, _, _, _, get4, rfl, rfl, ?_, ?_, ?_, ?_⟩) | (with_reducible refine ⟨5, _, _, _, _, get5, rfl, rfl, ?_, ?_, ?_, ?_⟩) | (with_reducible refine ⟨6, _, _, _, _, get6, rfl, rfl, ?_, ?_, ?_, ?_⟩) | (with_reducible refine ⟨7, _, _, _, _, get7, rfl, rfl, ?_, ?_, ?_, ?_⟩)); (kernel_rfl); (simp [Value.cells]); (rfl); (clear st; intro w st))
        | ((with_reducible refine wl_alloc ?_ (fun K hK => ?_)); rfl; refine owp_alloc (o := ⟨some 3, _, _, _, _, _⟩) rfl st ?_; apply Exists.intro; apply Exists.intro; refine ⟨?_, ?_⟩; (focus (first | (go_simp; done) | (go_simp; rfl))); (clear st; intro b3 w hb st; clear hb))
        | ((with_reducible refine wl_alloc ?_ (fun K hK => ?_)); rfl; refine owp_alloc (o := ⟨some 5, _, _, _, _, _⟩) rfl st ?_; apply Exists.intro; apply Exists.intro; refine ⟨?_, ?_⟩; (focus (first | (go_simp; done) | (go_simp; rfl))); (clear st; intro b5 w hb st; clear hb))); (try simp only [nsl, Value.cells, unB] at st); (try clear hc); have hc := st.facts; (try simp only [nfl, nft, Nat.reduceAdd] at hc))
  obtain ⟨fr', al', st', back⟩ := st.sub [0] (by decide) (by simp)
  (try simp only [nsl, Value.cells, unB] at st')
  refine (parse_c (s := txt1) (by decide) HE.out st').mono ?_
  clear st'
  rintro en w ⟨g1, v1, rfl, hp1, _, hl1, hn1, st'⟩
  replace st := back _ _ (by simp) st'
  clear back st'
  (try simp only [nsl, Value.cells, unB] at st)
  (try clear hc); have hc := st.facts; (try simp only [nfl, nft, Nat.reduceAdd] at hc)
  obtain ⟨hs1, rfl⟩ := pIs1 hp1
  have HT1 := Lib.hid (fun W' (h : FmOk W' g1) => text_is (t := back1) hs1 h hn1 hl1 (by rw [if_pos foR1, told1]))
  clear hp1 hl1 hn1 hs1
  obtain ⟨x1, hx1⟩ : ∃ x, g1 = x := ⟨_, rfl⟩
  obtain ⟨op', k', ⟨o', d'⟩, a', n', c', kids'⟩ := g1
  have HV : Hid (fmV x1 = .agg #[.int .i64 op', .int .i64 k', .string ⟨o'.toArray⟩, .string ⟨d'.toArray⟩, .slice a' n' c']) := Lib.hid (by rw [← hx1]; rfl)
  rw [hx1] at st HT1 ⊢
  rw [HV.out] at HT1 ⊢
  unfold back1 S at HT1
  clear hx1 HV
  (try simp only [nsl, Value.cells, unB] at st)
  (try clear hc); have hc := st.facts; (try simp only [nfl, nft, Nat.reduceAdd] at hc)
  go_wp2_with ((first
        | ((with_reducible refine wl_alloc ?_ (fun K hK => ?_)); rfl; refine owp_alloc (o := ⟨some 1, _, _, _, _, _⟩) rfl st ?_; apply Exists.intro; apply Exists.intro; refine ⟨?_, ?_⟩; (focus (first | (go_simp; done) | (go_simp; rfl))); (clear st; intro b1 w hb st; clear hb))
        | ((with_reducible refine wl_store ?_ (fun K hK => ?_)); rfl; refine owp_store rfl st ?_; apply Exists.intro; apply Exists.intro; refine ⟨?_, ?_, ?_⟩; (focus (go_simp; try rfl)); (focus (go_simp; try rfl)); (first | (with_reducible refine ⟨0, _, _, _, _, get0, rfl, rfl, ?_, ?_, ?_, ?_⟩) | (with_reducible refine ⟨1, _, _, _, _, get1, rfl, rfl, ?_, ?_, ?_, ?_⟩) | (with_reducible refine ⟨2, _, _, _, _, get2, rfl, rfl, ?_, ?_, ?_, ?_⟩) | (with_reducible refine ⟨3, _, _, _, _, get3, rfl, rfl, ?_, ?_, ?_, ?_⟩) | (with_reducible refine ⟨4, _, _, _, _, get4, rfl, rfl, ?_, ?_, ?_, ?_⟩) | (with_reducible refine ⟨5, _, _, _, _, get5, rfl, rfl, ?_, ?_, ?_, ?_⟩) | (with_reducible refine ⟨6, _, _, _, _, get6, rfl, rfl, ?_, ?_, ?_, ?_⟩) | (with_reducible refine ⟨7, _, _, _, _, get7, rfl, rfl, ?_, ?_, ?_, ?_⟩)); (kernel_rfl); (simp [Value.cells]); (rfl); (clear st; intro w st))
        | ((with_reducible refine wl_alloc ?_ (fun K hK => ?_)); rfl; refine owp_alloc (o := ⟨some 3, _, _, _, _, _⟩) rfl st ?_; apply Exists.intro; apply Exists.intro; refine ⟨?_, ?_⟩; (focus (first | (go_simp; done) | (go_simp; rfl))); (clear st; intro b3 w hb st; clear hb))
        | ((with_reducible refine wl_alloc ?_ (fun K hK => ?_)); rfl; refine owp_alloc (o := ⟨some 5, _, _, _, _, _⟩) rfl st ?_; apply Exists.intro; apply Exists.intro; refine ⟨?_, ?_⟩; (focus (first | (go_simp; done) | (go_simp; rfl))); (clear st; intro b5 w hb st; clear hb))); (try simp only [nsl, Value.cells, unB] at st); (try clear hc); have hc := st.facts; (try simp only [nfl, nft, Nat.reduceAdd] at hc))
  obtain ⟨fr', al', st', back⟩ := st.sub [0] (by decide) (by simp)
  (try simp only [nsl, Value.cells, unB] at st')
  refine (parse_c (s := txt2) (by decide) HE.out st').mono ?_
  clear st'
  rintro en w ⟨g2, v2, rfl, hp2, _, _, _, st'⟩
  replace st := back _ _ (by simp) st'
  clear back st'
  (try simp only [nsl, Value.cells, unB] at st)
  (try clear hc); have hc := st.facts; (try simp only [nfl, nft, Nat.reduceAdd] at hc)
  obtain ⟨hs2, rfl⟩ := pIs2 hp2
  clear hp2 hs2
  obtain ⟨x2, hx2⟩ : ∃ x, g2 = x := ⟨_, rfl⟩
  obtain ⟨op2, k2, ⟨o2, d2⟩, a2, n2, c2, kids2⟩ := g2
  have HV : Hid (fmV x2 = .agg #[.int .i64 op2, .int .i64 k2, .string ⟨o2.toArray⟩, .string ⟨d2.toArray⟩, .slice a2 n2 c2]) := Lib.hid (by rw [← hx2]; rfl)
  rw [hx2] at st ⊢
  rw [HV.out]
  clear hx2 HV
  (try simp only [nsl, Value.cells, unB] at st)
  (try clear hc); have hc := st.facts; (try simp only [nfl, nft, Nat.reduceAdd] at hc)
  go_wp2_with ((first
        | ((with_reducible refine wl_alloc ?_ (fun K hK => ?_)); rfl; refine owp_alloc (o := ⟨some 1, _, _, _, _, _⟩) rfl st ?_; apply Exists.intro; apply Exists.intro; refine ⟨?_, ?_⟩; (focus (first | (go_simp; done) | (go_simp; rfl))); (clear st; intro b1 w hb st; clear hb))
        | ((with_reducible refine wl_store ?_ (fun K hK => ?_)); rfl; refine owp_store rfl st ?_; apply Exists.intro; apply Exists.intro; refine ⟨?_, ?_, ?_⟩; (focus (go_simp; try rfl)); (focus (go_simp; try rfl)); (first | (with_reducible refine ⟨0, _, _, _, _, get0, rfl, rfl, ?_, ?_, ?_, ?_⟩) | (with_reducible refine ⟨1, _, _, _, _, get1, rfl, rfl, ?_, ?_, ?_, ?_⟩) | (with_reducible refine ⟨2, _, _, _, _, get2, rfl, rfl, ?_, ?_, ?_, ?_⟩) | (with_reducible refine ⟨3, _, _, _, _, get3, rfl, rfl, ?_, ?_, ?_, ?_⟩) | (with_reducible refine ⟨4, _, _, _, _, get4, rfl, rfl, ?_, ?_, ?_, ?_⟩) | (with_reducible refine ⟨5, _, _, _, _, get5, rfl, rfl, ?_, ?_, ?_, ?_⟩) | (with_reducible refine ⟨6, _, _, _, _, get6, rfl, rfl, ?_, ?_, ?_, ?_⟩) | (with_reducible refine ⟨7, _, _, _, _, get7, rfl, rfl, ?_, ?_, ?_, ?_⟩)); (kernel_rfl); (simp [Value.cells]); (rfl); (clear st; intro w st))
        | ((with_reducible refine wl_alloc ?_ (fun K hK => ?_)); rfl; refine owp_alloc (o := ⟨some 3, _, _, _, _, _⟩) rfl st ?_; apply Exists.intro; apply Exists.intro; refine ⟨?_, ?_⟩; (focus (first | (go_simp; done) | (go_simp; rfl))); (clear st; intro b3 w hb st; clear hb))
        | ((with_reducible refine wl_alloc ?_ (fun K hK => ?_)); rfl; refine owp_alloc (o := ⟨some 5, _, _, _, _, _⟩) rfl st ?_; apply Exists.intro; apply Exists.intro; refine ⟨?_, ?_⟩; (focus (first | (go_simp; done) | (go_simp; rfl))); (clear st; intro b5 w hb st; clear hb))); (try simp only [nsl, Value.cells, unB] at st); (try clear hc); have hc := st.facts; (try simp only [nfl, nft, Nat.reduceAdd] at hc))
  obtain ⟨fr', al', st', back⟩ := st.sub [0] (by decide) (by simp)
  (try simp only [nsl, Value.cells, unB] at st')
  refine (parse_c (s := txt3) (by decide) HE.out st').mono ?_
  clear st'
  rintro en w ⟨g3, v3, rfl, hp3, _, hl3, hn3, st'⟩
  replace st := back _ _ (by simp) st'
  clear back st'
  (try simp only [nsl, Value.cells, unB] at st)
  (try clear hc); have hc := st.facts; (try simp only [nfl, nft, Nat.reduceAdd] at hc)
  obtain ⟨hs3, rfl⟩ := pIs3 hp3
  have HT3 := Lib.hid (fun W' (h : FmOk W' g3) => text_is (t := back3) hs3 h hn3 hl3 (by rw [if_pos foR3, told3]))
  clear hp3 hl3 hn3 hs3
  obtain ⟨x3, hx3⟩ : ∃ x, g3 = x := ⟨_, rfl⟩
  obtain ⟨op3, k3, ⟨o3, d3⟩, a3, n3, c3, kids3⟩ := g3
  have HV : Hid (fmV x3 = .agg #[.int .i64 op3, .int .i64 k3, .string ⟨o3.toArray⟩, .string ⟨d3.toArray⟩, .slice a3 n3 c3]) := Lib.hid (by rw [← hx3]; rfl)
  rw [hx3] at st HT3 ⊢
  rw [HV.out] at HT3 ⊢
  unfold back3 S at HT3
  clear hx3 HV
  have HT0 := Lib.hid (fun W' => text_is (g := .mk 0 0 ([], []) none 0 0 []) (f := zeroF) (t := []) (W := W') rfl (fmOk0 W' 0 0) (by decide) (FoL.mk (by simp) (by simp) (by simp [stripL])) (by rw [if_neg (by rw [foRz]; decide)]))
  unfold fmV S at HT0
  simp only at HT0
  (try simp only [nsl, Value.cells, unB] at st)
  (try clear hc); have hc := st.facts; (try simp only [nfl, nft, Nat.reduceAdd] at hc)
  go_wp2_with ((first
        | ((with_reducible refine wl_alloc ?_ (fun K hK => ?_)); rfl; refine owp_alloc (o := ⟨some 1, _, _, _, _, _⟩) rfl st ?_; apply Exists.intro; apply Exists.intro; refine ⟨?_, ?_⟩; (focus (first | (go_simp; done) | (go_simp; rfl))); (clear st; intro b1 w hb st; clear hb))
        | ((with_reducible refine wl_store ?_ (fun K hK => ?_)); rfl; refine owp_store rfl st ?_; apply Exists.intro; apply Exists.intro; refine ⟨?_, ?_, ?_⟩; (focus (go_simp; try rfl)); (focus (go_simp; try rfl)); (first | (with_reducible refine ⟨0, _, _, _, _, get0, rfl, rfl, ?_, ?_, ?_, ?_⟩) | (with_reducible refine ⟨1, _, _, _, _, get1, rfl, rfl, ?_, ?_, ?_, ?_⟩) | (with_reducible refine ⟨2, _, _, _, _, get2, rfl, rfl, ?_, ?_, ?_, ?_⟩) | (with_reducible refine ⟨3, _, _, _, _, get3, rfl, rfl, ?_, ?_, ?_, ?_⟩) | (with_reducible refine ⟨4, _, _, _, _, get4, rfl, rfl, ?_, ?_, ?_, ?_⟩) | (with_reducible refine ⟨5, _, _, _, _, get5, rfl, rfl, ?_, ?_, ?_, ?_⟩) | (with_reducible refine ⟨6, _, _, _, _, get6, rfl, rfl, ?_, ?_, ?_, ?_⟩) | (with_reducible refine ⟨7, _, _, _, _, get7, rfl, rfl, ?_, ?_, ?_, ?_⟩)); (kernel_rfl); (simp [Value.cells]); (rfl); (clear st; intro w st))
        | ((with_reducible refine wl_alloc ?_ (fun K hK => ?_)); rfl; refine owp_alloc (o := ⟨some 3, _, _, _, _, _⟩) rfl st ?_; apply Exists.intro; apply Exists.intro; refine ⟨?_, ?_⟩; (focus (first | (go_simp; done) | (go_simp; rfl))); (clear st; intro b3 w hb st; clear hb))
        | ((with_reducible refine wl_alloc ?_ (fun K hK => ?_)); rfl; refine owp_alloc (o := ⟨some 5, _, _, _, _, _⟩) rfl st ?_; apply Exists.intro; apply Exists.intro; refine ⟨?_, ?_⟩; (focus (first | (go_simp; done) | (go_simp; rfl))); (clear st; intro b5 w hb st; clear hb))); (try simp only [nsl, Value.cells, unB] at st); (try clear hc); have hc := st.facts; (try simp only [nfl, nft, Nat.reduceAdd] at hc))
  refine (HT1.out _ (st.fm (i := 1) get1)).mono ?_
  rintro en w ⟨rfl, hx⟩
  replace st := st.ext hx
  clear hx
  (try clear hc); have hc := st.facts; (try simp only [nfl, nft, Nat.reduceAdd] at hc)
  go_wp2_with ((first
        | ((with_reducible refine wl_alloc ?_ (fun K hK => ?_)); rfl; refine owp_alloc (o := ⟨some 1, _, _, _, _, _⟩) rfl st ?_; apply Exists.intro; apply Exists.intro; refine ⟨?_, ?_⟩; (focus (first | (go_simp; done) | (go_simp; rfl))); (clear st; intro b1 w hb st; clear hb))
        | ((with_reducible refine wl_store ?_ (fun K hK => ?_)); rfl; refine owp_store rfl st ?_; apply Exists.intro; apply Exists.intro; refine ⟨?_, ?_, ?_⟩; (focus (go_simp; try rfl)); (focus (go_simp; try rfl)); (first | (with_reducible refine ⟨0, _, _, _, _, get0, rfl, rfl, ?_, ?_, ?_, ?_⟩) | (with_reducible refine ⟨1, _, _, _, _, get1, rfl, rfl, ?_, ?_, ?_, ?_⟩) | (with_reducible refine ⟨2, _, _, _, _, get2, rfl, rfl, ?_, ?_, ?_, ?_⟩) | (with_reducible refine ⟨3, _, _, _, _, get3, rfl, rfl, ?_, ?_, ?_, ?_⟩) | (with_reducible refine ⟨4, _, _, _, _, get4, rfl, rfl, ?_, ?_, ?_, ?_⟩) | (with_reducible refine ⟨5, _, _, _, _, get5, rfl, rfl, ?_, ?_, ?_, ?_⟩) | (with_reducible refine ⟨6, _, _, _, _, get6, rfl, rfl, ?_, ?_, ?_, ?_⟩) | (with_reducible refine ⟨7, _, _, _, _, get7, rfl, rfl, ?_, ?_, ?_, ?_⟩)); (kernel_rfl); (simp [Value.cells]); (rfl); (clear st; intro w st))
        | ((with_reducible refine wl_alloc ?_ (fun K hK => ?_)); rfl; refine owp_alloc (o := ⟨some 3, _, _, _, _, _⟩) rfl st ?_; apply Exists.intro; apply Exists.intro; refine ⟨?_, ?_⟩; (focus (first | (go_simp; done) | (go_simp; rfl))); (clear st; intro b3 w hb st; clear hb))
        | ((with_reducible refine wl_alloc ?_ (fun K hK => ?_)); rfl; refine owp_alloc (o := ⟨some 5, _, _, _, _, _⟩) rfl st ?_; apply Exists.intro; apply Exists.intro; refine ⟨?_, ?_⟩; (focus (first | (go_simp; done) | (go_simp; rfl))); (clear st; intro b5 w hb st; clear hb))); (try simp only [nsl, Value.cells, unB] at st); (try clear hc); have hc := st.facts; (try simp only [nfl, nft, Nat.reduceAdd] at hc))
  refine (HT3.out _ (st.fm (i := 5) get5)).mono ?_
  rintro en w ⟨rfl, hx⟩
  replace st := st.ext hx
  clear hx
  (try clear hc); have hc := st.facts; (try simp only [nfl, nft, Nat.reduceAdd] at hc)
  go_wp2_with ((first
        | ((with_reducible refine wl_alloc ?_ (fun K hK => ?_)); rfl; refine owp_alloc (o := ⟨some 1, _, _, _, _, _⟩) rfl st ?_; apply Exists.intro; apply Exists.intro; refine ⟨?_, ?_⟩; (focus (first | (go_simp; done) | (go_simp; rfl))); (clear st; intro b1 w hb st; clear hb))
        | ((with_reducible refine wl_store ?_ (fun K hK => ?_)); rfl; refine owp_store rfl st ?_; apply Exists.intro; apply Exists.intro; refine ⟨?_, ?_, ?_⟩; (focus (go_simp; try rfl)); (focus (go_simp; try rfl)); (first | (with_reducible refine ⟨0, _, _, _, _, get0, rfl, rfl, ?_, ?_, ?_, ?_⟩) | (with_reducible refine ⟨1, _, _, _, _, get1, rfl, rfl, ?_, ?_, ?_, ?_⟩) | (with_reducible refine ⟨2, _, _, _, _, get2, rfl, rfl, ?_, ?_, ?_, ?_⟩) | (with_reducible refine ⟨3, _, _, _, _, get3, rfl, rfl, ?_, ?_, ?_, ?_⟩) | (with_reducible refine ⟨4, _, _, _, _, get4, rfl, rfl, ?_, ?_, ?_, ?_⟩) | (with_reducible refine ⟨5, _, _, _, _, get5, rfl, rfl, ?_, ?_, ?_, ?_⟩) | (with_reducible refine ⟨6, _, _, _, _, get6, rfl, rfl, ?_, ?_, ?_, ?_⟩) | (with_reducible refine ⟨7, _, _, _, _, get7, rfl, rfl, ?_, ?_, ?_, ?_⟩)); (kernel_rfl); (simp [Value.cells]); (rfl); (clear st; intro w st))
        | ((with_reducible refine wl_alloc ?_ (fun K hK => ?_)); rfl; refine owp_alloc (o := ⟨some 3, _, _, _, _, _⟩) rfl st ?_; apply Exists.intro; apply Exists.intro; refine ⟨?_, ?_⟩; (focus (first | (go_simp; done) | (go_simp; rfl))); (clear st; intro b3 w hb st; clear hb))
        | ((with_reducible refine wl_alloc ?_ (fun K hK => ?_)); rfl; refine owp_alloc (o := ⟨some 5, _, _, _, _, _⟩) rfl st ?_; apply Exists.intro; apply Exists.intro; refine ⟨?_, ?_⟩; (focus (first | (go_simp; done) | (go_simp; rfl))); (clear st; intro b5 w hb st; clear hb))); (try simp only [nsl, Value.cells, unB] at st); (try clear hc); have hc := st.facts; (try simp only [nfl, nft, Nat.reduceAdd] at hc))
  refine (HT0.out _).mono ?_
  rintro en w ⟨rfl, hx⟩
  replace st := st.ext hx
  clear hx
  (try clear hc); have hc := st.facts; (try simp only [nfl, nft, Nat.reduceAdd] at hc)
  go_wp2_with ((first
        | ((with_reducible refine wl_alloc ?_ (fun K hK => ?_)); rfl; refine owp_alloc (o := ⟨some 1, _, _, _, _, _⟩) rfl st ?_; apply Exists.intro; apply Exists.intro; refine ⟨?_, ?_⟩; (focus (first | (go_simp; done) | (go_simp; rfl))); (clear st; intro b1 w hb st; clear hb))
        | ((with_reducible refine wl_store ?_ (fun K hK => ?_)); rfl; refine owp_store rfl st ?_; apply Exists.intro; apply Exists.intro; refine ⟨?_, ?_, ?_⟩; (focus (go_simp; try rfl)); (focus (go_simp; try rfl)); (first | (with_reducible refine ⟨0, _, _, _, _, get0, rfl, rfl, ?_, ?_, ?_, ?_⟩) | (with_reducible refine ⟨1, _, _, _, _, get1, rfl, rfl, ?_, ?_, ?_, ?_⟩) | (with_reducible refine ⟨2, _, _, _, _, get2, rfl, rfl, ?_, ?_, ?_, ?_⟩) | (with_reducible refine ⟨3, _, _, _, _, get3, rfl, rfl, ?_, ?_, ?_, ?_⟩) | (with_reducible refine ⟨4, _, _, _, _, get4, rfl, rfl, ?_, ?_, ?_, ?_⟩) | (with_reducible refine ⟨5, _, _, _, _, get5, rfl, rfl, ?_, ?_, ?_, ?_⟩) | (with_reducible refine ⟨6, _, _, _, _, get6, rfl, rfl, ?_, ?_, ?_, ?_⟩) | (with_reducible refine ⟨7, _, _, _, _, get7, rfl, rfl, ?_, ?_, ?_, ?_⟩)); (kernel_rfl); (simp [Value.cells]); (rfl); (clear st; intro w st))
        | ((with_reducible refine wl_alloc ?_ (fun K hK => ?_)); rfl; refine owp_alloc (o := ⟨some 3, _, _, _, _, _⟩) rfl st ?_; apply Exists.intro; apply Exists.intro; refine ⟨?_, ?_⟩; (focus (first | (go_simp; done) | (go_simp; rfl))); (clear st; intro b3 w hb st; clear hb))
        | ((with_reducible refine wl_alloc ?_ (fun K hK => ?_)); rfl; refine owp_alloc (o := ⟨some 5, _, _, _, _, _⟩) rfl st ?_; apply Exists.intro; apply Exists.intro; refine ⟨?_, ?_⟩; (focus (first | (go_simp; done) | (go_simp; rfl))); (clear st; intro b5 w hb st; clear hb))); (try simp only [nsl, Value.cells, unB] at st); (try clear hc); have hc := st.facts; (try simp only [nfl, nft, Nat.reduceAdd] at hc))
  go_ret
  exact ⟨rfl, st.ext0⟩
theorem folMono {b b' : Nat} (hb : b ≤ b') {f : Fo} (h : FoL b f) : FoL b' f := by
  induction h with
  | mk h1 h2 _ ih => exact .mk (Nat.le_trans h1 hb) (Nat.le_trans h2 hb) ih
theorem parseIs_det {s : List UInt8} {f f' : Fo} {e e' : Int} (h : ParseIs s f e) (h' : ParseIs s f' e') : f = f' ∧ e = e' := by
  unfold ParseIs at h h'
  split at h
  · rename_i hs
    rw [if_pos hs] at h'
    exact ⟨h.1.trans h'.1.symm, h.2.trans h'.2.symm⟩
  · rename_i hs
    rw [if_neg hs] at h'
    obtain ⟨b, l, hl⟩ := lx_ex _ s (Nat.le_refl _)
    have := (h b l hl).trans (h' b l hl).symm
    exact Prod.mk.inj this
theorem foR_small {f : Fo} (h : foR f = true) : f.well = true ∧ f.nodes ≤ 1000 := by
  unfold foR at h
  simp at h
  exact ⟨h.2, by omega⟩
set_option maxRecDepth 100000 in
set_option maxHeartbeats 8000000 in
theorem parseTells_all (f : Fm) (s : List UInt8) (W : World) (hf : FmOk W f) (hs : f.strip.great ≤ 2000000) (hn : s.length ≤ 2000000) (he : ErrV W) :
    Calls Tryz.prog 3 #[fmV f, S s] W fun e w' => e = .returned (.bool true) ∧ Ext W w' := by
  have HE := Lib.hid he
  have HGR := Lib.hid (fun W' b (h : Fl W' (some ⟨b, 0, none⟩) 1 [f]) (hx : Ext W W') => fmGreat_any [f] _ 1 1 W' h (fun x hx' => by rw [List.mem_singleton.1 hx']; exact hf.ext hx) (by simp [greatL]; omega))
  rw [show greatL ([f].map Fm.strip) = f.strip.great by simp [greatL]] at HGR
  have HNL : Hid (f.strip.great ≤ 300 → f.strip.nodes ≤ 300 ∧ FoL 100000 f.strip) := Lib.hid (fun h => ⟨by have := great_nodes f.strip; omega, folMono (by omega) (great_L f.strip 300 h)⟩)
  have HR := Lib.hid (fun W' (hx : Ext W W') hs hl => refRight11_any f W' (hf.ext hx) hs hl)
  have HTX := Lib.hid (fun W' (hx : Ext W W') hs hl => text_any f W' (hf.ext hx) hs hl)
  have HRT := Lib.hid (fun W' (hx : Ext W W') (h : foR f.strip = true) => refText12_any f W' (hf.ext hx) (foR_small h).1 (foR_small h).2)
  have HP := Lib.hid (fun (hs : s.length ≤ 100000) (fr al : Nat → Prop) (w0 w : World) (st : Own fr al w0 [oldI W] w) => parse_c (fr := fr) (al := al) (w0 := w0) (w := w) hs he st)
  have HRP := Lib.hid (fun (hs : s.length ≤ 100000) (fr al : Nat → Prop) (w0 w : World) (st : Own fr al w0 [oldI W] w) => rparse_c (fr := fr) (al := al) (w0 := w0) (w := w) hs st)
  generalize f.strip = fo at *
  obtain ⟨gr, hgr⟩ : ∃ g, fo.great = g := ⟨_, rfl⟩
  rw [hgr] at HGR HNL hs
  have hsz : (⟨s.toArray⟩ : ByteArray).size = s.length := ba_size s
  obtain ⟨n, hsn⟩ : ∃ n, s.length = n := ⟨_, rfl⟩
  rw [hsn] at hsz hn HP HRP
  clear hgr hf he hsn
  obtain ⟨op, k, ⟨o, d⟩, fa, fn, fc, kids⟩ := f
  have HC : Hid ([Value.int .i64 op, .int .i64 k, .string ⟨o.toArray⟩, .string ⟨d.toArray⟩, .slice fa fn fc] = cellsL [Fm.mk op k (o, d) fa fn fc kids]) := Lib.hid rfl
  unfold fmV S at HR HTX HRT ⊢
  unfold S at HP HRP
  simp only at HR HTX HRT ⊢
  have st := Own.startOld W
  (try simp only [nsl, Value.cells, unB] at st)
  (try clear hc); have hc := st.facts; (try simp only [nfl, nft, Nat.reduceAdd] at hc)
  go_enter Tryz.func3, Tryz.ntmps3
  go_wp2_with ((first
        | ((with_reducible refine wl_box ?_ (fun K hK => ?_)); rfl; refine owp_box (o := ⟨some 2, _, _, _, _, _⟩) rfl st ?_; apply Exists.intro; refine ⟨?_, ?_⟩; (focus (go_simp; try rfl)); (clear st; intro b2 w hb st; clear hb))
        | ((with_reducible refine wl_buildSlice ?_ (fun K hK => ?_)); rfl; refine owp_buildSlice (o := ⟨some 13, _, _, _, _, _⟩) rfl st ?_; apply Exists.intro; apply Exists.intro; apply Exists.intro; apply Exists.intro; refine ⟨?_, ?_⟩; (focus (go_simp; (first | done | exact ⟨⟨rfl, rfl⟩, rfl⟩ | rfl))); (clear st; intro b13 w hb st; clear hb))
        | ((with_reducible refine wl_alloc ?_ (fun K hK => ?_)); rfl; refine owp_alloc (o := ⟨some 6, _, _, _, _, _⟩) rfl st ?_; apply Exists.intro; apply Exists.intro; refine ⟨?_, ?_⟩; (focus (first | (go_simp; done) | (go_simp; rfl))); (clear st; intro b6 w hb st; clear hb))
        | ((with_reducible refine wl_store ?_ (fun K hK => ?_)); rfl; refine owp_store rfl st ?_; apply Exists.intro; apply Exists.intro; refine ⟨?_, ?_, ?_⟩; (focus (go_simp; try rfl)); (focus (go_simp; try rfl)); (first | (with_reducible refine ⟨0, _, _, _, _, get0, rfl, rfl, ?_, ?_, ?_, ?_⟩) | (with_reducible refine ⟨1, _, _, _, _, get1, rfl, rfl, ?_, ?_, ?_, ?_⟩) | (with_reducible refine ⟨2, _, _, _, _, get2, rfl, rfl, ?_, ?_, ?_, ?_⟩) | (with_reducible refine ⟨3, _, _, _, _, get3, rfl, rfl, ?_, ?_, ?_, ?_⟩) | (with_reducible refine ⟨4, _, _, _, _, get4, rfl, rfl, ?_, ?_, ?_, ?_⟩) | (with_reducible refine ⟨5, _, _, _, _, get5, rfl, rfl, ?_, ?_, ?_, ?_⟩) | (with_reducible refine ⟨6, _, _, _, _, get6, rfl, rfl, ?_, ?_, ?_, ?_⟩) | (with_reducible refine ⟨7, _, _, _, _, get7, rfl, rfl, ?_, ?_, ?_, ?_⟩)); (kernel_rfl); (simp [Value.cells]); (rfl); (clear st; intro w st))
        | ((with_reducible refine wl_alloc ?_ (fun K hK => ?_)); rfl; refine owp_alloc (o := ⟨some 8, _, _, _, _, _⟩) rfl st ?_; apply Exists.intro; apply Exists.intro; refine ⟨?_, ?_⟩; (focus (first | (go_simp; done) | (go_simp; rfl))); (clear st; intro b8 w hb st; clear hb))); (try simp only [nsl, Value.cells, unB] at st); (try clear hc); have hc := st.facts; (try simp only [nfl, nft, Nat.reduceAdd] at hc))
  refine (first12_any _ (st.errV (i := 0) get0 HE.out)).mono ?_
  rintro en w ⟨rfl, hx⟩
  replace st := st.ext hx
  clear hx
  (try simp only [nsl, Value.cells, unB] at st)
  (try clear hc); have hc := st.facts; (try simp only [nfl, nft, Nat.reduceAdd] at hc)
  go_wp2_with ((first
        | ((with_reducible refine wl_box ?_ (fun K hK => ?_)); rfl; refine owp_box (o := ⟨some 2, _, _, _, _, _⟩) rfl st ?_; apply Exists.intro; refine ⟨?_, ?_⟩; (focus (go_simp; try rfl)); (clear st; intro b2 w hb st; clear hb))
        | ((with_reducible refine wl_buildSlice ?_ (fun K hK => ?_)); rfl; refine owp_buildSlice (o := ⟨some 13, _, _, _, _, _⟩) rfl st ?_; apply Exists.intro; apply Exists.intro; apply Exists.intro; apply Exists.intro; refine ⟨?_, ?_⟩; (focus (go_simp; (first | done | exact ⟨⟨rfl, rfl⟩, rfl⟩ | rfl))); (clear st; intro b13 w hb st; clear hb))
        | ((with_reducible refine wl_alloc ?_ (fun K hK => ?_)); rfl; refine owp_alloc (o := ⟨some 6, _, _, _, _, _⟩) rfl st ?_; apply Exists.intro; apply Exists.intro; refine ⟨?_, ?_⟩; (focus (first | (go_simp; done) | (go_simp; rfl))); (clear st; intro b6 w hb st; clear hb))
        | ((with_reducible refine wl_store ?_ (fun K hK => ?_)); rfl; refine owp_store rfl st ?_; apply Exists.intro; apply Exists.intro; refine ⟨?_, ?_, ?_⟩; (focus (go_simp; try rfl)); (focus (go_simp; try rfl)); (first | (with_reducible refine ⟨0, _, _, _, _, get0, rfl, rfl, ?_, ?_, ?_, ?_⟩) | (with_reducible refine ⟨1, _, _, _, _, get1, rfl, rfl, ?_, ?_, ?_, ?_⟩) | (with_reducible refine ⟨2, _, _, _, _, get2, rfl, rfl, ?_, ?_, ?_, ?_⟩) | (with_reducible refine ⟨3, _, _, _, _, get3, rfl, rfl, ?_, ?_, ?_, ?_⟩) | (with_reducible refine ⟨4, _, _, _, _, get4, rfl, rfl, ?_, ?_, ?_, ?_⟩) | (with_reducible refine ⟨5, _, _, _, _, get5, rfl, rfl, ?_, ?_, ?_, ?_⟩) | (with_reducible refine ⟨6, _, _, _, _, get6, rfl, rfl, ?_, ?_, ?_, ?_⟩) | (with_reducible refine ⟨7, _, _, _, _, get7, rfl, rfl, ?_, ?_, ?_, ?_⟩)); (kernel_rfl); (simp [Value.cells]); (rfl); (clear st; intro w st))
        | ((with_reducible refine wl_alloc ?_ (fun K hK => ?_)); rfl; refine owp_alloc (o := ⟨some 8, _, _, _, _, _⟩) rfl st ?_; apply Exists.intro; apply Exists.intro; refine ⟨?_, ?_⟩; (focus (first | (go_simp; done) | (go_simp; rfl))); (clear st; intro b8 w hb st; clear hb))); (try simp only [nsl, Value.cells, unB] at st); (try clear hc); have hc := st.facts; (try simp only [nfl, nft, Nat.reduceAdd] at hc))
  have hfl := fl_lit (st.blk (i := 2) get2) [Fm.mk op k (o, d) fa fn fc kids] HC.out
  refine (HGR.out _ _ hfl st.ext0).mono ?_
  rintro en w ⟨rfl, hx⟩
  replace st := st.ext hx
  clear hx hfl HGR HC
  by_cases h1 : 300 < gr
  · have h1i : (300 : Int) < (gr : Int) := by omega
    (try simp only [nsl, Value.cells, unB] at st)
    (try clear hc); have hc := st.facts; (try simp only [nfl, nft, Nat.reduceAdd] at hc)
    go_wp2_with ((first
          | ((with_reducible refine wl_box ?_ (fun K hK => ?_)); rfl; refine owp_box (o := ⟨some 2, _, _, _, _, _⟩) rfl st ?_; apply Exists.intro; refine ⟨?_, ?_⟩; (focus (go_simp; try rfl)); (clear st; intro b2 w hb st; clear hb))
          | ((with_reducible refine wl_buildSlice ?_ (fun K hK => ?_)); rfl; refine owp_buildSlice (o := ⟨some 13, _, _, _, _, _⟩) rfl st ?_; apply Exists.intro; apply Exists.intro; apply Exists.intro; apply Exists.intro; refine ⟨?_, ?_⟩; (focus (go_simp; (first | done | exact ⟨⟨rfl, rfl⟩, rfl⟩ | rfl))); (clear st; intro b13 w hb st; clear hb))
          | ((with_reducible refine wl_alloc ?_ (fun K hK => ?_)); rfl; refine owp_alloc (o := ⟨some 6, _, _, _, _, _⟩) rfl st ?_; apply Exists.intro; apply Exists.intro; refine ⟨?_, ?_⟩; (focus (first | (go_simp; done) | (go_simp; rfl))); (clear st; intro b6 w hb st; clear hb))
          | ((with_reducible refine wl_store ?_ (fun K hK => ?_)); rfl; refine owp_store rfl st ?_; apply Exists.intro; apply Exists.intro; refine ⟨?_, ?_, ?_⟩; (focus (go_simp; try rfl)); (focus (go_simp; try rfl)); (first | (with_reducible refine ⟨0, _, _, _, _, get0, rfl, rfl, ?_, ?_, ?_, ?_⟩) | (with_reducible refine ⟨1, _, _, _, _, get1, rfl, rfl, ?_, ?_, ?_, ?_⟩) | (with_reducible refine ⟨2, _, _, _, _, get2, rfl, rfl, ?_, ?_, ?_, ?_⟩) | (with_reducible refine ⟨3, _, _, _, _, get3, rfl, rfl, ?_, ?_, ?_, ?_⟩) | (with_reducible refine ⟨4, _, _, _, _, get4, rfl, rfl, ?_, ?_, ?_, ?_⟩) | (with_reducible refine ⟨5, _, _, _, _, get5, rfl, rfl, ?_, ?_, ?_, ?_⟩) | (with_reducible refine ⟨6, _, _, _, _, get6, rfl, rfl, ?_, ?_, ?_, ?_⟩) | (with_reducible refine ⟨7, _, _, _, _, get7, rfl, rfl, ?_, ?_, ?_, ?_⟩)); (kernel_rfl); (simp [Value.cells]); (rfl); (clear st; intro w st))
          | ((with_reducible refine wl_alloc ?_ (fun K hK => ?_)); rfl; refine owp_alloc (o := ⟨some 8, _, _, _, _, _⟩) rfl st ?_; apply Exists.intro; apply Exists.intro; refine ⟨?_, ?_⟩; (focus (first | (go_simp; done) | (go_simp; rfl))); (clear st; intro b8 w hb st; clear hb))); (try simp only [nsl, Value.cells, unB] at st); (try clear hc); have hc := st.facts; (try simp only [nfl, nft, Nat.reduceAdd] at hc))
    go_ret
    exact ⟨rfl, st.ext0⟩
  have h1i : ¬ (300 : Int) < (gr : Int) := by omega
  by_cases h2 : 2500 < n
  · have h2i : (2500 : Int) < (n : Int) := by omega
    (try simp only [nsl, Value.cells, unB] at st)
    (try clear hc); have hc := st.facts; (try simp only [nfl, nft, Nat.reduceAdd] at hc)
    go_wp2_with ((first
          | ((with_reducible refine wl_box ?_ (fun K hK => ?_)); rfl; refine owp_box (o := ⟨some 2, _, _, _, _, _⟩) rfl st ?_; apply Exists.intro; refine ⟨?_, ?_⟩; (focus (go_simp; try rfl)); (clear st; intro b2 w hb st; clear hb))
          | ((with_reducible refine wl_buildSlice ?_ (fun K hK => ?_)); rfl; refine owp_buildSlice (o := ⟨some 13, _, _, _, _, _⟩) rfl st ?_; apply Exists.intro; apply Exists.intro; apply Exists.intro; apply Exists.intro; refine ⟨?_, ?_⟩; (focus (go_simp; (first | done | exact ⟨⟨rfl, rfl⟩, rfl⟩ | rfl))); (clear st; intro b13 w hb st; clear hb))
          | ((with_reducible refine wl_alloc ?_ (fun K hK => ?_)); rfl; refine owp_alloc (o := ⟨some 6, _, _, _, _, _⟩) rfl st ?_; apply Exists.intro; apply Exists.intro; refine ⟨?_, ?_⟩; (focus (first | (go_simp; done) | (go_simp; rfl))); (clear st; intro b6 w hb st; clear hb))
          | ((with_reducible refine wl_store ?_ (fun K hK => ?_)); rfl; refine owp_store rfl st ?_; apply Exists.intro; apply Exists.intro; refine ⟨?_, ?_, ?_⟩; (focus (go_simp; try rfl)); (focus (go_simp; try rfl)); (first | (with_reducible refine ⟨0, _, _, _, _, get0, rfl, rfl, ?_, ?_, ?_, ?_⟩) | (with_reducible refine ⟨1, _, _, _, _, get1, rfl, rfl, ?_, ?_, ?_, ?_⟩) | (with_reducible refine ⟨2, _, _, _, _, get2, rfl, rfl, ?_, ?_, ?_, ?_⟩) | (with_reducible refine ⟨3, _, _, _, _, get3, rfl, rfl, ?_, ?_, ?_, ?_⟩) | (with_reducible refine ⟨4, _, _, _, _, get4, rfl, rfl, ?_, ?_, ?_, ?_⟩) | (with_reducible refine ⟨5, _, _, _, _, get5, rfl, rfl, ?_, ?_, ?_, ?_⟩) | (with_reducible refine ⟨6, _, _, _, _, get6, rfl, rfl, ?_, ?_, ?_, ?_⟩) | (with_reducible refine ⟨7, _, _, _, _, get7, rfl, rfl, ?_, ?_, ?_, ?_⟩)); (kernel_rfl); (simp [Value.cells]); (rfl); (clear st; intro w st))
          | ((with_reducible refine wl_alloc ?_ (fun K hK => ?_)); rfl; refine owp_alloc (o := ⟨some 8, _, _, _, _, _⟩) rfl st ?_; apply Exists.intro; apply Exists.intro; refine ⟨?_, ?_⟩; (focus (first | (go_simp; done) | (go_simp; rfl))); (clear st; intro b8 w hb st; clear hb))); (try simp only [nsl, Value.cells, unB] at st); (try clear hc); have hc := st.facts; (try simp only [nfl, nft, Nat.reduceAdd] at hc))
    go_ret
    exact ⟨rfl, st.ext0⟩
  have h2i : ¬ (2500 : Int) < (n : Int) := by omega
  obtain ⟨hnd, hfl5⟩ := HNL.out (by omega)
  clear HNL hs h1
  have st9 := st.keep [0, 1] (by decide) (by simp)
  simp only [pick, List.map_cons, List.map_nil, List.getElem?_cons_zero, List.getElem?_cons_succ, Option.getD_some] at st9
  clear st
  have st := st9
  clear st9
  have HR2 := Lib.hid (fun W' hx => HR.out W' hx (by omega) hfl5)
  have HTX2 := Lib.hid (fun W' hx => HTX.out W' hx (by omega) hfl5)
  have HP2 := Lib.hid (HP.out (by omega))
  have HRP2 := Lib.hid (HRP.out (by omega))
  clear HR HTX HP HRP hfl5 hnd
  obtain ⟨rv, hrv⟩ : ∃ v, foR fo = v := ⟨_, rfl⟩
  rw [hrv] at HR2 HTX2 HRT
  clear hrv
  obtain ⟨tx, htx⟩ : ∃ t, (if rv = true then fo.text else []) = t := ⟨_, rfl⟩
  have HTE : Hid (rv = true → fo.text = tx) := Lib.hid (fun h => by rw [← htx, if_pos h])
  have HTN : Hid (rv = false → tx = []) := Lib.hid (fun h => by rw [← htx, h]; rfl)
  rw [htx] at HTX2
  clear htx
  (try simp only [nsl, Value.cells, unB] at st)
  (try clear hc); have hc := st.facts; (try simp only [nfl, nft, Nat.reduceAdd] at hc)
  go_wp2_with ((first
        | ((with_reducible refine wl_box ?_ (fun K hK => ?_)); rfl; refine owp_box (o := ⟨some 2, _, _, _, _, _⟩) rfl st ?_; apply Exists.intro; refine ⟨?_, ?_⟩; (focus (go_simp; try rfl)); (clear st; intro b2 w hb st; clear hb))
        | ((with_reducible refine wl_buildSlice ?_ (fun K hK => ?_)); rfl; refine owp_buildSlice (o := ⟨some 13, _, _, _, _, _⟩) rfl st ?_; apply Exists.intro; apply Exists.intro; apply Exists.intro; apply Exists.intro; refine ⟨?_, ?_⟩; (focus (go_simp; (first | done | exact ⟨⟨rfl, rfl⟩, rfl⟩ | rfl))); (clear st; intro b13 w hb st; clear hb))
        | ((with_reducible refine wl_alloc ?_ (fun K hK => ?_)); rfl; refine owp_alloc (o := ⟨some 6, _, _, _, _, _⟩) rfl st ?_; apply Exists.intro; apply Exists.intro; refine ⟨?_, ?_⟩; (focus (first | (go_simp; done) | (go_simp; rfl))); (clear st; intro b6 w hb st; clear hb))
        | ((with_reducible refine wl_store ?_ (fun K hK => ?_)); rfl; refine owp_store rfl st ?_; apply Exists.intro; apply Exists.intro; refine ⟨?_, ?_, ?_⟩; (focus (go_simp; try rfl)); (focus (go_simp; try rfl)); (first | (with_reducible refine ⟨0, _, _, _, _, get0, rfl, rfl, ?_, ?_, ?_, ?_⟩) | (with_reducible refine ⟨1, _, _, _, _, get1, rfl, rfl, ?_, ?_, ?_, ?_⟩) | (with_reducible refine ⟨2, _, _, _, _, get2, rfl, rfl, ?_, ?_, ?_, ?_⟩) | (with_reducible refine ⟨3, _, _, _, _, get3, rfl, rfl, ?_, ?_, ?_, ?_⟩) | (with_reducible refine ⟨4, _, _, _, _, get4, rfl, rfl, ?_, ?_, ?_, ?_⟩) | (with_reducible refine ⟨5, _, _, _, _, get5, rfl, rfl, ?_, ?_, ?_, ?_⟩) | (with_reducible refine ⟨6, _, _, _, _, get6, rfl, rfl, ?_, ?_, ?_, ?_⟩) | (with_reducible refine ⟨7, _, _, _, _, get7, rfl, rfl, ?_, ?_, ?_, ?_⟩)); (kernel_rfl); (simp [Value.cells]); (rfl); (clear st; intro w st))
        | ((with_reducible refine wl_alloc ?_ (fun K hK => ?_)); rfl; refine owp_alloc (o := ⟨some 8, _, _, _, _, _⟩) rfl st ?_; apply Exists.intro; apply Exists.intro; refine ⟨?_, ?_⟩; (focus (first | (go_simp; done) | (go_simp; rfl))); (clear st; intro b8 w hb st; clear hb))); (try simp only [nsl, Value.cells, unB] at st); (try clear hc); have hc := st.facts; (try simp only [nfl, nft, Nat.reduceAdd] at hc))
  refine (HR2.out _ st.ext0).mono ?_
  rintro en w ⟨rfl, hx⟩
  replace st := st.ext hx
  clear hx
  (try clear hc); have hc := st.facts; (try simp only [nfl, nft, Nat.reduceAdd] at hc)
  cases rv with
  | true =>
    have HRT2 := Lib.hid (fun W' hx => HRT.out W' hx rfl)
    rw [HTE.out rfl] at HRT2
    clear HRT HTE HTN
    go_wp2_with ((first
          | ((with_reducible refine wl_box ?_ (fun K hK => ?_)); rfl; refine owp_box (o := ⟨some 2, _, _, _, _, _⟩) rfl st ?_; apply Exists.intro; refine ⟨?_, ?_⟩; (focus (go_simp; try rfl)); (clear st; intro b2 w hb st; clear hb))
          | ((with_reducible refine wl_buildSlice ?_ (fun K hK => ?_)); rfl; refine owp_buildSlice (o := ⟨some 13, _, _, _, _, _⟩) rfl st ?_; apply Exists.intro; apply Exists.intro; apply Exists.intro; apply Exists.intro; refine ⟨?_, ?_⟩; (focus (go_simp; (first | done | exact ⟨⟨rfl, rfl⟩, rfl⟩ | rfl))); (clear st; intro b13 w hb st; clear hb))
          | ((with_reducible refine wl_alloc ?_ (fun K hK => ?_)); rfl; refine owp_alloc (o := ⟨some 6, _, _, _, _, _⟩) rfl st ?_; apply Exists.intro; apply Exists.intro; refine ⟨?_, ?_⟩; (focus (first | (go_simp; done) | (go_simp; rfl))); (clear st; intro b6 w hb st; clear hb))
          | ((with_reducible refine wl_store ?_ (fun K hK => ?_)); rfl; refine owp_store rfl st ?_; apply Exists.intro; apply Exists.intro; refine ⟨?_, ?_, ?_⟩; (focus (go_simp; try rfl)); (focus (go_simp; try rfl)); (first | (with_reducible refine ⟨0, _, _, _, _, get0, rfl, rfl, ?_, ?_, ?_, ?_⟩) | (with_reducible refine ⟨1, _, _, _, _, get1, rfl, rfl, ?_, ?_, ?_, ?_⟩) | (with_reducible refine ⟨2, _, _, _, _, get2, rfl, rfl, ?_, ?_, ?_, ?_⟩) | (with_reducible refine ⟨3, _, _, _, _, get3, rfl, rfl, ?_, ?_, ?_, ?_⟩) | (with_reducible refine ⟨4, _, _, _, _, get4, rfl, rfl, ?_, ?_, ?_, ?_⟩) | (with_reducible refine ⟨5, _, _, _, _, get5, rfl, rfl, ?_, ?_, ?_, ?_⟩) | (with_reducible refine ⟨6, _, _, _, _, get6, rfl, rfl, ?_, ?_, ?_, ?_⟩) | (with_reducible refine ⟨7, _, _, _, _, get7, rfl, rfl, ?_, ?_, ?_, ?_⟩)); (kernel_rfl); (simp [Value.cells]); (rfl); (clear st; intro w st))
          | ((with_reducible refine wl_alloc ?_ (fun K hK => ?_)); rfl; refine owp_alloc (o := ⟨some 8, _, _, _, _, _⟩) rfl st ?_; apply Exists.intro; apply Exists.intro; refine ⟨?_, ?_⟩; (focus (first | (go_simp; done) | (go_simp; rfl))); (clear st; intro b8 w hb st; clear hb))); (try simp only [nsl, Value.cells, unB] at st); (try clear hc); have hc := st.facts; (try simp only [nfl, nft, Nat.reduceAdd] at hc))
    refine (HRT2.out _ st.ext0).mono ?_
    rintro en w ⟨rfl, hx⟩
    replace st := st.ext hx
    clear hx
    (try clear hc); have hc := st.facts; (try simp only [nfl, nft, Nat.reduceAdd] at hc)
    go_wp2_with ((first
          | ((with_reducible refine wl_box ?_ (fun K hK => ?_)); rfl; refine owp_box (o := ⟨some 2, _, _, _, _, _⟩) rfl st ?_; apply Exists.intro; refine ⟨?_, ?_⟩; (focus (go_simp; try rfl)); (clear st; intro b2 w hb st; clear hb))
          | ((with_reducible refine wl_buildSlice ?_ (fun K hK => ?_)); rfl; refine owp_buildSlice (o := ⟨some 13, _, _, _, _, _⟩) rfl st ?_; apply Exists.intro; apply Exists.intro; apply Exists.intro; apply Exists.intro; refine ⟨?_, ?_⟩; (focus (go_simp; (first | done | exact ⟨⟨rfl, rfl⟩, rfl⟩ | rfl))); (clear st; intro b13 w hb st; clear hb))
          | ((with_reducible refine wl_alloc ?_ (fun K hK => ?_)); rfl; refine owp_alloc (o := ⟨some 6, _, _, _, _, _⟩) rfl st ?_; apply Exists.intro; apply Exists.intro; refine ⟨?_, ?_⟩; (focus (first | (go_simp; done) | (go_simp; rfl))); (clear st; intro b6 w hb st; clear hb))
          | ((with_reducible refine wl_store ?_ (fun K hK => ?_)); rfl; refine owp_store rfl st ?_; apply Exists.intro; apply Exists.intro; refine ⟨?_, ?_, ?_⟩; (focus (go_simp; try rfl)); (focus (go_simp; try rfl)); (first | (with_reducible refine ⟨0, _, _, _, _, get0, rfl, rfl, ?_, ?_, ?_, ?_⟩) | (with_reducible refine ⟨1, _, _, _, _, get1, rfl, rfl, ?_, ?_, ?_, ?_⟩) | (with_reducible refine ⟨2, _, _, _, _, get2, rfl, rfl, ?_, ?_, ?_, ?_⟩) | (with_reducible refine ⟨3, _, _, _, _, get3, rfl, rfl, ?_, ?_, ?_, ?_⟩) | (with_reducible refine ⟨4, _, _, _, _, get4, rfl, rfl, ?_, ?_, ?_, ?_⟩) | (with_reducible refine ⟨5, _, _, _, _, get5, rfl, rfl, ?_, ?_, ?_, ?_⟩) | (with_reducible refine ⟨6, _, _, _, _, get6, rfl, rfl, ?_, ?_, ?_, ?_⟩) | (with_reducible refine ⟨7, _, _, _, _, get7, rfl, rfl, ?_, ?_, ?_, ?_⟩)); (kernel_rfl); (simp [Value.cells]); (rfl); (clear st; intro w st))
          | ((with_reducible refine wl_alloc ?_ (fun K hK => ?_)); rfl; refine owp_alloc (o := ⟨some 8, _, _, _, _, _⟩) rfl st ?_; apply Exists.intro; apply Exists.intro; refine ⟨?_, ?_⟩; (focus (first | (go_simp; done) | (go_simp; rfl))); (clear st; intro b8 w hb st; clear hb))); (try simp only [nsl, Value.cells, unB] at st); (try clear hc); have hc := st.facts; (try simp only [nfl, nft, Nat.reduceAdd] at hc))
    obtain ⟨fr', al', st', back⟩ := st.sub [0] (by decide) (by simp)
    (try simp only [nsl, Value.cells, unB] at st')
    refine (HP2.out _ _ _ _ st').mono ?_
    clear st'
    rintro en w ⟨g1, v1, rfl, hp1, _, hl1, hn1, st'⟩
    replace st := back _ _ (by simp) st'
    clear back st'
    (try simp only [nsl, Value.cells, unB] at st)
    (try clear hc); have hc := st.facts; (try simp only [nfl, nft, Nat.reduceAdd] at hc)
    obtain ⟨x1, hx1⟩ : ∃ x, g1 = x := ⟨_, rfl⟩
    obtain ⟨op1, k1, ⟨o1, d1⟩, a1, n1, c1, kids1⟩ := g1
    have HV1 : Hid (fmV x1 = .agg #[.int .i64 op1, .int .i64 k1, .string ⟨o1.toArray⟩, .string ⟨d1.toArray⟩, .slice a1 n1 c1]) := Lib.hid (by rw [← hx1]; rfl)
    rw [hx1] at st hp1 ⊢
    rw [HV1.out]
    have HP1 := Lib.hid hp1
    clear hx1 hp1 hl1 hn1
    (try simp only [nsl, Value.cells, unB] at st)
    (try clear hc); have hc := st.facts; (try simp only [nfl, nft, Nat.reduceAdd] at hc)
    go_wp2_with ((first
          | ((with_reducible refine wl_box ?_ (fun K hK => ?_)); rfl; refine owp_box (o := ⟨some 2, _, _, _, _, _⟩) rfl st ?_; apply Exists.intro; refine ⟨?_, ?_⟩; (focus (go_simp; try rfl)); (clear st; intro b2 w hb st; clear hb))
          | ((with_reducible refine wl_buildSlice ?_ (fun K hK => ?_)); rfl; refine owp_buildSlice (o := ⟨some 13, _, _, _, _, _⟩) rfl st ?_; apply Exists.intro; apply Exists.intro; apply Exists.intro; apply Exists.intro; refine ⟨?_, ?_⟩; (focus (go_simp; (first | done | exact ⟨⟨rfl, rfl⟩, rfl⟩ | rfl))); (clear st; intro b13 w hb st; clear hb))
          | ((with_reducible refine wl_alloc ?_ (fun K hK => ?_)); rfl; refine owp_alloc (o := ⟨some 6, _, _, _, _, _⟩) rfl st ?_; apply Exists.intro; apply Exists.intro; refine ⟨?_, ?_⟩; (focus (first | (go_simp; done) | (go_simp; rfl))); (clear st; intro b6 w hb st; clear hb))
          | ((with_reducible refine wl_store ?_ (fun K hK => ?_)); rfl; refine owp_store rfl st ?_; apply Exists.intro; apply Exists.intro; refine ⟨?_, ?_, ?_⟩; (focus (go_simp; try rfl)); (focus (go_simp; try rfl)); (first | (with_reducible refine ⟨0, _, _, _, _, get0, rfl, rfl, ?_, ?_, ?_, ?_⟩) | (with_reducible refine ⟨1, _, _, _, _, get1, rfl, rfl, ?_, ?_, ?_, ?_⟩) | (with_reducible refine ⟨2, _, _, _, _, get2, rfl, rfl, ?_, ?_, ?_, ?_⟩) | (with_reducible refine ⟨3, _, _, _, _, get3, rfl, rfl, ?_, ?_, ?_, ?_⟩) | (with_reducible refine ⟨4, _, _, _, _, get4, rfl, rfl, ?_, ?_, ?_, ?_⟩) | (with_reducible refine ⟨5, _, _, _, _, get5, rfl, rfl, ?_, ?_, ?_, ?_⟩) | (with_reducible refine ⟨6, _, _, _, _, get6, rfl, rfl, ?_, ?_, ?_, ?_⟩) | (with_reducible refine ⟨7, _, _, _, _, get7, rfl, rfl, ?_, ?_, ?_, ?_⟩)); (kernel_rfl); (simp [Value.cells]); (rfl); (clear st; intro w st))
          | ((with_reducible refine wl_alloc ?_ (fun K hK => ?_)); rfl; refine owp_alloc (o := ⟨some 8, _, _, _, _, _⟩) rfl st ?_; apply Exists.intro; apply Exists.intro; refine ⟨?_, ?_⟩; (focus (first | (go_simp; done) | (go_simp; rfl))); (clear st; intro b8 w hb st; clear hb))); (try simp only [nsl, Value.cells, unB] at st); (try clear hc); have hc := st.facts; (try simp only [nfl, nft, Nat.reduceAdd] at hc))
    obtain ⟨fr', al', st', back⟩ := st.sub [0] (by decide) (by simp)
    (try simp only [nsl, Value.cells, unB] at st')
    refine (HRP2.out _ _ _ _ st').mono ?_
    clear st'
    rintro en w ⟨g2, v2, rfl, hp2, st'⟩
    replace st := back _ _ (by simp) st'
    clear back st'
    (try simp only [nsl, Value.cells, unB] at st)
    (try clear hc); have hc := st.facts; (try simp only [nfl, nft, Nat.reduceAdd] at hc)
    obtain ⟨x2, hx2⟩ : ∃ x, g2 = x := ⟨_, rfl⟩
    obtain ⟨op2, k2, ⟨o2, d2⟩, a2, n2, c2, kids2⟩ := g2
    have HV2 : Hid (fmV x2 = .agg #[.int .i64 op2, .int .i64 k2, .string ⟨o2.toArray⟩, .string ⟨d2.toArray⟩, .slice a2 n2 c2]) := Lib.hid (by rw [← hx2]; rfl)
    rw [hx2] at st hp2 ⊢
    rw [HV2.out]
    obtain ⟨e1, rfl⟩ := parseIs_det HP1.out hp2
    have HS := Lib.hid (fun W' (h1 : FmOk W' x1) (h2 : FmOk W' x2) => refSame11_any x1 x2 W' h1 h2)
    rw [show pB (x1.strip = x2.strip) = true from pB_t e1, HV1.out, HV2.out] at HS
    clear hx2 hp2 HV1 HV2 HP1 e1
    (try simp only [nsl, Value.cells, unB] at st)
    (try clear hc); have hc := st.facts; (try simp only [nfl, nft, Nat.reduceAdd] at hc)
    go_wp2_with ((first
          | ((with_reducible refine wl_box ?_ (fun K hK => ?_)); rfl; refine owp_box (o := ⟨some 2, _, _, _, _, _⟩) rfl st ?_; apply Exists.intro; refine ⟨?_, ?_⟩; (focus (go_simp; try rfl)); (clear st; intro b2 w hb st; clear hb))
          | ((with_reducible refine wl_buildSlice ?_ (fun K hK => ?_)); rfl; refine owp_buildSlice (o := ⟨some 13, _, _, _, _, _⟩) rfl st ?_; apply Exists.intro; apply Exists.intro; apply Exists.intro; apply Exists.intro; refine ⟨?_, ?_⟩; (focus (go_simp; (first | done | exact ⟨⟨rfl, rfl⟩, rfl⟩ | rfl))); (clear st; intro b13 w hb st; clear hb))
          | ((with_reducible refine wl_alloc ?_ (fun K hK => ?_)); rfl; refine owp_alloc (o := ⟨some 6, _, _, _, _, _⟩) rfl st ?_; apply Exists.intro; apply Exists.intro; refine ⟨?_, ?_⟩; (focus (first | (go_simp; done) | (go_simp; rfl))); (clear st; intro b6 w hb st; clear hb))
          | ((with_reducible refine wl_store ?_ (fun K hK => ?_)); rfl; refine owp_store rfl st ?_; apply Exists.intro; apply Exists.intro; refine ⟨?_, ?_, ?_⟩; (focus (go_simp; try rfl)); (focus (go_simp; try rfl)); (first | (with_reducible refine ⟨0, _, _, _, _, get0, rfl, rfl, ?_, ?_, ?_, ?_⟩) | (with_reducible refine ⟨1, _, _, _, _, get1, rfl, rfl, ?_, ?_, ?_, ?_⟩) | (with_reducible refine ⟨2, _, _, _, _, get2, rfl, rfl, ?_, ?_, ?_, ?_⟩) | (with_reducible refine ⟨3, _, _, _, _, get3, rfl, rfl, ?_, ?_, ?_, ?_⟩) | (with_reducible refine ⟨4, _, _, _, _, get4, rfl, rfl, ?_, ?_, ?_, ?_⟩) | (with_reducible refine ⟨5, _, _, _, _, get5, rfl, rfl, ?_, ?_, ?_, ?_⟩) | (with_reducible refine ⟨6, _, _, _, _, get6, rfl, rfl, ?_, ?_, ?_, ?_⟩) | (with_reducible refine ⟨7, _, _, _, _, get7, rfl, rfl, ?_, ?_, ?_, ?_⟩)); (kernel_rfl); (simp [Value.cells]); (rfl); (clear st; intro w st))
          | ((with_reducible refine wl_alloc ?_ (fun K hK => ?_)); rfl; refine owp_alloc (o := ⟨some 8, _, _, _, _, _⟩) rfl st ?_; apply Exists.intro; apply Exists.intro; refine ⟨?_, ?_⟩; (focus (first | (go_simp; done) | (go_simp; rfl))); (clear st; intro b8 w hb st; clear hb))); (try simp only [nsl, Value.cells, unB] at st); (try clear hc); have hc := st.facts; (try simp only [nfl, nft, Nat.reduceAdd] at hc))
    refine (HTX2.out _ st.ext0).mono ?_
    rintro en w ⟨rfl, hx⟩
    replace st := st.ext hx
    clear hx
    (try clear hc); have hc := st.facts; (try simp only [nfl, nft, Nat.reduceAdd] at hc)
    go_wp2_with ((first
          | ((with_reducible refine wl_box ?_ (fun K hK => ?_)); rfl; refine owp_box (o := ⟨some 2, _, _, _, _, _⟩) rfl st ?_; apply Exists.intro; refine ⟨?_, ?_⟩; (focus (go_simp; try rfl)); (clear st; intro b2 w hb st; clear hb))
          | ((with_reducible refine wl_buildSlice ?_ (fun K hK => ?_)); rfl; refine owp_buildSlice (o := ⟨some 13, _, _, _, _, _⟩) rfl st ?_; apply Exists.intro; apply Exists.intro; apply Exists.intro; apply Exists.intro; refine ⟨?_, ?_⟩; (focus (go_simp; (first | done | exact ⟨⟨rfl, rfl⟩, rfl⟩ | rfl))); (clear st; intro b13 w hb st; clear hb))
          | ((with_reducible refine wl_alloc ?_ (fun K hK => ?_)); rfl; refine owp_alloc (o := ⟨some 6, _, _, _, _, _⟩) rfl st ?_; apply Exists.intro; apply Exists.intro; refine ⟨?_, ?_⟩; (focus (first | (go_simp; done) | (go_simp; rfl))); (clear st; intro b6 w hb st; clear hb))
          | ((with_reducible refine wl_store ?_ (fun K hK => ?_)); rfl; refine owp_store rfl st ?_; apply Exists.intro; apply Exists.intro; refine ⟨?_, ?_, ?_⟩; (focus (go_simp; try rfl)); (focus (go_simp; try rfl)); (first | (with_reducible refine ⟨0, _, _, _, _, get0, rfl, rfl, ?_, ?_, ?_, ?_⟩) | (with_reducible refine ⟨1, _, _, _, _, get1, rfl, rfl, ?_, ?_, ?_, ?_⟩) | (with_reducible refine ⟨2, _, _, _, _, get2, rfl, rfl, ?_, ?_, ?_, ?_⟩) | (with_reducible refine ⟨3, _, _, _, _, get3, rfl, rfl, ?_, ?_, ?_, ?_⟩) | (with_reducible refine ⟨4, _, _, _, _, get4, rfl, rfl, ?_, ?_, ?_, ?_⟩) | (with_reducible refine ⟨5, _, _, _, _, get5, rfl, rfl, ?_, ?_, ?_, ?_⟩) | (with_reducible refine ⟨6, _, _, _, _, get6, rfl, rfl, ?_, ?_, ?_, ?_⟩) | (with_reducible refine ⟨7, _, _, _, _, get7, rfl, rfl, ?_, ?_, ?_, ?_⟩)); (kernel_rfl); (simp [Value.cells]); (rfl); (clear st; intro w st))
          | ((with_reducible refine wl_alloc ?_ (fun K hK => ?_)); rfl; refine owp_alloc (o := ⟨some 8, _, _, _, _, _⟩) rfl st ?_; apply Exists.intro; apply Exists.intro; refine ⟨?_, ?_⟩; (focus (first | (go_simp; done) | (go_simp; rfl))); (clear st; intro b8 w hb st; clear hb))); (try simp only [nsl, Value.cells, unB] at st); (try clear hc); have hc := st.facts; (try simp only [nfl, nft, Nat.reduceAdd] at hc))
    refine (HS.out _ (st.fm (i := 2) get2) (st.fm (i := 4) get4)).mono ?_
    rintro en w ⟨rfl, hx⟩
    replace st := st.ext hx
    clear hx
    (try clear hc); have hc := st.facts; (try simp only [nfl, nft, Nat.reduceAdd] at hc)
    go_wp2_with ((first
          | ((with_reducible refine wl_box ?_ (fun K hK => ?_)); rfl; refine owp_box (o := ⟨some 2, _, _, _, _, _⟩) rfl st ?_; apply Exists.intro; refine ⟨?_, ?_⟩; (focus (go_simp; try rfl)); (clear st; intro b2 w hb st; clear hb))
          | ((with_reducible refine wl_buildSlice ?_ (fun K hK => ?_)); rfl; refine owp_buildSlice (o := ⟨some 13, _, _, _, _, _⟩) rfl st ?_; apply Exists.intro; apply Exists.intro; apply Exists.intro; apply Exists.intro; refine ⟨?_, ?_⟩; (focus (go_simp; (first | done | exact ⟨⟨rfl, rfl⟩, rfl⟩ | rfl))); (clear st; intro b13 w hb st; clear hb))
          | ((with_reducible refine wl_alloc ?_ (fun K hK => ?_)); rfl; refine owp_alloc (o := ⟨some 6, _, _, _, _, _⟩) rfl st ?_; apply Exists.intro; apply Exists.intro; refine ⟨?_, ?_⟩; (focus (first | (go_simp; done) | (go_simp; rfl))); (clear st; intro b6 w hb st; clear hb))
          | ((with_reducible refine wl_store ?_ (fun K hK => ?_)); rfl; refine owp_store rfl st ?_; apply Exists.intro; apply Exists.intro; refine ⟨?_, ?_, ?_⟩; (focus (go_simp; try rfl)); (focus (go_simp; try rfl)); (first | (with_reducible refine ⟨0, _, _, _, _, get0, rfl, rfl, ?_, ?_, ?_, ?_⟩) | (with_reducible refine ⟨1, _, _, _, _, get1, rfl, rfl, ?_, ?_, ?_, ?_⟩) | (with_reducible refine ⟨2, _, _, _, _, get2, rfl, rfl, ?_, ?_, ?_, ?_⟩) | (with_reducible refine ⟨3, _, _, _, _, get3, rfl, rfl, ?_, ?_, ?_, ?_⟩) | (with_reducible refine ⟨4, _, _, _, _, get4, rfl, rfl, ?_, ?_, ?_, ?_⟩) | (with_reducible refine ⟨5, _, _, _, _, get5, rfl, rfl, ?_, ?_, ?_, ?_⟩) | (with_reducible refine ⟨6, _, _, _, _, get6, rfl, rfl, ?_, ?_, ?_, ?_⟩) | (with_reducible refine ⟨7, _, _, _, _, get7, rfl, rfl, ?_, ?_, ?_, ?_⟩)); (kernel_rfl); (simp [Value.cells]); (rfl); (clear st; intro w st))
          | ((with_reducible refine wl_alloc ?_ (fun K hK => ?_)); rfl; refine owp_alloc (o := ⟨some 8, _, _, _, _, _⟩) rfl st ?_; apply Exists.intro; apply Exists.intro; refine ⟨?_, ?_⟩; (focus (first | (go_simp; done) | (go_simp; rfl))); (clear st; intro b8 w hb st; clear hb))); (try simp only [nsl, Value.cells, unB] at st); (try clear hc); have hc := st.facts; (try simp only [nfl, nft, Nat.reduceAdd] at hc))
    go_ret
    exact ⟨rfl, st.ext0⟩
  | false =>
    obtain rfl := HTN.out rfl
    clear HRT HTE HTN
    go_wp2_with ((first
          | ((with_reducible refine wl_box ?_ (fun K hK => ?_)); rfl; refine owp_box (o := ⟨some 2, _, _, _, _, _⟩) rfl st ?_; apply Exists.intro; refine ⟨?_, ?_⟩; (focus (go_simp; try rfl)); (clear st; intro b2 w hb st; clear hb))
          | ((with_reducible refine wl_buildSlice ?_ (fun K hK => ?_)); rfl; refine owp_buildSlice (o := ⟨some 13, _, _, _, _, _⟩) rfl st ?_; apply Exists.intro; apply Exists.intro; apply Exists.intro; apply Exists.intro; refine ⟨?_, ?_⟩; (focus (go_simp; (first | done | exact ⟨⟨rfl, rfl⟩, rfl⟩ | rfl))); (clear st; intro b13 w hb st; clear hb))
          | ((with_reducible refine wl_alloc ?_ (fun K hK => ?_)); rfl; refine owp_alloc (o := ⟨some 6, _, _, _, _, _⟩) rfl st ?_; apply Exists.intro; apply Exists.intro; refine ⟨?_, ?_⟩; (focus (first | (go_simp; done) | (go_simp; rfl))); (clear st; intro b6 w hb st; clear hb))
          | ((with_reducible refine wl_store ?_ (fun K hK => ?_)); rfl; refine owp_store rfl st ?_; apply Exists.intro; apply Exists.intro; refine ⟨?_, ?_, ?_⟩; (focus (go_simp; try rfl)); (focus (go_simp; try rfl)); (first | (with_reducible refine ⟨0, _, _, _, _, get0, rfl, rfl, ?_, ?_, ?_, ?_⟩) | (with_reducible refine ⟨1, _, _, _, _, get1, rfl, rfl, ?_, ?_, ?_, ?_⟩) | (with_reducible refine ⟨2, _, _, _, _, get2, rfl, rfl, ?_, ?_, ?_, ?_⟩) | (with_reducible refine ⟨3, _, _, _, _, get3, rfl, rfl, ?_, ?_, ?_, ?_⟩) | (with_reducible refine ⟨4, _, _, _, _, get4, rfl, rfl, ?_, ?_, ?_, ?_⟩) | (with_reducible refine ⟨5, _, _, _, _, get5, rfl, rfl, ?_, ?_, ?_, ?_⟩) | (with_reducible refine ⟨6, _, _, _, _, get6, rfl, rfl, ?_, ?_, ?_, ?_⟩) | (with_reducible refine ⟨7, _, _, _, _, get7, rfl, rfl, ?_, ?_, ?_, ?_⟩)); (kernel_rfl); (simp [Value.cells]); (rfl); (clear st; intro w st))
          | ((with_reducible refine wl_alloc ?_ (fun K hK => ?_)); rfl; refine owp_alloc (o := ⟨some 8, _, _, _, _, _⟩) rfl st ?_; apply Exists.intro; apply Exists.intro; refine ⟨?_, ?_⟩; (focus (first | (go_simp; done) | (go_simp; rfl))); (clear st; intro b8 w hb st; clear hb))); (try simp only [nsl, Value.cells, unB] at st); (try clear hc); have hc := st.facts; (try simp only [nfl, nft, Nat.reduceAdd] at hc))
    obtain ⟨fr', al', st', back⟩ := st.sub [0] (by decide) (by simp)
    (try simp only [nsl, Value.cells, unB] at st')
    refine (HP2.out _ _ _ _ st').mono ?_
    clear st'
    rintro en w ⟨g1, v1, rfl, hp1, _, hl1, hn1, st'⟩
    replace st := back _ _ (by simp) st'
    clear back st'
    (try simp only [nsl, Value.cells, unB] at st)
    (try clear hc); have hc := st.facts; (try simp only [nfl, nft, Nat.reduceAdd] at hc)
    obtain ⟨x1, hx1⟩ : ∃ x, g1 = x := ⟨_, rfl⟩
    obtain ⟨op1, k1, ⟨o1, d1⟩, a1, n1, c1, kids1⟩ := g1
    have HV1 : Hid (fmV x1 = .agg #[.int .i64 op1, .int .i64 k1, .string ⟨o1.toArray⟩, .string ⟨d1.toArray⟩, .slice a1 n1 c1]) := Lib.hid (by rw [← hx1]; rfl)
    rw [hx1] at st hp1 ⊢
    rw [HV1.out]
    have HP1 := Lib.hid hp1
    clear hx1 hp1 hl1 hn1
    (try simp only [nsl, Value.cells, unB] at st)
    (try clear hc); have hc := st.facts; (try simp only [nfl, nft, Nat.reduceAdd] at hc)
    go_wp2_with ((first
          | ((with_reducible refine wl_box ?_ (fun K hK => ?_)); rfl; refine owp_box (o := ⟨some 2, _, _, _, _, _⟩) rfl st ?_; apply Exists.intro; refine ⟨?_, ?_⟩; (focus (go_simp; try rfl)); (clear st; intro b2 w hb st; clear hb))
          | ((with_reducible refine wl_buildSlice ?_ (fun K hK => ?_)); rfl; refine owp_buildSlice (o := ⟨some 13, _, _, _, _, _⟩) rfl st ?_; apply Exists.intro; apply Exists.intro; apply Exists.intro; apply Exists.intro; refine ⟨?_, ?_⟩; (focus (go_simp; (first | done | exact ⟨⟨rfl, rfl⟩, rfl⟩ | rfl))); (clear st; intro b13 w hb st; clear hb))
          | ((with_reducible refine wl_alloc ?_ (fun K hK => ?_)); rfl; refine owp_alloc (o := ⟨some 6, _, _, _, _, _⟩) rfl st ?_; apply Exists.intro; apply Exists.intro; refine ⟨?_, ?_⟩; (focus (first | (go_simp; done) | (go_simp; rfl))); (clear st; intro b6 w hb st; clear hb))
          | ((with_reducible refine wl_store ?_ (fun K hK => ?_)); rfl; refine owp_store rfl st ?_; apply Exists.intro; apply Exists.intro; refine ⟨?_, ?_, ?_⟩; (focus (go_simp; try rfl)); (focus (go_simp; try rfl)); (first | (with_reducible refine ⟨0, _, _, _, _, get0, rfl, rfl, ?_, ?_, ?_, ?_⟩) | (with_reducible refine ⟨1, _, _, _, _, get1, rfl, rfl, ?_, ?_, ?_, ?_⟩) | (with_reducible refine ⟨2, _, _, _, _, get2, rfl, rfl, ?_, ?_, ?_, ?_⟩) | (with_reducible refine ⟨3, _, _, _, _, get3, rfl, rfl, ?_, ?_, ?_, ?_⟩) | (with_reducible refine ⟨4, _, _, _, _, get4, rfl, rfl, ?_, ?_, ?_, ?_⟩) | (with_reducible refine ⟨5, _, _, _, _, get5, rfl, rfl, ?_, ?_, ?_, ?_⟩) | (with_reducible refine ⟨6, _, _, _, _, get6, rfl, rfl, ?_, ?_, ?_, ?_⟩) | (with_reducible refine ⟨7, _, _, _, _, get7, rfl, rfl, ?_, ?_, ?_, ?_⟩)); (kernel_rfl); (simp [Value.cells]); (rfl); (clear st; intro w st))
          | ((with_reducible refine wl_alloc ?_ (fun K hK => ?_)); rfl; refine owp_alloc (o := ⟨some 8, _, _, _, _, _⟩) rfl st ?_; apply Exists.intro; apply Exists.intro; refine ⟨?_, ?_⟩; (focus (first | (go_simp; done) | (go_simp; rfl))); (clear st; intro b8 w hb st; clear hb))); (try simp only [nsl, Value.cells, unB] at st); (try clear hc); have hc := st.facts; (try simp only [nfl, nft, Nat.reduceAdd] at hc))
    obtain ⟨fr', al', st', back⟩ := st.sub [0] (by decide) (by simp)
    (try simp only [nsl, Value.cells, unB] at st')
    refine (HRP2.out _ _ _ _ st').mono ?_
    clear st'
    rintro en w ⟨g2, v2, rfl, hp2, st'⟩
    replace st := back _ _ (by simp) st'
    clear back st'
    (try simp only [nsl, Value.cells, unB] at st)
    (try clear hc); have hc := st.facts; (try simp only [nfl, nft, Nat.reduceAdd] at hc)
    obtain ⟨x2, hx2⟩ : ∃ x, g2 = x := ⟨_, rfl⟩
    obtain ⟨op2, k2, ⟨o2, d2⟩, a2, n2, c2, kids2⟩ := g2
    have HV2 : Hid (fmV x2 = .agg #[.int .i64 op2, .int .i64 k2, .string ⟨o2.toArray⟩, .string ⟨d2.toArray⟩, .slice a2 n2 c2]) := Lib.hid (by rw [← hx2]; rfl)
    rw [hx2] at st hp2 ⊢
    rw [HV2.out]
    obtain ⟨e1, rfl⟩ := parseIs_det HP1.out hp2
    have HS := Lib.hid (fun W' (h1 : FmOk W' x1) (h2 : FmOk W' x2) => refSame11_any x1 x2 W' h1 h2)
    rw [show pB (x1.strip = x2.strip) = true from pB_t e1, HV1.out, HV2.out] at HS
    clear hx2 hp2 HV1 HV2 HP1 e1
    (try simp only [nsl, Value.cells, unB] at st)
    (try clear hc); have hc := st.facts; (try simp only [nfl, nft, Nat.reduceAdd] at hc)
    go_wp2_with ((first
          | ((with_reducible refine wl_box ?_ (fun K hK => ?_)); rfl; refine owp_box (o := ⟨some 2, _, _, _, _, _⟩) rfl st ?_; apply Exists.intro; refine ⟨?_, ?_⟩; (focus (go_simp; try rfl)); (clear st; intro b2 w hb st; clear hb))
          | ((with_reducible refine wl_buildSlice ?_ (fun K hK => ?_)); rfl; refine owp_buildSlice (o := ⟨some 13, _, _, _, _, _⟩) rfl st ?_; apply Exists.intro; apply Exists.intro; apply Exists.intro; apply Exists.intro; refine ⟨?_, ?_⟩; (focus (go_simp; (first | done | exact ⟨⟨rfl, rfl⟩, rfl⟩ | rfl))); (clear st; intro b13 w hb st; clear hb))
          | ((with_reducible refine wl_alloc ?_ (fun K hK => ?_)); rfl; refine owp_alloc (o := ⟨some 6, _, _, _, _, _⟩) rfl st ?_; apply Exists.intro; apply Exists.intro; refine ⟨?_, ?_⟩; (focus (first | (go_simp; done) | (go_simp; rfl))); (clear st; intro b6 w hb st; clear hb))
          | ((with_reducible refine wl_store ?_ (fun K hK => ?_)); rfl; refine owp_store rfl st ?_; apply Exists.intro; apply Exists.intro; refine ⟨?_, ?_, ?_⟩; (focus (go_simp; try rfl)); (focus (go_simp; try rfl)); (first | (with_reducible refine ⟨0, _, _, _, _, get0, rfl, rfl, ?_, ?_, ?_, ?_⟩) | (with_reducible refine ⟨1, _, _, _, _, get1, rfl, rfl, ?_, ?_, ?_, ?_⟩) | (with_reducible refine ⟨2, _, _, _, _, get2, rfl, rfl, ?_, ?_, ?_, ?_⟩) | (with_reducible refine ⟨3, _, _, _, _, get3, rfl, rfl, ?_, ?_, ?_, ?_⟩) | (with_reducible refine ⟨4, _, _, _, _, get4, rfl, rfl, ?_, ?_, ?_, ?_⟩) | (with_reducible refine ⟨5, _, _, _, _, get5, rfl, rfl, ?_, ?_, ?_, ?_⟩) | (with_reducible refine ⟨6, _, _, _, _, get6, rfl, rfl, ?_, ?_, ?_, ?_⟩) | (with_reducible refine ⟨7, _, _, _, _, get7, rfl, rfl, ?_, ?_, ?_, ?_⟩)); (kernel_rfl); (simp [Value.cells]); (rfl); (clear st; intro w st))
          | ((with_reducible refine wl_alloc ?_ (fun K hK => ?_)); rfl; refine owp_alloc (o := ⟨some 8, _, _, _, _, _⟩) rfl st ?_; apply Exists.intro; apply Exists.intro; refine ⟨?_, ?_⟩; (focus (first | (go_simp; done) | (go_simp; rfl))); (clear st; intro b8 w hb st; clear hb))); (try simp only [nsl, Value.cells, unB] at st); (try clear hc); have hc := st.facts; (try simp only [nfl, nft, Nat.reduceAdd] at hc))
    refine (HTX2.out _ st.ext0).mono ?_
    rintro en w ⟨rfl, hx⟩
    replace st := st.ext hx
    clear hx
    (try clear hc); have hc := st.facts; (try simp only [nfl, nft, Nat.reduceAdd] at hc)
    go_wp2_with ((first
          | ((with_reducible refine wl_box ?_ (fun K hK => ?_)); rfl; refine owp_box (o := ⟨some 2, _, _, _, _, _⟩) rfl st ?_; apply Exists.intro; refine ⟨?_, ?_⟩; (focus (go_simp; try rfl)); (clear st; intro b2 w hb st; clear hb))
          | ((with_reducible refine wl_buildSlice ?_ (fun K hK => ?_)); rfl; refine owp_buildSlice (o := ⟨some 13, _, _, _, _, _⟩) rfl st ?_; apply Exists.intro; apply Exists.intro; apply Exists.intro; apply Exists.intro; refine ⟨?_, ?_⟩; (focus (go_simp; (first | done | exact ⟨⟨rfl, rfl⟩, rfl⟩ | rfl))); (clear st; intro b13 w hb st; clear hb))
          | ((with_reducible refine wl_alloc ?_ (fun K hK => ?_)); rfl; refine owp_alloc (o := ⟨some 6, _, _, _, _, _⟩) rfl st ?_; apply Exists.intro; apply Exists.intro; refine ⟨?_, ?_⟩; (focus (first | (go_simp; done) | (go_simp; rfl))); (clear st; intro b6 w hb st; clear hb))
          | ((with_reducible refine wl_store ?_ (fun K hK => ?_)); rfl; refine owp_store rfl st ?_; apply Exists.intro; apply Exists.intro; refine ⟨?_, ?_, ?_⟩; (focus (go_simp; try rfl)); (focus (go_simp; try rfl)); (first | (with_reducible refine ⟨0, _, _, _, _, get0, rfl, rfl, ?_, ?_, ?_, ?_⟩) | (with_reducible refine ⟨1, _, _, _, _, get1, rfl, rfl, ?_, ?_, ?_, ?_⟩) | (with_reducible refine ⟨2, _, _, _, _, get2, rfl, rfl, ?_, ?_, ?_, ?_⟩) | (with_reducible refine ⟨3, _, _, _, _, get3, rfl, rfl, ?_, ?_, ?_, ?_⟩) | (with_reducible refine ⟨4, _, _, _, _, get4, rfl, rfl, ?_, ?_, ?_, ?_⟩) | (with_reducible refine ⟨5, _, _, _, _, get5, rfl, rfl, ?_, ?_, ?_, ?_⟩) | (with_reducible refine ⟨6, _, _, _, _, get6, rfl, rfl, ?_, ?_, ?_, ?_⟩) | (with_reducible refine ⟨7, _, _, _, _, get7, rfl, rfl, ?_, ?_, ?_, ?_⟩)); (kernel_rfl); (simp [Value.cells]); (rfl); (clear st; intro w st))
          | ((with_reducible refine wl_alloc ?_ (fun K hK => ?_)); rfl; refine owp_alloc (o := ⟨some 8, _, _, _, _, _⟩) rfl st ?_; apply Exists.intro; apply Exists.intro; refine ⟨?_, ?_⟩; (focus (first | (go_simp; done) | (go_simp; rfl))); (clear st; intro b8 w hb st; clear hb))); (try simp only [nsl, Value.cells, unB] at st); (try clear hc); have hc := st.facts; (try simp only [nfl, nft, Nat.reduceAdd] at hc))
    refine (HS.out _ (st.fm (i := 2) get2) (st.fm (i := 4) get4)).mono ?_
    rintro en w ⟨rfl, hx⟩
    replace st := st.ext hx
    clear hx
    (try clear hc); have hc := st.facts; (try simp only [nfl, nft, Nat.reduceAdd] at hc)
    go_wp2_with ((first
          | ((with_reducible refine wl_box ?_ (fun K hK => ?_)); rfl; refine owp_box (o := ⟨some 2, _, _, _, _, _⟩) rfl st ?_; apply Exists.intro; refine ⟨?_, ?_⟩; (focus (go_simp; try rfl)); (clear st; intro b2 w hb st; clear hb))
          | ((with_reducible refine wl_buildSlice ?_ (fun K hK => ?_)); rfl; refine owp_buildSlice (o := ⟨some 13, _, _, _, _, _⟩) rfl st ?_; apply Exists.intro; apply Exists.intro; apply Exists.intro; apply Exists.intro; refine ⟨?_, ?_⟩; (focus (go_simp; (first | done | exact ⟨⟨rfl, rfl⟩, rfl⟩ | rfl))); (clear st; intro b13 w hb st; clear hb))
          | ((with_reducible refine wl_alloc ?_ (fun K hK => ?_)); rfl; refine owp_alloc (o := ⟨some 6, _, _, _, _, _⟩) rfl st ?_; apply Exists.intro; apply Exists.intro; refine ⟨?_, ?_⟩; (focus (first | (go_simp; done) | (go_simp; rfl))); (clear st; intro b6 w hb st; clear hb))
          | ((with_reducible refine wl_store ?_ (fun K hK => ?_)); rfl; refine owp_store rfl st ?_; apply Exists.intro; apply Exists.intro; refine ⟨?_, ?_, ?_⟩; (focus (go_simp; try rfl)); (focus (go_simp; try rfl)); (first | (with_reducible refine ⟨0, _, _, _, _, get0, rfl, rfl, ?_, ?_, ?_, ?_⟩) | (with_reducible refine ⟨1, _, _, _, _, get1, rfl, rfl, ?_, ?_, ?_, ?_⟩) | (with_reducible refine ⟨2, _, _, _, _, get2, rfl, rfl, ?_, ?_, ?_, ?_⟩) | (with_reducible refine ⟨3, _, _, _, _, get3, rfl, rfl, ?_, ?_, ?_, ?_⟩) | (with_reducible refine ⟨4, _, _, _, _, get4, rfl, rfl, ?_, ?_, ?_, ?_⟩) | (with_reducible refine ⟨5, _, _, _, _, get5, rfl, rfl, ?_, ?_, ?_, ?_⟩) | (with_reducible refine ⟨6, _, _, _, _, get6, rfl, rfl, ?_, ?_, ?_, ?_⟩) | (with_reducible refine ⟨7, _, _, _, _, get7, rfl, rfl, ?_, ?_, ?_, ?_⟩)); (kernel_rfl); (simp [Value.cells]); (rfl); (clear st; intro w st))
          | ((with_reducible refine wl_alloc ?_ (fun K hK => ?_)); rfl; refine owp_alloc (o := ⟨some 8, _, _, _, _, _⟩) rfl st ?_; apply Exists.intro; apply Exists.intro; refine ⟨?_, ?_⟩; (focus (first | (go_simp; done) | (go_simp; rfl))); (clear st; intro b8 w hb st; clear hb))); (try simp only [nsl, Value.cells, unB] at st); (try clear hc); have hc := st.facts; (try simp only [nfl, nft, Nat.reduceAdd] at hc))
    go_ret
    exact ⟨rfl, st.ext0⟩
end Go.Proofs.YtnhilgciddcahaaGreatDoor

namespace Go.Proofs.YtnhilgciddcahaaGreatDoor
set_option linter.unusedSimpArgs false
set_option linter.unusedVariables false
open Go Go.RowKit
theorem star_err : "*" ++ "errors.errorString" = "*errors.errorString" := by decide
theorem row_err (u : TypeId) (h : Tryz.prog.typeName? 3 u = some "*errors.errorString") : u = 139 :=
  typeName_ptr_named (nm := "errors.errorString") (by rw [star_err]; kernel_rfl) (by kernel_rfl) (by decide) u (by rw [star_err]; exact h)
theorem cells_err : Tryz.prog.cellsOf 141 = 1 := by kernel_rfl
theorem cells_str : Tryz.prog.cellsOf 9 = 1 := by kernel_rfl
theorem errV_of {W : World} (h : laidMetH Tryz.prog Rows.parseTellsUptoRow.laid W) : ErrV W := by
  have h' : laidMet Tryz.prog Rows.parseTellsUptoRow.laid W := h
  have hS : Tryz.prog.globalNamed "strconv.ErrSyntax" = some 6 := by kernel_rfl
  have hR : Tryz.prog.globalNamed "strconv.ErrRange" = some 7 := by kernel_rfl
  have h4 := h'.tail.tail.tail.tail
  obtain ⟨a1, s1, hv1, -, -, -⟩ := laid_sentinel h4 hR (by kernel_rfl) Tryz.underlying74 row_err Tryz.underlying139 Tryz.underlying141 rfl rfl Tryz.underlying9 cells_err cells_str
  obtain ⟨a0, s0, hv0, -, -, -⟩ := laid_sentinel h4.tail hS (by kernel_rfl) Tryz.underlying74 row_err Tryz.underlying139 Tryz.underlying141 rfl rfl Tryz.underlying9 cells_err cells_str
  exact ⟨⟨_, by have h0 := World.var?_cell hS hv0 0; simpa using h0, .inr ⟨_, _, rfl⟩⟩, _, by have h0 := World.var?_cell hR hv1 0; simpa using h0, .inr ⟨_, _, rfl⟩⟩
theorem parseTells_law (f : Fm) (s : List UInt8) (W : World) (hf : FmOk W f) (hs : f.strip.great ≤ 2000000) (hn : s.length ≤ 2000000) (he : ErrV W) :
    Calls Tryz.prog 3 #[.agg (Flt.cells f).toArray, .string ⟨⟨s⟩⟩] W fun e w' => e = .returned (.bool true) ∧ Ext W w' := by
  have h : (Value.agg (Flt.cells f).toArray) = fmV f := by cases f; rfl
  rw [h]
  exact parseTells_all f s W hf hs hn he
end Go.Proofs.YtnhilgciddcahaaGreatDoor

namespace Go.Proofs.YtnhilgciddcahaaGreatDoor
set_option linter.unusedSimpArgs false
set_option linter.unusedVariables false
open Go Go.RowKit Go.ChangeShapes Go.WideShapes Go.ChangeAt

section
variable {H : Type} {enc : TypeId × Value → H} {P : Program} {w : World} {base : Nat} {spare : Nat → Bool} {held : Bool}
end
end Go.Proofs.YtnhilgciddcahaaGreatDoor

namespace Go.Proofs.YtnhilgciddcahaaGreatDoor
set_option linter.unusedSimpArgs false
set_option linter.unusedVariables false
open Go Go.RowKit Go.ChangeShapes Go.WideShapes Go.ChangeAt
theorem upto_bound {H : Type} {l : List (DataW H)} (hk : Rows.uptoSmall H l = true) : Rows.uptoBulkAll l ≤ 1048576 := of_decide_eq_true hk
theorem bulk_slice {H : Type} (elems spare : List (DataW H)) : Rows.uptoBulkAll elems + 1 ≤ Rows.uptoBulk (.slice elems spare) := by
  simp only [Rows.uptoBulk]; omega
section
variable {H : Type} {enc : TypeId × Value → H} {P : Program} {w : World} {base : Nat} {held : Bool}
end
end Go.Proofs.YtnhilgciddcahaaGreatDoor

namespace Go.Proofs.YtnhilgciddcahaaGreatDoor
set_option linter.unusedSimpArgs false
set_option linter.unusedVariables false
open Go Go.RowKit Go.ChangeShapes Go.WideShapes Go.ChangeAt
theorem mapM_at {f : Nat → Option Value} : ∀ {l : List Nat} {ys : List Value}, l.mapM f = some ys → ∀ (i k : Nat), l[i]? = some k → f k = ys[i]?
  | [], ys, h, i, k, hk => by simp at hk
  | a :: l, ys, h, i, k, hk => by
    rw [List.mapM_cons] at h
    cases ha : f a with
    | none => rw [ha] at h; cases h
    | some y =>
      rw [ha] at h
      cases hl : l.mapM f with
      | none => rw [hl] at h; cases h
      | some zs =>
        rw [hl] at h
        cases h
        cases i with
        | zero => simp at hk; subst hk; simp [ha]
        | succ i => simp at hk; simpa using mapM_at hl i k hk
theorem cells_at {w : World} {base k : Nat} {a : Addr} {cs : List Value} (h : w.cells? base a k = some cs) (j : Nat) (hj : j < k) : w.cell? (a.add j) = cs[j]? := by
  unfold World.cells? at h
  split at h
  · exact mapM_at (f := fun i => w.cell? (a.add i)) h j j (by simp [hj])
  · cases h
theorem bulk_map {H : Type} {α : Type} (D : Nat → DataW H) (f : Nat → α) (bulk : α → Nat) : ∀ (L : List Nat), (∀ i ∈ L, bulk (f i) ≤ Rows.uptoBulk (D i)) → ((L.map f).map bulk).sum ≤ Rows.uptoBulkAll (L.map D)
  | [], _ => by simp
  | i :: L, h => by
    have ih := bulk_map D f bulk L fun j hj => h j (List.mem_cons_of_mem _ hj)
    have h1 := h i (by simp)
    simp only [List.map_cons, Rows.uptoBulkAll, List.sum_cons]
    omega
section
variable {H : Type} {enc : TypeId × Value → H} {P : Program} {w : World} {base : Nat} {held : Bool}
/-- One of them. -/
theorem open_flt {α : Type} [Flt α] (bulk : α → Nat) (R : α → Prop) {r : Reach} {b0 : Nat} {t : TypeId} {fs : Array Field} {v : Value} {d : DataW H} {p : List MemPlace} (ht : P.underlying t = some (.struct fs))
    (hel : ∀ (fuel : Nat) (cs : List Value) (x : DataW H × List MemPlace), DataW.trod enc P w base (fun _ => true) held fuel t cs = some x → ∃ y : α, cs = Flt.cells y ∧ bulk y ≤ Rows.uptoBulk x.1 ∧ R y)
    (hv : Value.okWide P w r b0 t v) (h : DataW.Trod enc P w base (fun _ => true) held t v d p) : ∃ x : α, v = .agg (Flt.cells x).toArray ∧ bulk x ≤ Rows.uptoBulk d ∧ R x := by
  obtain ⟨cs, rfl, hsz⟩ := okWide_struct ht hv
  obtain ⟨fuel, hf⟩ := h
  obtain ⟨x, h1, h2, h3⟩ := hel _ _ _ hf
  refine ⟨x, ?_, h2, h3⟩
  have : cs.toList = Flt.cells x := by simpa [Value.cells] using h1
  congr 1
  apply Array.toList_inj.1
  rw [this]
end
end Go.Proofs.YtnhilgciddcahaaGreatDoor

namespace Go.Proofs.YtnhilgciddcahaaGreatDoor
set_option linter.unusedSimpArgs false
set_option linter.unusedVariables false
open Go Go.RowKit Go.ChangeShapes Go.WideShapes Go.ChangeAt
section
variable {H : Type} {enc : TypeId × Value → H} {P : Program} {w : World} {base : Nat} {held : Bool}
theorem trod_role {t : TypeId} {f0 f1 : Field} {fuel : Nat} {cs : List Value} {x : DataW H × List MemPlace} (ht : P.underlying t = some (.struct #[f0, f1])) (ce : P.cellsOf t = 2) (o0 : f0.offset = 0) (o1 : f1.offset = 1) (c0 : P.cellsOf f0.type = 1) (c1 : P.cellsOf f1.type = 1)
    (t0 : P.underlying f0.type = some .string) (t1 : P.underlying f1.type = some .string) (h : DataW.trod enc P w base (fun _ => true) held fuel t cs = some x) : ∃ r : Role, cs = [S r.1, S r.2] ∧ Rows.uptoBulk x.1 = r.1.length + r.2.length + 3 := by
  obtain ⟨y0, y1, n, rfl, hl, h0, h1⟩ := trod_struct2 ht h
  rw [ce] at hl
  rw [o0, c0] at h0
  rw [o1, c1] at h1
  match cs, hl with
  | [u, v], _ =>
    simp at h0 h1
    obtain ⟨s0, q0, rfl, _⟩ := DataW.trod_string t0 h0
    obtain ⟨s1, q1, rfl, _⟩ := DataW.trod_string t1 h1
    simp at q0 q1
    subst q0 q1
    obtain ⟨⟨s0⟩⟩ := s0
    obtain ⟨⟨s1⟩⟩ := s1
    refine ⟨(s0, s1), rfl, ?_⟩
    simp [Rows.uptoBulk, Rows.uptoBulkAll]
    omega
end
end Go.Proofs.YtnhilgciddcahaaGreatDoor

namespace Go.Proofs.YtnhilgciddcahaaGreatDoor
set_option linter.unusedSimpArgs false
set_option linter.unusedVariables false
open Go Go.RowKit Go.ChangeShapes Go.WideShapes Go.ChangeAt
mutual
def Fo.bulk : Fo → Nat
  | .mk _ _ r kids => 1 + r.1.length + r.2.length + bulkFoL kids
def bulkFoL : List Fo → Nat
  | [] => 0
  | x :: l => x.bulk + bulkFoL l
end
def bulkFm (f : Fm) : Nat := f.strip.bulk
theorem bulkFoL_sum : ∀ l : List Fm, bulkFoL (l.map Fm.strip) = (l.map bulkFm).sum
  | [] => by simp [bulkFoL]
  | x :: l => by rw [List.map_cons, bulkFoL, bulkFoL_sum l]; simp [bulkFm]
theorem great_bulk (f : Fo) : f.great ≤ f.bulk := by
  refine Fo.ind (P := fun f => f.great ≤ f.bulk) (fun op k r kids ih => ?_) f
  rw [Fo.great, Fo.bulk]
  have : greatL kids ≤ bulkFoL kids := by
    clear op k r
    induction kids with
    | nil => simp [greatL]
    | cons x l ihl =>
      have h1 := ih x (by simp)
      have h2 := ihl fun y hy => ih y (by simp [hy])
      rw [greatL, bulkFoL]
      omega
  omega
section
variable {H : Type} {enc : TypeId × Value → H} {P : Program} {w : World} {base : Nat} {held : Bool}
theorem trod_flts_at {α : Type} [Flt α] [Inhabited α] (bulk : α → Nat) (R : α → Prop) {t e : TypeId} {fuel : Nat} {cs : List Value} {y : DataW H × List MemPlace} (ht : P.underlying t = some (.slice e)) (ce : P.cellsOf e = Flt.k α)
    (hel : ∀ (n : Nat), fuel = n + 1 → ∀ (cs : List Value) (x : DataW H × List MemPlace), DataW.trod enc P w base (fun _ => true) held n e cs = some x → ∃ y : α, cs = Flt.cells y ∧ bulk y ≤ Rows.uptoBulk x.1 ∧ R y)
    (h : DataW.trod enc P w base (fun _ => true) held fuel t cs = some y) : ∃ a n c xs, cs = [.slice a n c] ∧ Fl w a n (xs : List α) ∧ (n ≤ c ∧ c ≤ maxLen) ∧ (xs.map bulk).sum ≤ Rows.uptoBulk y.1 ∧ ∀ x ∈ xs, R x := by
  rcases DataW.trod_slice ht h with ⟨hcs, _⟩ | ⟨a', len, cap, elems, rest, n, hfu, rfl, rfl, hb, hl, hm, hlen, he, _, _⟩
  · exact ⟨none, 0, 0, [], hcs, Fl.nil _ _, ⟨Nat.le_refl _, by simp [maxLen]⟩, by simp, by simp⟩
  · rw [ce] at he
    have hel2 : ∀ i, i < len → ∃ x : α, (∀ j u, (Flt.cells x)[j]? = some u → w.cell? ((a'.add (i * Flt.k α)).add j) = some u) ∧ bulk x ≤ Rows.uptoBulk (elems.getD i (.nil, [])).1 ∧ R x := fun i hi => by
      have h1 := he i hi
      rw [List.getElem?_eq_getElem (by omega)] at h1
      obtain ⟨cs', hc, htr⟩ := Option.bind_eq_some_iff.1 h1
      obtain ⟨x, h1, h2, h3⟩ := hel n hfu _ _ htr
      subst h1
      refine ⟨x, fun j u hu => ?_, ?_, h3⟩
      · have hj : j < Flt.k α := by
          have := (List.getElem?_eq_some_iff.1 hu).1
          rwa [Flt.len] at this
        rw [cells_at hc j hj, hu]
      · rw [List.getD_eq_getElem?_getD, List.getElem?_eq_getElem (by omega)]; exact h2
    obtain ⟨f, hF⟩ : ∃ f : Nat → α, ∀ i, i < len → (∀ j u, (Flt.cells (f i))[j]? = some u → w.cell? ((a'.add (i * Flt.k α)).add j) = some u) ∧ bulk (f i) ≤ Rows.uptoBulk (elems.getD i (.nil, [])).1 ∧ R (f i) :=
      ⟨fun i => if h : i < len then (hel2 i h).choose else default, fun i hi => by simp only [hi, dite_true]; exact (hel2 i hi).choose_spec⟩
    refine ⟨some a', len, cap, (List.range len).map f, rfl, ⟨by simp, fun h0 => ?_⟩, ⟨hl, hm⟩, ?_, ?_⟩
    · have hk := Flt.pos (α := α)
      have hx0 : a'.spot = none := by
        obtain ⟨u, hu⟩ : ∃ u, (Flt.cells (f 0))[0]? = some u := ⟨_, List.getElem?_eq_getElem (by rw [Flt.len]; exact hk)⟩
        have := (hF 0 h0).1 0 u hu
        simp only [Addr.add, Nat.zero_mul, if_true] at this
        unfold World.cell? at this
        split at this
        · cases hs : a'.spot with
          | none => rfl
          | some q => simp [hs] at this
        · cases this
      obtain ⟨b, off, sp⟩ := a'
      simp at hx0
      subst hx0
      refine ⟨b, off, rfl, fun i x hi j u hu => ?_⟩
      obtain ⟨hin, hfx⟩ : i < len ∧ f i = x := by
        have h1 := (List.getElem?_eq_some_iff.1 hi).1
        have h2 := (List.getElem?_eq_some_iff.1 hi).2
        simp at h1 h2
        exact ⟨h1, h2⟩
      subst hfx
      have h1 := (hF i hin).1 j u hu
      rw [addr_add, addr_add] at h1
      exact h1
    · have hb1 := bulk_map (fun i => (elems.getD i (.nil, [])).1) f bulk (List.range len) (fun i hi => (hF i (by simpa using hi)).2.1)
      have e2 : (List.range len).map (fun i => (elems.getD i (.nil, [])).1) = elems.map (·.1) := by
        apply List.ext_getElem?
        intro i
        rw [List.getElem?_map, List.getElem?_map]
        by_cases hi : i < len
        · rw [List.getElem?_range hi, List.getElem?_eq_getElem (by omega)]
          simp only [Option.map_some]
          rw [List.getD_eq_getElem?_getD, List.getElem?_eq_getElem (by omega)]
          rfl
        · rw [List.getElem?_eq_none (by simp; omega), List.getElem?_eq_none (by omega)]
          rfl
      rw [e2] at hb1
      have := bulk_slice (H := H) (elems.map (·.1)) (rest.map (·.1))
      simp only
      omega
    · intro x hx
      simp only [List.mem_map, List.mem_range] at hx
      obtain ⟨i, hi, rfl⟩ := hx
      exact (hF i hi).2.2
set_option maxRecDepth 100000 in
theorem trod_fm : ∀ (fuel : Nat) {cs : List Value} {x : DataW H × List MemPlace}, DataW.trod enc Tryz.prog w base (fun _ => true) held fuel 26 cs = some x → ∃ y : Fm, cs = Flt.cells y ∧ bulkFm y ≤ Rows.uptoBulk x.1 ∧ FmOk w y := by
  intro fuel
  induction fuel using Nat.strongRecOn with
  | ind fuel ih =>
  intro cs x h
  have hS := Tryz.underlying26
  obtain ⟨xs, n, hfu, hx, hl, hlen, hf0⟩ := DataW.trod_struct hS h
  have hf : ∀ (i : Nat) (f : Field), (Tryz.prog.fieldsOf 26)[i]? = some f → ∃ y, xs[i]? = some y ∧ DataW.trod enc Tryz.prog w base (fun _ => true) held n f.type ((cs.drop f.offset).take (Tryz.prog.cellsOf f.type)) = some y := fun i f hi => by
    have := hf0 i f hi
    have hil : i < xs.length := by rw [hlen]; exact (Array.getElem?_eq_some_iff.1 hi).1
    refine ⟨xs[i], List.getElem?_eq_getElem hil, ?_⟩
    rw [this, List.getElem?_eq_getElem hil]
  rw [show Tryz.prog.cellsOf 26 = 5 from by kernel_rfl] at hl
  obtain ⟨y0, e0, h0⟩ := hf 0 _ rfl
  obtain ⟨y1, e1, h1⟩ := hf 1 _ rfl
  obtain ⟨y2, e2, h2⟩ := hf 2 _ rfl
  obtain ⟨y3, e3, h3⟩ := hf 3 _ rfl
  change DataW.trod enc Tryz.prog w base (fun _ => true) held n 3 ((cs.drop 0).take (Tryz.prog.cellsOf 3)) = some y0 at h0
  change DataW.trod enc Tryz.prog w base (fun _ => true) held n 3 ((cs.drop 1).take (Tryz.prog.cellsOf 3)) = some y1 at h1
  change DataW.trod enc Tryz.prog w base (fun _ => true) held n 23 ((cs.drop 2).take (Tryz.prog.cellsOf 23)) = some y2 at h2
  change DataW.trod enc Tryz.prog w base (fun _ => true) held n 24 ((cs.drop 4).take (Tryz.prog.cellsOf 24)) = some y3 at h3
  have k1 : Tryz.prog.cellsOf 3 = 1 := by kernel_rfl
  have k2 : Tryz.prog.cellsOf 23 = 2 := by kernel_rfl
  have k3 : Tryz.prog.cellsOf 24 = 1 := by kernel_rfl
  rw [k1] at h0 h1
  rw [k2] at h2
  rw [k3] at h3
  have hl4 : xs.length = 4 := hlen
  match cs, hl, xs, hl4 with
  | [c0, c1, c2, c3, c4], _, [z0, z1, z2, z3], _ =>
    simp at e0 e1 e2 e3
    subst e0 e1 e2 e3
    simp only [List.drop_succ_cons, List.drop_zero, List.take_succ_cons, List.take_zero] at h0 h1 h2 h3
    obtain ⟨i0, q0, rfl, _⟩ := DataW.trod_int Tryz.underlying3 h0
    obtain ⟨i1, q1, rfl, _⟩ := DataW.trod_int Tryz.underlying3 h1
    obtain ⟨r2, q2, b2⟩ := trod_role Tryz.underlying23 (by kernel_rfl) rfl rfl (by kernel_rfl) (by kernel_rfl) Tryz.underlying9 Tryz.underlying9 h2
    obtain ⟨ka, kn, kc, ks, q3, hk1, hk2, hk3, hk4⟩ := trod_flts_at (α := Fm) bulkFm (FmOk w) Tryz.underlying24 (by kernel_rfl) (fun m hm cs x hh => ih m (by omega) hh) h3
    simp at q0 q1 q2 q3
    refine ⟨.mk i0 i1 r2 ka kn kc ks, ?_, ?_, FmIn.mk hk2 hk1 (fun _ _ _ => trivial) hk4⟩
    · rw [q0, q1, q2.1, q2.2, q3]; rfl
    · rw [hx]
      unfold bulkFm
      rw [strip_mk, Fo.bulk, bulkFoL_sum]
      simp only [List.map_cons, List.map_nil, Rows.uptoBulk, Rows.uptoBulkAll, b2]
      simp [Rows.uptoBulk]
      omega
  | [], hl, _, _ => simp at hl
end
end Go.Proofs.YtnhilgciddcahaaGreatDoor
