/- Trees: the reference's first and leans. -/
import Derived.Test.YtdfdnedcaodmkaaGreatTreH
import Derived.Test.YtdfdnedcaodmkaaGreatRoleA
import Derived.MapKept
import Derived.Test.YtdfdnedcaodmkaaGreatCellB
import Derived.ArgAppend
import Derived.WalkSpells
import Derived.Test.YtdfdnedcaodmkaaGreatChkE
namespace Go.Proofs.YtdfdnedcaodmkaaGreat
set_option linter.unusedSimpArgs false
set_option linter.unusedVariables false
open Go Go.RowKit
theorem step_take {l : List StepT} {j : Nat} (h : j < l.length) : (l.map StepT.f).take (j + 1) = (l.map StepT.f).take j ++ [l[j].f] := by
  have h2 : j < (l.map StepT.f).length := by simpa using h
  rw [← List.take_append_getElem h2, List.getElem_map]
set_option maxRecDepth 100000 in
set_option maxHeartbeats 4000000 in
theorem refFirst_any (a : Option Addr) (n c : Nat) (l : List StepT) (y : FactT) (W : World) (h : Fl W a n l) (hn : n ≤ 2000000) :
    Calls Tryz.prog 60 #[.slice a n c, rV y.r, S y.w] W fun e w' => e = .returned (.int .i64 (fpI (l.map StepT.f) y)) ∧ Ext W w' := by
  have H := Lib.hid h
  have HNL := Lib.hid h.1
  clear h
  obtain ⟨⟨ho, hd⟩, nw⟩ := y
  have st := Own.startOld W
  unfold rV S
  (try simp only [nsl, Value.cells, unB] at st)
  (try clear hc); have hc := st.facts; (try simp only [nfl, nft, elI, elF, Nat.reduceAdd] at hc)
  go_enter Tryz.func60, Tryz.ntmps60
  go_wp2_with ((first
        | ((with_reducible refine wl_box ?_ (fun K hK => ?_)); rfl; refine owp_box (o := ⟨some 4, _, _, _, _, _⟩) rfl st ?_; apply Exists.intro; refine ⟨?_, ?_⟩; (focus (go_simp; try rfl)); (clear st; intro b4 w hb st; clear hb))
        | ((with_reducible refine wl_alloc ?_ (fun K hK => ?_)); rfl; refine owp_alloc (o := ⟨some 8, _, _, _, _, _⟩) rfl st ?_; apply Exists.intro; apply Exists.intro; refine ⟨?_, ?_⟩; (focus (first | (go_simp; done) | (go_simp; rfl))); (clear st; intro b8 w hb st; clear hb))
        | ((with_reducible refine wl_store ?_ (fun K hK => ?_)); rfl; refine owp_store rfl st ?_; apply Exists.intro; apply Exists.intro; refine ⟨?_, ?_, ?_⟩; (focus (go_simp; try rfl)); (focus (go_simp; try rfl)); (first | (with_reducible refine ⟨0, _, _, _, _, get0, rfl, rfl, ?_, ?_, ?_, ?_⟩) | (with_reducible refine ⟨1, _, _, _, _, get1, rfl, rfl, ?_, ?_, ?_, ?_⟩) | (with_reducible refine ⟨2, _, _, _, _, get2, rfl, rfl, ?_, ?_, ?_, ?_⟩) | (with_reducible refine ⟨3, _, _, _, _, get3, rfl, rfl, ?_, ?_, ?_, ?_⟩) | (with_reducible refine ⟨4, _, _, _, _, get4, rfl, rfl, ?_, ?_, ?_, ?_⟩) | (with_reducible refine ⟨5, _, _, _, _, get5, rfl, rfl, ?_, ?_, ?_, ?_⟩)); (kernel_rfl); (simp [Value.cells]); (rfl); (clear st; intro w st))); (try simp only [nsl, Value.cells, unB] at st); (try clear hc); have hc := st.facts; (try simp only [nfl, nft, elI, elF, Nat.reduceAdd] at hc))
  go_loopg [11] n (fun k i wr => ∃ (j : Nat), j ≤ n ∧ k = n - j ∧ i = .int .i64 (j : Int) ∧ Hid ((⟨(ho, hd), nw⟩ : FactT) ∉ (l.map StepT.f).take j) ∧ Own (fun _ => False) (fun _ => True) W [oldI W, blkI b4 [.string ⟨ho.toArray⟩, .string ⟨hd.toArray⟩]] wr)
  case atStart => exact ⟨0, by omega, by omega, rfl, Lib.hid (by simp), st⟩
  case round =>
    obtain ⟨j, hj, rfl, rfl, HT, st'⟩ := hrel
    clear st hc
    have st := st'
    clear st'
    (try simp only [nsl, Value.cells, unB] at st)
    (try clear hc); have hc := st.facts; (try simp only [nfl, nft, elI, elF, Nat.reduceAdd] at hc)
    by_cases hjn : j < n
    · obtain ⟨b, off, ha, hcell⟩ := H.out.step (by omega)
      have hjl : j < l.length := by have := HNL.out; omega
      obtain ⟨r0, r1, r2, r3, r4, r5, r6, r7, r8, r9, r10, r11⟩ := hcell j l[j] (List.getElem?_eq_getElem hjl)
      replace r0 := st.oldCell (i := 0) get0 r0
      replace r1 := st.oldCell (i := 0) get0 r1
      replace r2 := st.oldCell (i := 0) get0 r2
      replace r3 := st.oldCell (i := 0) get0 r3
      replace r4 := st.oldCell (i := 0) get0 r4
      replace r5 := st.oldCell (i := 0) get0 r5
      replace r6 := st.oldCell (i := 0) get0 r6
      replace r7 := st.oldCell (i := 0) get0 r7
      replace r8 := st.oldCell (i := 0) get0 r8
      replace r9 := st.oldCell (i := 0) get0 r9
      replace r10 := st.oldCell (i := 0) get0 r10
      replace r11 := st.oldCell (i := 0) get0 r11
      have HX := Lib.hid (step_take hjl)
      clear hcell
      generalize l[j] = x at *
      obtain ⟨⟨ck, ⟨co1, cd1⟩, cw, ⟨bo, bd⟩, ⟨co, cd⟩, we⟩, ⟨⟨ro, rd⟩, fw⟩⟩ := x
      have HN : Hid (¬ ((⟨(ro, rd), fw⟩ : FactT) = ⟨(ho, hd), nw⟩) → (⟨(ho, hd), nw⟩ : FactT) ∉ (l.map StepT.f).take (j + 1)) := Lib.hid (fun hr => by
        rw [HX.out]
        intro q
        rcases List.mem_append.1 q with q | q
        · exact HT.out q
        · exact hr (List.mem_singleton.1 q).symm)
      subst ha
      simp only at r0 r1 r2 r3 r4 r5 r6 r7 r8 r9 r10 r11
      unfold S at r1 r2 r3 r4 r5 r6 r7 r8 r9 r10 r11
      cases hr : roleEq (ro, rd) (ho, hd) with
      | false =>
        have HF := Lib.hid (HN.out (fun q => by
          rw [roleEq_eq, decide_eq_false_iff_not] at hr
          injection q with q1
          exact hr q1))
        go_wp2_with ((first
              | ((with_reducible refine wl_box ?_ (fun K hK => ?_)); rfl; refine owp_box (o := ⟨some 4, _, _, _, _, _⟩) rfl st ?_; apply Exists.intro; refine ⟨?_, ?_⟩; (focus (go_simp; try rfl)); (clear st; intro b4 w hb st; clear hb))
              | ((with_reducible refine wl_alloc ?_ (fun K hK => ?_)); rfl; refine owp_alloc (o := ⟨some 8, _, _, _, _, _⟩) rfl st ?_; apply Exists.intro; apply Exists.intro; refine ⟨?_, ?_⟩; (focus (first | (go_simp; done) | (go_simp; rfl))); (clear st; intro b8 w hb st; clear hb))
              | ((with_reducible refine wl_store ?_ (fun K hK => ?_)); rfl; refine owp_store rfl st ?_; apply Exists.intro; apply Exists.intro; refine ⟨?_, ?_, ?_⟩; (focus (go_simp; try rfl)); (focus (go_simp; try rfl)); (first | (with_reducible refine ⟨0, _, _, _, _, get0, rfl, rfl, ?_, ?_, ?_, ?_⟩) | (with_reducible refine ⟨1, _, _, _, _, get1, rfl, rfl, ?_, ?_, ?_, ?_⟩) | (with_reducible refine ⟨2, _, _, _, _, get2, rfl, rfl, ?_, ?_, ?_, ?_⟩) | (with_reducible refine ⟨3, _, _, _, _, get3, rfl, rfl, ?_, ?_, ?_, ?_⟩) | (with_reducible refine ⟨4, _, _, _, _, get4, rfl, rfl, ?_, ?_, ?_, ?_⟩) | (with_reducible refine ⟨5, _, _, _, _, get5, rfl, rfl, ?_, ?_, ?_, ?_⟩)); (kernel_rfl); (simp [Value.cells]); (rfl); (clear st; intro w st))); (try simp only [nsl, Value.cells, unB] at st); (try clear hc); have hc := st.facts; (try simp only [nfl, nft, elI, elF, Nat.reduceAdd] at hc))
        have st' := st.keep [0, 1] (by decide) (by simp)
        go_roundg (n - (j + 1))
        case measure => omega
        case rel => exact ⟨j + 1, by omega, by omega, by first | rfl | trivial | go_num, HF, by simpa [pick] using st'⟩
      | true =>
        cases hw : fw == nw with
        | false =>
          have HF := Lib.hid (HN.out (fun q => by
            injection q with q1 q2
            rw [q2] at hw
            simp at hw))
          go_wp2_with ((first
                | ((with_reducible refine wl_box ?_ (fun K hK => ?_)); rfl; refine owp_box (o := ⟨some 4, _, _, _, _, _⟩) rfl st ?_; apply Exists.intro; refine ⟨?_, ?_⟩; (focus (go_simp; try rfl)); (clear st; intro b4 w hb st; clear hb))
                | ((with_reducible refine wl_alloc ?_ (fun K hK => ?_)); rfl; refine owp_alloc (o := ⟨some 8, _, _, _, _, _⟩) rfl st ?_; apply Exists.intro; apply Exists.intro; refine ⟨?_, ?_⟩; (focus (first | (go_simp; done) | (go_simp; rfl))); (clear st; intro b8 w hb st; clear hb))
                | ((with_reducible refine wl_store ?_ (fun K hK => ?_)); rfl; refine owp_store rfl st ?_; apply Exists.intro; apply Exists.intro; refine ⟨?_, ?_, ?_⟩; (focus (go_simp; try rfl)); (focus (go_simp; try rfl)); (first | (with_reducible refine ⟨0, _, _, _, _, get0, rfl, rfl, ?_, ?_, ?_, ?_⟩) | (with_reducible refine ⟨1, _, _, _, _, get1, rfl, rfl, ?_, ?_, ?_, ?_⟩) | (with_reducible refine ⟨2, _, _, _, _, get2, rfl, rfl, ?_, ?_, ?_, ?_⟩) | (with_reducible refine ⟨3, _, _, _, _, get3, rfl, rfl, ?_, ?_, ?_, ?_⟩) | (with_reducible refine ⟨4, _, _, _, _, get4, rfl, rfl, ?_, ?_, ?_, ?_⟩) | (with_reducible refine ⟨5, _, _, _, _, get5, rfl, rfl, ?_, ?_, ?_, ?_⟩)); (kernel_rfl); (simp [Value.cells]); (rfl); (clear st; intro w st))); (try simp only [nsl, Value.cells, unB] at st); (try clear hc); have hc := st.facts; (try simp only [nfl, nft, elI, elF, Nat.reduceAdd] at hc))
          have st' := st.keep [0, 1] (by decide) (by simp)
          go_roundg (n - (j + 1))
          case measure => omega
          case rel => exact ⟨j + 1, by omega, by omega, by first | rfl | trivial | go_num, HF, by simpa [pick] using st'⟩
        | true =>
          have HF : Hid (fpI (l.map StepT.f) (⟨(ho, hd), nw⟩ : FactT) = (j : Int)) := Lib.hid (by
            rw [roleEq_eq, decide_eq_true_eq] at hr
            rw [beq_iff_eq] at hw
            exact fpI_hit HX.out (by rw [hr, hw]) HT.out)
          go_wp2_with ((first
                | ((with_reducible refine wl_box ?_ (fun K hK => ?_)); rfl; refine owp_box (o := ⟨some 4, _, _, _, _, _⟩) rfl st ?_; apply Exists.intro; refine ⟨?_, ?_⟩; (focus (go_simp; try rfl)); (clear st; intro b4 w hb st; clear hb))
                | ((with_reducible refine wl_alloc ?_ (fun K hK => ?_)); rfl; refine owp_alloc (o := ⟨some 8, _, _, _, _, _⟩) rfl st ?_; apply Exists.intro; apply Exists.intro; refine ⟨?_, ?_⟩; (focus (first | (go_simp; done) | (go_simp; rfl))); (clear st; intro b8 w hb st; clear hb))
                | ((with_reducible refine wl_store ?_ (fun K hK => ?_)); rfl; refine owp_store rfl st ?_; apply Exists.intro; apply Exists.intro; refine ⟨?_, ?_, ?_⟩; (focus (go_simp; try rfl)); (focus (go_simp; try rfl)); (first | (with_reducible refine ⟨0, _, _, _, _, get0, rfl, rfl, ?_, ?_, ?_, ?_⟩) | (with_reducible refine ⟨1, _, _, _, _, get1, rfl, rfl, ?_, ?_, ?_, ?_⟩) | (with_reducible refine ⟨2, _, _, _, _, get2, rfl, rfl, ?_, ?_, ?_, ?_⟩) | (with_reducible refine ⟨3, _, _, _, _, get3, rfl, rfl, ?_, ?_, ?_, ?_⟩) | (with_reducible refine ⟨4, _, _, _, _, get4, rfl, rfl, ?_, ?_, ?_, ?_⟩) | (with_reducible refine ⟨5, _, _, _, _, get5, rfl, rfl, ?_, ?_, ?_, ?_⟩)); (kernel_rfl); (simp [Value.cells]); (rfl); (clear st; intro w st))); (try simp only [nsl, Value.cells, unB] at st); (try clear hc); have hc := st.facts; (try simp only [nfl, nft, elI, elF, Nat.reduceAdd] at hc))
          go_ret
          exact ⟨by rw [HF.out]; rfl, st.ext0⟩
    · obtain rfl : j = n := by omega
      have HF : Hid ((⟨(ho, hd), nw⟩ : FactT) ∉ l.map StepT.f) := Lib.hid (by have := HT.out; rwa [List.take_of_length_le (by rw [List.length_map]; have := HNL.out; omega)] at this)
      go_wp2_with ((first
            | ((with_reducible refine wl_box ?_ (fun K hK => ?_)); rfl; refine owp_box (o := ⟨some 4, _, _, _, _, _⟩) rfl st ?_; apply Exists.intro; refine ⟨?_, ?_⟩; (focus (go_simp; try rfl)); (clear st; intro b4 w hb st; clear hb))
            | ((with_reducible refine wl_alloc ?_ (fun K hK => ?_)); rfl; refine owp_alloc (o := ⟨some 8, _, _, _, _, _⟩) rfl st ?_; apply Exists.intro; apply Exists.intro; refine ⟨?_, ?_⟩; (focus (first | (go_simp; done) | (go_simp; rfl))); (clear st; intro b8 w hb st; clear hb))
            | ((with_reducible refine wl_store ?_ (fun K hK => ?_)); rfl; refine owp_store rfl st ?_; apply Exists.intro; apply Exists.intro; refine ⟨?_, ?_, ?_⟩; (focus (go_simp; try rfl)); (focus (go_simp; try rfl)); (first | (with_reducible refine ⟨0, _, _, _, _, get0, rfl, rfl, ?_, ?_, ?_, ?_⟩) | (with_reducible refine ⟨1, _, _, _, _, get1, rfl, rfl, ?_, ?_, ?_, ?_⟩) | (with_reducible refine ⟨2, _, _, _, _, get2, rfl, rfl, ?_, ?_, ?_, ?_⟩) | (with_reducible refine ⟨3, _, _, _, _, get3, rfl, rfl, ?_, ?_, ?_, ?_⟩) | (with_reducible refine ⟨4, _, _, _, _, get4, rfl, rfl, ?_, ?_, ?_, ?_⟩) | (with_reducible refine ⟨5, _, _, _, _, get5, rfl, rfl, ?_, ?_, ?_, ?_⟩)); (kernel_rfl); (simp [Value.cells]); (rfl); (clear st; intro w st))); (try simp only [nsl, Value.cells, unB] at st); (try clear hc); have hc := st.facts; (try simp only [nfl, nft, elI, elF, Nat.reduceAdd] at hc))
      go_ret
      exact ⟨by rw [fpI_miss HF.out]; rfl, st.ext0⟩
set_option maxRecDepth 100000 in
set_option maxHeartbeats 8000000 in
theorem refLeans_any (la : Option Addr) (n lc i : Nat) (l : List StepT) (x : StepT) (W : World) (hl : Fl W la n l) (hx : l[i]? = some x) (hi : n = i + 1) (hlc : n ≤ lc) (hnl : n ≤ 1000000)
    (h2 : x.c.k = 2 → (⟨x.c.b, x.f.w⟩ : FactT) ∈ (l.map StepT.f).take i) (h4 : x.c.k = 4 → (⟨x.c.b, x.f.w⟩ : FactT) ∈ (l.map StepT.f).take i ∧ (⟨x.c.c, x.f.w⟩ : FactT) ∈ (l.map StepT.f).take i) :
    Calls Tryz.prog 35 #[.slice la n lc] W fun e w' => ∃ va vc, e = .returned (.slice va (leansF ((l.map StepT.f).take i) x).length vc) ∧ FreshI W w' (rowI 3 1 (.slice va (leansF ((l.map StepT.f).take i) x).length vc) (leansF ((l.map StepT.f).take i) x).length (cellsL (leansF ((l.map StepT.f).take i) x))) := by
  have hfp := hl.pre i (by omega)
  have HF1 := Lib.hid (fun W' (hx : Ext W W') y => refFirst_any la i lc (l.take i) y W' (Arr.ext hfp hx) (by omega))
  rw [List.map_take] at HF1
  obtain ⟨b, off, e, hcell⟩ := hl.step (by omega)
  subst e
  have HA := Lib.hid hcell
  have HNL := Lib.hid hl.1
  obtain ⟨r0, r1, r2, r3, r4, r5, r6, r7, r8, r9, r10, r11⟩ := hcell i x hx
  clear hl hcell hx hfp
  obtain ⟨G, hG⟩ : ∃ G, (l.map StepT.f).take i = G := ⟨_, rfl⟩
  have HG := Lib.hid hG
  rw [hG] at HF1 h2 h4 ⊢
  clear hG
  have HKL := Lib.hid (leansF_2 (G := G) (x := x))
  have HK4 := Lib.hid (leansF_4 (G := G) (x := x))
  have HK3 := Lib.hid (leansF_3 (G := G) (x := x))
  have HK0 := Lib.hid (leansF_0 (G := G) (x := x))
  obtain ⟨ks, hks⟩ : ∃ ks, leansF G x = ks := ⟨_, rfl⟩
  rw [hks] at HKL HK4 HK3 HK0 ⊢
  have H2 := Lib.hid h2
  have H4 := Lib.hid h4
  clear hks h2 h4
  obtain ⟨⟨k, ⟨ho, hd⟩, nw, ⟨bo, bd⟩, ⟨co, cd⟩, we⟩, ⟨⟨ro, rd⟩, fw⟩⟩ := x
  have st := Own.startOld W
  simp only at HKL HK4 HK3 HK0 H2 H4 r0 r1 r2 r3 r4 r5 r6 r7 r8 r9 r10 r11
  unfold S at r1 r2 r3 r4 r5 r6 r7 r8 r9 r10 r11
  have hnb : (i : Int) < 9223372036854775807 := by omega
  subst hi
  have e1 : IntKind.i64.wrap (((i + 1 : Nat) : Int) - 1) = (i : Int) := by rw [IntKind.wrap_i64]; omega
  by_cases k2 : k = 2
  · subst k2
    have HE := Lib.hid (HKL.out rfl)
    have HM := Lib.hid (fpI_in (H2.out rfl))
    have HC1 : Hid (∀ W', Ext W W' → Calls Tryz.prog 60 #[.slice (some ⟨b, off, none⟩) i lc, rV (bo, bd), S fw] W' fun e w' => e = .returned (.int .i64 ((G.idxOf ⟨(bo, bd), fw⟩ : Nat) : Int)) ∧ Ext W' w') := Lib.hid (fun W' hx => by have := HF1.out W' hx ⟨(bo, bd), fw⟩; rwa [HM.out] at this)
    clear HM
    generalize G.idxOf ⟨(bo, bd), fw⟩ = u1 at *
    obtain rfl := HE.out
    unfold rV S at HC1
    (try simp only [nsl, Value.cells, unB] at st)
    (try clear hc); have hc := st.facts; (try simp only [nfl, nft, elI, elF, Nat.reduceAdd] at hc)
    go_enter Tryz.func35, Tryz.ntmps35
    go_wp2_with ((first
          | ((with_reducible refine wl_alloc ?_ (fun K hK => ?_)); rfl; refine owp_alloc (o := ⟨some 3, _, _, _, _, _⟩) rfl st ?_; apply Exists.intro; apply Exists.intro; refine ⟨?_, ?_⟩; (focus (first | (go_simp; done) | (go_simp; rfl))); (clear st; intro b3 w hb st; clear hb))
          | ((with_reducible refine wl_store ?_ (fun K hK => ?_)); rfl; refine owp_store rfl st ?_; apply Exists.intro; apply Exists.intro; refine ⟨?_, ?_, ?_⟩; (focus (go_simp; try rfl)); (focus (go_simp; try rfl)); (first | (with_reducible refine ⟨0, _, _, _, _, get0, rfl, rfl, ?_, ?_, ?_, ?_⟩) | (with_reducible refine ⟨1, _, _, _, _, get1, rfl, rfl, ?_, ?_, ?_, ?_⟩) | (with_reducible refine ⟨2, _, _, _, _, get2, rfl, rfl, ?_, ?_, ?_, ?_⟩) | (with_reducible refine ⟨3, _, _, _, _, get3, rfl, rfl, ?_, ?_, ?_, ?_⟩) | (with_reducible refine ⟨4, _, _, _, _, get4, rfl, rfl, ?_, ?_, ?_, ?_⟩) | (with_reducible refine ⟨5, _, _, _, _, get5, rfl, rfl, ?_, ?_, ?_, ?_⟩)); (kernel_rfl); (simp [Value.cells]); (rfl); (clear st; intro w st))
          | ((with_reducible refine wl_alloc ?_ (fun K hK => ?_)); rfl; refine owp_alloc (o := ⟨some 5, _, _, _, _, _⟩) rfl st ?_; apply Exists.intro; apply Exists.intro; refine ⟨?_, ?_⟩; (focus (first | (go_simp; done) | (go_simp; rfl))); (clear st; intro b5 w hb st; clear hb))
          | ((with_reducible refine wl_buildSlice ?_ (fun K hK => ?_)); rfl; refine owp_buildSlice (o := ⟨some 32, _, _, _, _, _⟩) rfl st ?_; apply Exists.intro; apply Exists.intro; apply Exists.intro; apply Exists.intro; refine ⟨?_, ?_⟩; (focus (go_simp; (first | done | exact ⟨⟨rfl, rfl⟩, rfl⟩ | rfl))); (clear st; intro b32 w hb st; clear hb))
          | ((with_reducible refine wl_buildSlice ?_ (fun K hK => ?_)); rfl; refine owp_buildSlice (o := ⟨some 50, _, _, _, _, _⟩) rfl st ?_; apply Exists.intro; apply Exists.intro; apply Exists.intro; apply Exists.intro; refine ⟨?_, ?_⟩; (focus (go_simp; (first | done | exact ⟨⟨rfl, rfl⟩, rfl⟩ | rfl))); (clear st; intro b50 w hb st; clear hb))
          | ((with_reducible refine wl_alloc ?_ (fun K hK => ?_)); rfl; refine owp_alloc (o := ⟨some 7, _, _, _, _, _⟩) rfl st ?_; apply Exists.intro; apply Exists.intro; refine ⟨?_, ?_⟩; (focus (first | (go_simp; done) | (go_simp; rfl))); (clear st; intro b7 w hb st; clear hb))
          | ((with_reducible refine wl_buildSlice ?_ (fun K hK => ?_)); rfl; refine owp_buildSlice (o := ⟨some 84, _, _, _, _, _⟩) rfl st ?_; apply Exists.intro; apply Exists.intro; apply Exists.intro; apply Exists.intro; refine ⟨?_, ?_⟩; (focus (go_simp; (first | done | exact ⟨⟨rfl, rfl⟩, rfl⟩ | rfl))); (clear st; intro b84 w hb st; clear hb))); (try simp only [nsl, Value.cells, unB] at st); (try clear hc); have hc := st.facts; (try simp only [nfl, nft, elI, elF, Nat.reduceAdd] at hc))
    clear r0 r1 r2 r3 r4 r5 r6 r7 r8 r9 r10 r11
    refine (HC1.out _ st.ext0).mono ?_
    rintro en w ⟨rfl, hx⟩
    replace st := st.ext hx
    clear hx
    (try clear hc); have hc := st.facts; (try simp only [nfl, nft, elI, elF, Nat.reduceAdd] at hc)
    go_wp2_with (first
        | ((with_reducible refine wl_buildSlice ?_ (fun K hK => ?_)); (rfl); (refine owp_buildRow (o := ⟨some 32, _, _, _, _, _⟩) rfl st 3 1 ?_; refine ⟨1, #[.int .i64 (u1 : Int)], ?_, by simp, by simp [maxLen], ?_⟩; (focus (go_simp; (first | done | rfl))); (clear st; intro b32 w hb st; clear hb)); (try simp only [nsl, Value.cells, unB] at st); (try clear hc); have hc := st.facts; (try simp only [nfl, nft, elI, elF, Nat.reduceAdd] at hc))
        | ((first
          | ((with_reducible refine wl_alloc ?_ (fun K hK => ?_)); rfl; refine owp_alloc (o := ⟨some 3, _, _, _, _, _⟩) rfl st ?_; apply Exists.intro; apply Exists.intro; refine ⟨?_, ?_⟩; (focus (first | (go_simp; done) | (go_simp; rfl))); (clear st; intro b3 w hb st; clear hb))
          | ((with_reducible refine wl_store ?_ (fun K hK => ?_)); rfl; refine owp_store rfl st ?_; apply Exists.intro; apply Exists.intro; refine ⟨?_, ?_, ?_⟩; (focus (go_simp; try rfl)); (focus (go_simp; try rfl)); (first | (with_reducible refine ⟨0, _, _, _, _, get0, rfl, rfl, ?_, ?_, ?_, ?_⟩) | (with_reducible refine ⟨1, _, _, _, _, get1, rfl, rfl, ?_, ?_, ?_, ?_⟩) | (with_reducible refine ⟨2, _, _, _, _, get2, rfl, rfl, ?_, ?_, ?_, ?_⟩) | (with_reducible refine ⟨3, _, _, _, _, get3, rfl, rfl, ?_, ?_, ?_, ?_⟩) | (with_reducible refine ⟨4, _, _, _, _, get4, rfl, rfl, ?_, ?_, ?_, ?_⟩) | (with_reducible refine ⟨5, _, _, _, _, get5, rfl, rfl, ?_, ?_, ?_, ?_⟩)); (kernel_rfl); (simp [Value.cells]); (rfl); (clear st; intro w st))
          | ((with_reducible refine wl_alloc ?_ (fun K hK => ?_)); rfl; refine owp_alloc (o := ⟨some 5, _, _, _, _, _⟩) rfl st ?_; apply Exists.intro; apply Exists.intro; refine ⟨?_, ?_⟩; (focus (first | (go_simp; done) | (go_simp; rfl))); (clear st; intro b5 w hb st; clear hb))
          | ((with_reducible refine wl_buildSlice ?_ (fun K hK => ?_)); rfl; refine owp_buildSlice (o := ⟨some 32, _, _, _, _, _⟩) rfl st ?_; apply Exists.intro; apply Exists.intro; apply Exists.intro; apply Exists.intro; refine ⟨?_, ?_⟩; (focus (go_simp; (first | done | exact ⟨⟨rfl, rfl⟩, rfl⟩ | rfl))); (clear st; intro b32 w hb st; clear hb))
          | ((with_reducible refine wl_buildSlice ?_ (fun K hK => ?_)); rfl; refine owp_buildSlice (o := ⟨some 50, _, _, _, _, _⟩) rfl st ?_; apply Exists.intro; apply Exists.intro; apply Exists.intro; apply Exists.intro; refine ⟨?_, ?_⟩; (focus (go_simp; (first | done | exact ⟨⟨rfl, rfl⟩, rfl⟩ | rfl))); (clear st; intro b50 w hb st; clear hb))
          | ((with_reducible refine wl_alloc ?_ (fun K hK => ?_)); rfl; refine owp_alloc (o := ⟨some 7, _, _, _, _, _⟩) rfl st ?_; apply Exists.intro; apply Exists.intro; refine ⟨?_, ?_⟩; (focus (first | (go_simp; done) | (go_simp; rfl))); (clear st; intro b7 w hb st; clear hb))
          | ((with_reducible refine wl_buildSlice ?_ (fun K hK => ?_)); rfl; refine owp_buildSlice (o := ⟨some 84, _, _, _, _, _⟩) rfl st ?_; apply Exists.intro; apply Exists.intro; apply Exists.intro; apply Exists.intro; refine ⟨?_, ?_⟩; (focus (go_simp; (first | done | exact ⟨⟨rfl, rfl⟩, rfl⟩ | rfl))); (clear st; intro b84 w hb st; clear hb))); (try simp only [nsl, Value.cells, unB] at st); (try clear hc); have hc := st.facts; (try simp only [nfl, nft, elI, elF, Nat.reduceAdd] at hc)))
    go_ret
    exact ⟨_, _, rfl, st.toFresh (i := 3) get3⟩
  · have h2f : (k == 2) = false := by simpa using k2
    by_cases k4 : k = 4
    · subst k4
      have HE := Lib.hid (HK4.out rfl)
      have HM := Lib.hid (fpI_in (H4.out rfl).1)
      have HM2 := Lib.hid (fpI_in (H4.out rfl).2)
      have HC1 : Hid (∀ W', Ext W W' → Calls Tryz.prog 60 #[.slice (some ⟨b, off, none⟩) i lc, rV (bo, bd), S fw] W' fun e w' => e = .returned (.int .i64 ((G.idxOf ⟨(bo, bd), fw⟩ : Nat) : Int)) ∧ Ext W' w') := Lib.hid (fun W' hx => by have := HF1.out W' hx ⟨(bo, bd), fw⟩; rwa [HM.out] at this)
      have HC2 : Hid (∀ W', Ext W W' → Calls Tryz.prog 60 #[.slice (some ⟨b, off, none⟩) i lc, rV (co, cd), S fw] W' fun e w' => e = .returned (.int .i64 ((G.idxOf ⟨(co, cd), fw⟩ : Nat) : Int)) ∧ Ext W' w') := Lib.hid (fun W' hx => by have := HF1.out W' hx ⟨(co, cd), fw⟩; rwa [HM2.out] at this)
      clear HM HM2
      generalize G.idxOf ⟨(bo, bd), fw⟩ = u1 at *
      generalize G.idxOf ⟨(co, cd), fw⟩ = u2 at *
      obtain rfl := HE.out
      unfold rV S at HC1 HC2
      (try simp only [nsl, Value.cells, unB] at st)
      (try clear hc); have hc := st.facts; (try simp only [nfl, nft, elI, elF, Nat.reduceAdd] at hc)
      go_enter Tryz.func35, Tryz.ntmps35
      go_wp2_with ((first
            | ((with_reducible refine wl_alloc ?_ (fun K hK => ?_)); rfl; refine owp_alloc (o := ⟨some 3, _, _, _, _, _⟩) rfl st ?_; apply Exists.intro; apply Exists.intro; refine ⟨?_, ?_⟩; (focus (first | (go_simp; done) | (go_simp; rfl))); (clear st; intro b3 w hb st; clear hb))
            | ((with_reducible refine wl_store ?_ (fun K hK => ?_)); rfl; refine owp_store rfl st ?_; apply Exists.intro; apply Exists.intro; refine ⟨?_, ?_, ?_⟩; (focus (go_simp; try rfl)); (focus (go_simp; try rfl)); (first | (with_reducible refine ⟨0, _, _, _, _, get0, rfl, rfl, ?_, ?_, ?_, ?_⟩) | (with_reducible refine ⟨1, _, _, _, _, get1, rfl, rfl, ?_, ?_, ?_, ?_⟩) | (with_reducible refine ⟨2, _, _, _, _, get2, rfl, rfl, ?_, ?_, ?_, ?_⟩) | (with_reducible refine ⟨3, _, _, _, _, get3, rfl, rfl, ?_, ?_, ?_, ?_⟩) | (with_reducible refine ⟨4, _, _, _, _, get4, rfl, rfl, ?_, ?_, ?_, ?_⟩) | (with_reducible refine ⟨5, _, _, _, _, get5, rfl, rfl, ?_, ?_, ?_, ?_⟩)); (kernel_rfl); (simp [Value.cells]); (rfl); (clear st; intro w st))
            | ((with_reducible refine wl_alloc ?_ (fun K hK => ?_)); rfl; refine owp_alloc (o := ⟨some 5, _, _, _, _, _⟩) rfl st ?_; apply Exists.intro; apply Exists.intro; refine ⟨?_, ?_⟩; (focus (first | (go_simp; done) | (go_simp; rfl))); (clear st; intro b5 w hb st; clear hb))
            | ((with_reducible refine wl_buildSlice ?_ (fun K hK => ?_)); rfl; refine owp_buildSlice (o := ⟨some 32, _, _, _, _, _⟩) rfl st ?_; apply Exists.intro; apply Exists.intro; apply Exists.intro; apply Exists.intro; refine ⟨?_, ?_⟩; (focus (go_simp; (first | done | exact ⟨⟨rfl, rfl⟩, rfl⟩ | rfl))); (clear st; intro b32 w hb st; clear hb))
            | ((with_reducible refine wl_buildSlice ?_ (fun K hK => ?_)); rfl; refine owp_buildSlice (o := ⟨some 50, _, _, _, _, _⟩) rfl st ?_; apply Exists.intro; apply Exists.intro; apply Exists.intro; apply Exists.intro; refine ⟨?_, ?_⟩; (focus (go_simp; (first | done | exact ⟨⟨rfl, rfl⟩, rfl⟩ | rfl))); (clear st; intro b50 w hb st; clear hb))
            | ((with_reducible refine wl_alloc ?_ (fun K hK => ?_)); rfl; refine owp_alloc (o := ⟨some 7, _, _, _, _, _⟩) rfl st ?_; apply Exists.intro; apply Exists.intro; refine ⟨?_, ?_⟩; (focus (first | (go_simp; done) | (go_simp; rfl))); (clear st; intro b7 w hb st; clear hb))
            | ((with_reducible refine wl_buildSlice ?_ (fun K hK => ?_)); rfl; refine owp_buildSlice (o := ⟨some 84, _, _, _, _, _⟩) rfl st ?_; apply Exists.intro; apply Exists.intro; apply Exists.intro; apply Exists.intro; refine ⟨?_, ?_⟩; (focus (go_simp; (first | done | exact ⟨⟨rfl, rfl⟩, rfl⟩ | rfl))); (clear st; intro b84 w hb st; clear hb))); (try simp only [nsl, Value.cells, unB] at st); (try clear hc); have hc := st.facts; (try simp only [nfl, nft, elI, elF, Nat.reduceAdd] at hc))
      clear r0 r1 r2 r3 r4 r5 r6 r7 r8 r9 r10 r11
      refine Rg4.wp_region4 (Rel := Ext) #[0, 0, 2, 0, 8, 24, 63, 0, 0, 256, 0, 1024, 3072, 8191, 16383, 32767]
        [(6, .val (.int .i64 (u1 : Int))), (13, .val (.int .i64 (u2 : Int)))] [14] [2, 5, 9, 12] (fun _ => True) [0, 1, 2, 3, 4, 5, 6, 7, 8, 9, 10, 11, 12, 13, 14, 15] (by kernel_rfl) (by kernel_rfl) (by kernel_rfl) (by kernel_rfl) Ext.refl (fun _ _ _ => Ext.trans) (show Rg4.PB _ by repeat (first | with_reducible exact Rg4.pb_body | with_reducible exact Rg4.pb_bodyD rfl | with_reducible refine Rg4.pb_then ?_ | with_reducible refine Rg4.pb_inBlock ?_ | with_reducible refine Rg4.pb_noGoto ?_ | with_reducible assumption)) (trivial) ?_
      replace st := st.drew
      change Rg4.wp4 _ _ _ _ _ _ _ _ _ (World.drew _) _ _
      generalize World.drew _ = w at st ⊢
      (try clear hc); have hc := st.facts; (try simp only [nfl, nft, elI, elF, Nat.reduceAdd] at hc)
      iterate 2 (refine Rg4.w4_any (Rg4.want_none rfl) rfl ?_; apply Exists.intro; refine ⟨fun w' => ?_, ?_⟩; (focus (first | (go_simp; done) | (go_simp; first | rfl | (rw [if_neg] <;> first | rfl | omega) | (rw [if_pos] <;> first | rfl | omega)))); (try simp only [Rg4.nrm]))
      (refine Rg4.w4_read (Rg4.want_none rfl) rfl rfl ?_; apply Exists.intro; refine ⟨fun w' hw' hcl' => ?_, ?_⟩; focus (have st' := st.ext hw'; have hc' := st'.facts; (try simp only [nfl, nft, elI, elF, Nat.reduceAdd] at hc'); (focus (first | (go_simp; done) | (go_simp; first | rfl | (rw [if_neg] <;> first | rfl | omega) | (rw [if_pos] <;> first | rfl | omega))))); (try simp only [Rg4.nrm]))
      iterate 2 (refine Rg4.w4_any (Rg4.want_none rfl) rfl ?_; apply Exists.intro; refine ⟨fun w' => ?_, ?_⟩; (focus (first | (go_simp; done) | (go_simp; first | rfl | (rw [if_neg] <;> first | rfl | omega) | (rw [if_pos] <;> first | rfl | omega)))); (try simp only [Rg4.nrm]))
      (refine Rg4.w4_read (Rg4.want_none rfl) rfl rfl ?_; apply Exists.intro; refine ⟨fun w' hw' hcl' => ?_, ?_⟩; focus (have st' := st.ext hw'; have hc' := st'.facts; (try simp only [nfl, nft, elI, elF, Nat.reduceAdd] at hc'); (focus (first | (go_simp; done) | (go_simp; first | rfl | (rw [if_neg] <;> first | rfl | omega) | (rw [if_pos] <;> first | rfl | omega))))); (try simp only [Rg4.nrm]))
      refine Rg4.w4_some (Rg4.want_none rfl) rfl (fun w' hw' hcl' _ => ?_) ?_
      · refine Rg.relAt_call (by go_simp; exact ⟨rfl, rfl⟩) ?_
        refine (HC1.out _ (st.ext hw').ext0).mono ?_
        rintro en w'' ⟨rfl, hx⟩
        exact ⟨_, rfl, hx, trivial, rfl⟩
      rintro v ⟨_, _, _, rfl⟩
      (try simp only [Rg4.nrm])
      iterate 2 (refine Rg4.w4_any (Rg4.want_none rfl) rfl ?_; apply Exists.intro; refine ⟨fun w' => ?_, ?_⟩; (focus (first | (go_simp; done) | (go_simp; first | rfl | (rw [if_neg] <;> first | rfl | omega) | (rw [if_pos] <;> first | rfl | omega)))); (try simp only [Rg4.nrm]))
      (refine Rg4.w4_read (Rg4.want_none rfl) rfl rfl ?_; apply Exists.intro; refine ⟨fun w' hw' hcl' => ?_, ?_⟩; focus (have st' := st.ext hw'; have hc' := st'.facts; (try simp only [nfl, nft, elI, elF, Nat.reduceAdd] at hc'); (focus (first | (go_simp; done) | (go_simp; first | rfl | (rw [if_neg] <;> first | rfl | omega) | (rw [if_pos] <;> first | rfl | omega))))); (try simp only [Rg4.nrm]))
      iterate 2 (refine Rg4.w4_any (Rg4.want_none rfl) rfl ?_; apply Exists.intro; refine ⟨fun w' => ?_, ?_⟩; (focus (first | (go_simp; done) | (go_simp; first | rfl | (rw [if_neg] <;> first | rfl | omega) | (rw [if_pos] <;> first | rfl | omega)))); (try simp only [Rg4.nrm]))
      (refine Rg4.w4_read (Rg4.want_none rfl) rfl rfl ?_; apply Exists.intro; refine ⟨fun w' hw' hcl' => ?_, ?_⟩; focus (have st' := st.ext hw'; have hc' := st'.facts; (try simp only [nfl, nft, elI, elF, Nat.reduceAdd] at hc'); (focus (first | (go_simp; done) | (go_simp; first | rfl | (rw [if_neg] <;> first | rfl | omega) | (rw [if_pos] <;> first | rfl | omega))))); (try simp only [Rg4.nrm]))
      refine Rg4.w4_some (Rg4.want_none rfl) rfl (fun w' hw' hcl' _ => ?_) ?_
      · refine Rg.relAt_call (by go_simp; exact ⟨rfl, rfl⟩) ?_
        refine (HC2.out _ (st.ext hw').ext0).mono ?_
        rintro en w'' ⟨rfl, hx⟩
        exact ⟨_, rfl, hx, trivial, rfl⟩
      rintro v ⟨_, _, _, rfl⟩
      (try simp only [Rg4.nrm])

      refine Rg4.w4_bar (Rg4.want_none rfl) rfl (fun w' hw' hcl _ K hK => ?_)
      replace st := st.ext hw'
      clear hw'
      (try clear hc); have hc := st.facts; (try simp only [nfl, nft, elI, elF, Nat.reduceAdd] at hc)
      refine owp_buildRow (o := ⟨some 50, _, _, _, _, _⟩) rfl st 3 1 ?_
      refine ⟨2, #[.int .i64 (u1 : Int), .int .i64 (u2 : Int)], ?_, by simp, by simp [maxLen], ?_⟩
      focus (go_simp; (first | done | rfl))
      clear st
      intro b50 w hb50 st
      clear hb50
      (try simp only [nsl, Value.cells, unB] at st)
      (try clear hc); have hc := st.facts; (try simp only [nfl, nft, elI, elF, Nat.reduceAdd] at hc)
      refine hK _ _ ⟨trivial, ?_⟩
      clear hK
      (try simp only [Rg4.nrm])
      (refine Rg4.w4_any (Rg4.want_none rfl) rfl ?_; apply Exists.intro; refine ⟨fun w' => ?_, ?_⟩; (focus (first | (go_simp; done) | (go_simp; first | rfl | (rw [if_neg] <;> first | rfl | omega) | (rw [if_pos] <;> first | rfl | omega)))); (try simp only [Rg4.nrm]))
      refine Rg4.w4_nil (fun w' hw' hcl' _ => ?_); replace st := st.ext hw'; clear hw' hcl'; (try clear hc); have hc := st.facts; (try simp only [nfl, nft, elI, elF, Nat.reduceAdd] at hc)
      go_wp2_with fail
      go_ret
      exact ⟨_, _, rfl, st.toFresh (i := 3) get3⟩
    · have h4f : (k == 4) = false := by simpa using k4
      by_cases k3 : k = 3
      · subst k3
        have HE := Lib.hid (HK3.out rfl)
        clear HKL HK4 HK3 HK0 H2 H4 k2 k4
        (try simp only [nsl, Value.cells, unB] at st)
        (try clear hc); have hc := st.facts; (try simp only [nfl, nft, elI, elF, Nat.reduceAdd] at hc)
        go_enter Tryz.func35, Tryz.ntmps35
        go_wp2_with ((first
              | ((with_reducible refine wl_alloc ?_ (fun K hK => ?_)); rfl; refine owp_alloc (o := ⟨some 3, _, _, _, _, _⟩) rfl st ?_; apply Exists.intro; apply Exists.intro; refine ⟨?_, ?_⟩; (focus (first | (go_simp; done) | (go_simp; rfl))); (clear st; intro b3 w hb st; clear hb))
              | ((with_reducible refine wl_store ?_ (fun K hK => ?_)); rfl; refine owp_store rfl st ?_; apply Exists.intro; apply Exists.intro; refine ⟨?_, ?_, ?_⟩; (focus (go_simp; try rfl)); (focus (go_simp; try rfl)); (first | (with_reducible refine ⟨0, _, _, _, _, get0, rfl, rfl, ?_, ?_, ?_, ?_⟩) | (with_reducible refine ⟨1, _, _, _, _, get1, rfl, rfl, ?_, ?_, ?_, ?_⟩) | (with_reducible refine ⟨2, _, _, _, _, get2, rfl, rfl, ?_, ?_, ?_, ?_⟩) | (with_reducible refine ⟨3, _, _, _, _, get3, rfl, rfl, ?_, ?_, ?_, ?_⟩) | (with_reducible refine ⟨4, _, _, _, _, get4, rfl, rfl, ?_, ?_, ?_, ?_⟩) | (with_reducible refine ⟨5, _, _, _, _, get5, rfl, rfl, ?_, ?_, ?_, ?_⟩)); (kernel_rfl); (simp [Value.cells]); (rfl); (clear st; intro w st))
              | ((with_reducible refine wl_alloc ?_ (fun K hK => ?_)); rfl; refine owp_alloc (o := ⟨some 5, _, _, _, _, _⟩) rfl st ?_; apply Exists.intro; apply Exists.intro; refine ⟨?_, ?_⟩; (focus (first | (go_simp; done) | (go_simp; rfl))); (clear st; intro b5 w hb st; clear hb))
              | ((with_reducible refine wl_buildSlice ?_ (fun K hK => ?_)); rfl; refine owp_buildSlice (o := ⟨some 32, _, _, _, _, _⟩) rfl st ?_; apply Exists.intro; apply Exists.intro; apply Exists.intro; apply Exists.intro; refine ⟨?_, ?_⟩; (focus (go_simp; (first | done | exact ⟨⟨rfl, rfl⟩, rfl⟩ | rfl))); (clear st; intro b32 w hb st; clear hb))
              | ((with_reducible refine wl_buildSlice ?_ (fun K hK => ?_)); rfl; refine owp_buildSlice (o := ⟨some 50, _, _, _, _, _⟩) rfl st ?_; apply Exists.intro; apply Exists.intro; apply Exists.intro; apply Exists.intro; refine ⟨?_, ?_⟩; (focus (go_simp; (first | done | exact ⟨⟨rfl, rfl⟩, rfl⟩ | rfl))); (clear st; intro b50 w hb st; clear hb))
              | ((with_reducible refine wl_alloc ?_ (fun K hK => ?_)); rfl; refine owp_alloc (o := ⟨some 7, _, _, _, _, _⟩) rfl st ?_; apply Exists.intro; apply Exists.intro; refine ⟨?_, ?_⟩; (focus (first | (go_simp; done) | (go_simp; rfl))); (clear st; intro b7 w hb st; clear hb))
              | ((with_reducible refine wl_buildSlice ?_ (fun K hK => ?_)); rfl; refine owp_buildSlice (o := ⟨some 84, _, _, _, _, _⟩) rfl st ?_; apply Exists.intro; apply Exists.intro; apply Exists.intro; apply Exists.intro; refine ⟨?_, ?_⟩; (focus (go_simp; (first | done | exact ⟨⟨rfl, rfl⟩, rfl⟩ | rfl))); (clear st; intro b84 w hb st; clear hb))); (try simp only [nsl, Value.cells, unB] at st); (try clear hc); have hc := st.facts; (try simp only [nfl, nft, elI, elF, Nat.reduceAdd] at hc))
        clear r0 r1 r2 r3 r4 r5 r6 r7 r8 r9 r10 r11
        go_loopg [56] i (fun q z wr => ∃ (j : Nat), j ≤ i ∧ q = i - j ∧ z = .int .i64 (j : Int) ∧ Hid (∀ y ∈ G.take j, linkQ G (bo, bd) we fw y = false) ∧ Own (fun _ => False) (fun _ => True) W [oldI W, blkI b3 [.int .i64 3, .string ⟨ho.toArray⟩, .string ⟨hd.toArray⟩, .string ⟨nw.toArray⟩, .string ⟨bo.toArray⟩, .string ⟨bd.toArray⟩, .string ⟨co.toArray⟩, .string ⟨cd.toArray⟩, .string ⟨we.toArray⟩, .string ⟨ro.toArray⟩, .string ⟨rd.toArray⟩, .string ⟨fw.toArray⟩], blkI b5 [.int .i64 3, .string ⟨ho.toArray⟩, .string ⟨hd.toArray⟩, .string ⟨nw.toArray⟩, .string ⟨bo.toArray⟩, .string ⟨bd.toArray⟩, .string ⟨co.toArray⟩, .string ⟨cd.toArray⟩, .string ⟨we.toArray⟩]] wr)
        case atStart => exact ⟨0, by omega, by omega, rfl, Lib.hid (by simp), st⟩
        case round =>
          obtain ⟨j, hj, rfl, rfl, HT, st'⟩ := hrel
          clear st hc
          have st := st'
          clear st'
          (try simp only [nsl, Value.cells, unB] at st)
          (try clear hc); have hc := st.facts; (try simp only [nfl, nft, elI, elF, Nat.reduceAdd] at hc)
          by_cases hjn : j < i
          · have hjl : j < l.length := by have := HNL.out; omega
            have hjg : j < G.length := by have := HNL.out; rw [← HG.out, List.length_take, List.length_map]; omega
            have hgj : G[j] = l[j].f := by
              have : G[j]? = some l[j].f := by rw [← HG.out, List.getElem?_take, if_pos hjn, List.getElem?_map, List.getElem?_eq_getElem hjl]; rfl
              rw [List.getElem?_eq_getElem hjg] at this
              exact Option.some.inj this
            obtain ⟨r0, r1, r2, r3, r4, r5, r6, r7, r8, r9, r10, r11⟩ := HA.out j l[j] (List.getElem?_eq_getElem hjl)
            replace r0 := st.oldCell (i := 0) get0 r0
            replace r1 := st.oldCell (i := 0) get0 r1
            replace r2 := st.oldCell (i := 0) get0 r2
            replace r3 := st.oldCell (i := 0) get0 r3
            replace r4 := st.oldCell (i := 0) get0 r4
            replace r5 := st.oldCell (i := 0) get0 r5
            replace r6 := st.oldCell (i := 0) get0 r6
            replace r7 := st.oldCell (i := 0) get0 r7
            replace r8 := st.oldCell (i := 0) get0 r8
            replace r9 := st.oldCell (i := 0) get0 r9
            replace r10 := st.oldCell (i := 0) get0 r10
            replace r11 := st.oldCell (i := 0) get0 r11
            have HX : Hid (G[j]? = some l[j].f) := Lib.hid (by rw [List.getElem?_eq_getElem hjg, hgj])
            have HT1 : Hid (linkQ G (bo, bd) we fw l[j].f = false → ∀ y ∈ G.take (j + 1), linkQ G (bo, bd) we fw y = false) := Lib.hid (fun q y hy => by
              rw [← List.take_append_getElem hjg, hgj] at hy
              rcases List.mem_append.1 hy with hy | hy
              · exact HT.out y hy
              · rw [List.mem_singleton.1 hy]; exact q)
            clear hgj
            generalize l[j] = x at *
            obtain ⟨⟨yk, ⟨yo1, yd1⟩, yw1, ⟨yo2, yd2⟩, ⟨yo3, yd3⟩, ye⟩, ⟨⟨yo, yd⟩, yw⟩⟩ := x
            simp only at r0 r1 r2 r3 r4 r5 r6 r7 r8 r9 r10 r11 HX HT1
            unfold S at r1 r2 r3 r4 r5 r6 r7 r8 r9 r10 r11
            obtain ⟨u, hu⟩ : ∃ u, fpI G (⟨(yw, we), fw⟩ : FactT) = u := ⟨_, rfl⟩
            have HU := Lib.hid hu
            have HC2 : Hid (∀ W', Ext W W' → Calls Tryz.prog 60 #[.slice (some ⟨b, off, none⟩) i lc, rV (yw, we), S fw] W' fun e w' => e = .returned (.int .i64 u) ∧ Ext W' w') := Lib.hid (fun W' hx => by have := HF1.out W' hx ⟨(yw, we), fw⟩; rwa [hu] at this)
            clear hu
            unfold rV S at HC2
            go_wp2_with ((first
                  | ((with_reducible refine wl_alloc ?_ (fun K hK => ?_)); rfl; refine owp_alloc (o := ⟨some 3, _, _, _, _, _⟩) rfl st ?_; apply Exists.intro; apply Exists.intro; refine ⟨?_, ?_⟩; (focus (first | (go_simp; done) | (go_simp; rfl))); (clear st; intro b3 w hb st; clear hb))
                  | ((with_reducible refine wl_store ?_ (fun K hK => ?_)); rfl; refine owp_store rfl st ?_; apply Exists.intro; apply Exists.intro; refine ⟨?_, ?_, ?_⟩; (focus (go_simp; try rfl)); (focus (go_simp; try rfl)); (first | (with_reducible refine ⟨0, _, _, _, _, get0, rfl, rfl, ?_, ?_, ?_, ?_⟩) | (with_reducible refine ⟨1, _, _, _, _, get1, rfl, rfl, ?_, ?_, ?_, ?_⟩) | (with_reducible refine ⟨2, _, _, _, _, get2, rfl, rfl, ?_, ?_, ?_, ?_⟩) | (with_reducible refine ⟨3, _, _, _, _, get3, rfl, rfl, ?_, ?_, ?_, ?_⟩) | (with_reducible refine ⟨4, _, _, _, _, get4, rfl, rfl, ?_, ?_, ?_, ?_⟩) | (with_reducible refine ⟨5, _, _, _, _, get5, rfl, rfl, ?_, ?_, ?_, ?_⟩)); (kernel_rfl); (simp [Value.cells]); (rfl); (clear st; intro w st))
                  | ((with_reducible refine wl_alloc ?_ (fun K hK => ?_)); rfl; refine owp_alloc (o := ⟨some 5, _, _, _, _, _⟩) rfl st ?_; apply Exists.intro; apply Exists.intro; refine ⟨?_, ?_⟩; (focus (first | (go_simp; done) | (go_simp; rfl))); (clear st; intro b5 w hb st; clear hb))
                  | ((with_reducible refine wl_buildSlice ?_ (fun K hK => ?_)); rfl; refine owp_buildSlice (o := ⟨some 32, _, _, _, _, _⟩) rfl st ?_; apply Exists.intro; apply Exists.intro; apply Exists.intro; apply Exists.intro; refine ⟨?_, ?_⟩; (focus (go_simp; (first | done | exact ⟨⟨rfl, rfl⟩, rfl⟩ | rfl))); (clear st; intro b32 w hb st; clear hb))
                  | ((with_reducible refine wl_buildSlice ?_ (fun K hK => ?_)); rfl; refine owp_buildSlice (o := ⟨some 50, _, _, _, _, _⟩) rfl st ?_; apply Exists.intro; apply Exists.intro; apply Exists.intro; apply Exists.intro; refine ⟨?_, ?_⟩; (focus (go_simp; (first | done | exact ⟨⟨rfl, rfl⟩, rfl⟩ | rfl))); (clear st; intro b50 w hb st; clear hb))
                  | ((with_reducible refine wl_alloc ?_ (fun K hK => ?_)); rfl; refine owp_alloc (o := ⟨some 7, _, _, _, _, _⟩) rfl st ?_; apply Exists.intro; apply Exists.intro; refine ⟨?_, ?_⟩; (focus (first | (go_simp; done) | (go_simp; rfl))); (clear st; intro b7 w hb st; clear hb))
                  | ((with_reducible refine wl_buildSlice ?_ (fun K hK => ?_)); rfl; refine owp_buildSlice (o := ⟨some 84, _, _, _, _, _⟩) rfl st ?_; apply Exists.intro; apply Exists.intro; apply Exists.intro; apply Exists.intro; refine ⟨?_, ?_⟩; (focus (go_simp; (first | done | exact ⟨⟨rfl, rfl⟩, rfl⟩ | rfl))); (clear st; intro b84 w hb st; clear hb))); (try simp only [nsl, Value.cells, unB] at st); (try clear hc); have hc := st.facts; (try simp only [nfl, nft, elI, elF, Nat.reduceAdd] at hc))
            refine (HC2.out _ st.ext0).mono ?_
            rintro en w ⟨rfl, hx⟩
            replace st := st.ext hx
            clear hx
            (try clear hc); have hc := st.facts; (try simp only [nfl, nft, elI, elF, Nat.reduceAdd] at hc)
            cases hr : roleEq (yo, yd) (bo, bd) with
            | false =>
              have HQ : Hid (linkQ G (bo, bd) we fw ⟨(yo, yd), yw⟩ = false) := Lib.hid (by
                rw [roleEq_eq, decide_eq_false_iff_not] at hr
                unfold linkQ
                rw [decide_eq_false hr]
                rfl)
              go_wp2_with ((first
                    | ((with_reducible refine wl_alloc ?_ (fun K hK => ?_)); rfl; refine owp_alloc (o := ⟨some 3, _, _, _, _, _⟩) rfl st ?_; apply Exists.intro; apply Exists.intro; refine ⟨?_, ?_⟩; (focus (first | (go_simp; done) | (go_simp; rfl))); (clear st; intro b3 w hb st; clear hb))
                    | ((with_reducible refine wl_store ?_ (fun K hK => ?_)); rfl; refine owp_store rfl st ?_; apply Exists.intro; apply Exists.intro; refine ⟨?_, ?_, ?_⟩; (focus (go_simp; try rfl)); (focus (go_simp; try rfl)); (first | (with_reducible refine ⟨0, _, _, _, _, get0, rfl, rfl, ?_, ?_, ?_, ?_⟩) | (with_reducible refine ⟨1, _, _, _, _, get1, rfl, rfl, ?_, ?_, ?_, ?_⟩) | (with_reducible refine ⟨2, _, _, _, _, get2, rfl, rfl, ?_, ?_, ?_, ?_⟩) | (with_reducible refine ⟨3, _, _, _, _, get3, rfl, rfl, ?_, ?_, ?_, ?_⟩) | (with_reducible refine ⟨4, _, _, _, _, get4, rfl, rfl, ?_, ?_, ?_, ?_⟩) | (with_reducible refine ⟨5, _, _, _, _, get5, rfl, rfl, ?_, ?_, ?_, ?_⟩)); (kernel_rfl); (simp [Value.cells]); (rfl); (clear st; intro w st))
                    | ((with_reducible refine wl_alloc ?_ (fun K hK => ?_)); rfl; refine owp_alloc (o := ⟨some 5, _, _, _, _, _⟩) rfl st ?_; apply Exists.intro; apply Exists.intro; refine ⟨?_, ?_⟩; (focus (first | (go_simp; done) | (go_simp; rfl))); (clear st; intro b5 w hb st; clear hb))
                    | ((with_reducible refine wl_buildSlice ?_ (fun K hK => ?_)); rfl; refine owp_buildSlice (o := ⟨some 32, _, _, _, _, _⟩) rfl st ?_; apply Exists.intro; apply Exists.intro; apply Exists.intro; apply Exists.intro; refine ⟨?_, ?_⟩; (focus (go_simp; (first | done | exact ⟨⟨rfl, rfl⟩, rfl⟩ | rfl))); (clear st; intro b32 w hb st; clear hb))
                    | ((with_reducible refine wl_buildSlice ?_ (fun K hK => ?_)); rfl; refine owp_buildSlice (o := ⟨some 50, _, _, _, _, _⟩) rfl st ?_; apply Exists.intro; apply Exists.intro; apply Exists.intro; apply Exists.intro; refine ⟨?_, ?_⟩; (focus (go_simp; (first | done | exact ⟨⟨rfl, rfl⟩, rfl⟩ | rfl))); (clear st; intro b50 w hb st; clear hb))
                    | ((with_reducible refine wl_alloc ?_ (fun K hK => ?_)); rfl; refine owp_alloc (o := ⟨some 7, _, _, _, _, _⟩) rfl st ?_; apply Exists.intro; apply Exists.intro; refine ⟨?_, ?_⟩; (focus (first | (go_simp; done) | (go_simp; rfl))); (clear st; intro b7 w hb st; clear hb))
                    | ((with_reducible refine wl_buildSlice ?_ (fun K hK => ?_)); rfl; refine owp_buildSlice (o := ⟨some 84, _, _, _, _, _⟩) rfl st ?_; apply Exists.intro; apply Exists.intro; apply Exists.intro; apply Exists.intro; refine ⟨?_, ?_⟩; (focus (go_simp; (first | done | exact ⟨⟨rfl, rfl⟩, rfl⟩ | rfl))); (clear st; intro b84 w hb st; clear hb))); (try simp only [nsl, Value.cells, unB] at st); (try clear hc); have hc := st.facts; (try simp only [nfl, nft, elI, elF, Nat.reduceAdd] at hc))
              have st' := st.keep [0, 1, 2] (by decide) (by simp)
              go_roundg (i - (j + 1))
              case measure => omega
              case rel => exact ⟨j + 1, by omega, by omega, by first | rfl | trivial | go_num, Lib.hid (HT1.out HQ.out), by simpa [pick] using st'⟩
            | true =>
              have HR : Hid ((yo, yd) = (bo, bd)) := Lib.hid (by rwa [roleEq_eq, decide_eq_true_eq] at hr)
              by_cases hu0 : 0 ≤ u
              · have HM : Hid ((⟨(yw, we), fw⟩ : FactT) ∈ G ∧ u = ((G.idxOf ⟨(yw, we), fw⟩ : Nat) : Int)) := Lib.hid (by
                  have e := HU.out
                  unfold fpI at e
                  split at e
                  · rename_i q; exact ⟨q, e.symm⟩
                  · omega)
                have HE2 : Hid (ks = [j, G.idxOf ⟨(yw, we), fw⟩]) := Lib.hid (by
                  rw [HE.out]
                  exact linkP_hit HX.out HT.out HR.out HM.out.1)
                have HUE := Lib.hid HM.out.2
                clear HM HE HU
                generalize G.idxOf ⟨(yw, we), fw⟩ = ui at *
                obtain rfl := HUE.out
                obtain rfl := HE2.out
                go_wp2_with (first
                    | ((with_reducible refine wl_buildSlice ?_ (fun K hK => ?_)); (rfl); (refine owp_buildRow (o := ⟨some 84, _, _, _, _, _⟩) rfl st 3 1 ?_; refine ⟨2, #[.int .i64 (j : Int), .int .i64 (ui : Int)], ?_, by simp, by simp [maxLen], ?_⟩; (focus (go_simp; (first | done | rfl))); (clear st; intro b84 w hb st; clear hb)); (try simp only [nsl, Value.cells, unB] at st); (try clear hc); have hc := st.facts; (try simp only [nfl, nft, elI, elF, Nat.reduceAdd] at hc))
                    | ((first
                      | ((with_reducible refine wl_alloc ?_ (fun K hK => ?_)); rfl; refine owp_alloc (o := ⟨some 3, _, _, _, _, _⟩) rfl st ?_; apply Exists.intro; apply Exists.intro; refine ⟨?_, ?_⟩; (focus (first | (go_simp; done) | (go_simp; rfl))); (clear st; intro b3 w hb st; clear hb))
                      | ((with_reducible refine wl_store ?_ (fun K hK => ?_)); rfl; refine owp_store rfl st ?_; apply Exists.intro; apply Exists.intro; refine ⟨?_, ?_, ?_⟩; (focus (go_simp; try rfl)); (focus (go_simp; try rfl)); (first | (with_reducible refine ⟨0, _, _, _, _, get0, rfl, rfl, ?_, ?_, ?_, ?_⟩) | (with_reducible refine ⟨1, _, _, _, _, get1, rfl, rfl, ?_, ?_, ?_, ?_⟩) | (with_reducible refine ⟨2, _, _, _, _, get2, rfl, rfl, ?_, ?_, ?_, ?_⟩) | (with_reducible refine ⟨3, _, _, _, _, get3, rfl, rfl, ?_, ?_, ?_, ?_⟩) | (with_reducible refine ⟨4, _, _, _, _, get4, rfl, rfl, ?_, ?_, ?_, ?_⟩) | (with_reducible refine ⟨5, _, _, _, _, get5, rfl, rfl, ?_, ?_, ?_, ?_⟩)); (kernel_rfl); (simp [Value.cells]); (rfl); (clear st; intro w st))
                      | ((with_reducible refine wl_alloc ?_ (fun K hK => ?_)); rfl; refine owp_alloc (o := ⟨some 5, _, _, _, _, _⟩) rfl st ?_; apply Exists.intro; apply Exists.intro; refine ⟨?_, ?_⟩; (focus (first | (go_simp; done) | (go_simp; rfl))); (clear st; intro b5 w hb st; clear hb))
                      | ((with_reducible refine wl_buildSlice ?_ (fun K hK => ?_)); rfl; refine owp_buildSlice (o := ⟨some 32, _, _, _, _, _⟩) rfl st ?_; apply Exists.intro; apply Exists.intro; apply Exists.intro; apply Exists.intro; refine ⟨?_, ?_⟩; (focus (go_simp; (first | done | exact ⟨⟨rfl, rfl⟩, rfl⟩ | rfl))); (clear st; intro b32 w hb st; clear hb))
                      | ((with_reducible refine wl_buildSlice ?_ (fun K hK => ?_)); rfl; refine owp_buildSlice (o := ⟨some 50, _, _, _, _, _⟩) rfl st ?_; apply Exists.intro; apply Exists.intro; apply Exists.intro; apply Exists.intro; refine ⟨?_, ?_⟩; (focus (go_simp; (first | done | exact ⟨⟨rfl, rfl⟩, rfl⟩ | rfl))); (clear st; intro b50 w hb st; clear hb))
                      | ((with_reducible refine wl_alloc ?_ (fun K hK => ?_)); rfl; refine owp_alloc (o := ⟨some 7, _, _, _, _, _⟩) rfl st ?_; apply Exists.intro; apply Exists.intro; refine ⟨?_, ?_⟩; (focus (first | (go_simp; done) | (go_simp; rfl))); (clear st; intro b7 w hb st; clear hb))
                      | ((with_reducible refine wl_buildSlice ?_ (fun K hK => ?_)); rfl; refine owp_buildSlice (o := ⟨some 84, _, _, _, _, _⟩) rfl st ?_; apply Exists.intro; apply Exists.intro; apply Exists.intro; apply Exists.intro; refine ⟨?_, ?_⟩; (focus (go_simp; (first | done | exact ⟨⟨rfl, rfl⟩, rfl⟩ | rfl))); (clear st; intro b84 w hb st; clear hb))); (try simp only [nsl, Value.cells, unB] at st); (try clear hc); have hc := st.facts; (try simp only [nfl, nft, elI, elF, Nat.reduceAdd] at hc)))
                go_ret
                exact ⟨_, _, rfl, st.toFresh (i := 4) get4⟩
              · have HQ : Hid (linkQ G (bo, bd) we fw ⟨(yo, yd), yw⟩ = false) := Lib.hid (by
                  have e := HU.out
                  unfold fpI at e
                  split at e
                  · omega
                  · rename_i q
                    unfold linkQ
                    rw [decide_eq_false (p := (⟨(yw, we), fw⟩ : FactT) ∈ G) q, Bool.and_false])
                have hub : decide (u ≥ 0) = false := by simp; omega
                clear hu0
                go_wp2_with ((first
                      | ((with_reducible refine wl_alloc ?_ (fun K hK => ?_)); rfl; refine owp_alloc (o := ⟨some 3, _, _, _, _, _⟩) rfl st ?_; apply Exists.intro; apply Exists.intro; refine ⟨?_, ?_⟩; (focus (first | (go_simp; done) | (go_simp; rfl))); (clear st; intro b3 w hb st; clear hb))
                      | ((with_reducible refine wl_store ?_ (fun K hK => ?_)); rfl; refine owp_store rfl st ?_; apply Exists.intro; apply Exists.intro; refine ⟨?_, ?_, ?_⟩; (focus (go_simp; try rfl)); (focus (go_simp; try rfl)); (first | (with_reducible refine ⟨0, _, _, _, _, get0, rfl, rfl, ?_, ?_, ?_, ?_⟩) | (with_reducible refine ⟨1, _, _, _, _, get1, rfl, rfl, ?_, ?_, ?_, ?_⟩) | (with_reducible refine ⟨2, _, _, _, _, get2, rfl, rfl, ?_, ?_, ?_, ?_⟩) | (with_reducible refine ⟨3, _, _, _, _, get3, rfl, rfl, ?_, ?_, ?_, ?_⟩) | (with_reducible refine ⟨4, _, _, _, _, get4, rfl, rfl, ?_, ?_, ?_, ?_⟩) | (with_reducible refine ⟨5, _, _, _, _, get5, rfl, rfl, ?_, ?_, ?_, ?_⟩)); (kernel_rfl); (simp [Value.cells]); (rfl); (clear st; intro w st))
                      | ((with_reducible refine wl_alloc ?_ (fun K hK => ?_)); rfl; refine owp_alloc (o := ⟨some 5, _, _, _, _, _⟩) rfl st ?_; apply Exists.intro; apply Exists.intro; refine ⟨?_, ?_⟩; (focus (first | (go_simp; done) | (go_simp; rfl))); (clear st; intro b5 w hb st; clear hb))
                      | ((with_reducible refine wl_buildSlice ?_ (fun K hK => ?_)); rfl; refine owp_buildSlice (o := ⟨some 32, _, _, _, _, _⟩) rfl st ?_; apply Exists.intro; apply Exists.intro; apply Exists.intro; apply Exists.intro; refine ⟨?_, ?_⟩; (focus (go_simp; (first | done | exact ⟨⟨rfl, rfl⟩, rfl⟩ | rfl))); (clear st; intro b32 w hb st; clear hb))
                      | ((with_reducible refine wl_buildSlice ?_ (fun K hK => ?_)); rfl; refine owp_buildSlice (o := ⟨some 50, _, _, _, _, _⟩) rfl st ?_; apply Exists.intro; apply Exists.intro; apply Exists.intro; apply Exists.intro; refine ⟨?_, ?_⟩; (focus (go_simp; (first | done | exact ⟨⟨rfl, rfl⟩, rfl⟩ | rfl))); (clear st; intro b50 w hb st; clear hb))
                      | ((with_reducible refine wl_alloc ?_ (fun K hK => ?_)); rfl; refine owp_alloc (o := ⟨some 7, _, _, _, _, _⟩) rfl st ?_; apply Exists.intro; apply Exists.intro; refine ⟨?_, ?_⟩; (focus (first | (go_simp; done) | (go_simp; rfl))); (clear st; intro b7 w hb st; clear hb))
                      | ((with_reducible refine wl_buildSlice ?_ (fun K hK => ?_)); rfl; refine owp_buildSlice (o := ⟨some 84, _, _, _, _, _⟩) rfl st ?_; apply Exists.intro; apply Exists.intro; apply Exists.intro; apply Exists.intro; refine ⟨?_, ?_⟩; (focus (go_simp; (first | done | exact ⟨⟨rfl, rfl⟩, rfl⟩ | rfl))); (clear st; intro b84 w hb st; clear hb))); (try simp only [nsl, Value.cells, unB] at st); (try clear hc); have hc := st.facts; (try simp only [nfl, nft, elI, elF, Nat.reduceAdd] at hc))
                have st' := st.keep [0, 1, 2] (by decide) (by simp)
                go_roundg (i - (j + 1))
                case measure => omega
                case rel => exact ⟨j + 1, by omega, by omega, by first | rfl | trivial | go_num, Lib.hid (HT1.out HQ.out), by simpa [pick] using st'⟩
          · obtain rfl : i = j := by omega
            have HE2 : Hid (ks = []) := Lib.hid (by
              rw [HE.out]
              exact linkP_no (by have := HT.out; rwa [List.take_of_length_le (by rw [← HG.out, List.length_take]; omega)] at this))
            obtain rfl := HE2.out
            go_wp2_with fail
            replace st := (st.row_nil 3 1)
            go_ret
            exact ⟨none, 0, rfl, st.toFresh (i := 3) get3⟩
      · have h3f : (k == 3) = false := by simpa using k3
        have HE := Lib.hid (HK0.out k2 k4 k3)
        obtain rfl := HE.out
        clear k2 k4 k3
        (try simp only [nsl, Value.cells, unB] at st)
        (try clear hc); have hc := st.facts; (try simp only [nfl, nft, elI, elF, Nat.reduceAdd] at hc)
        go_enter Tryz.func35, Tryz.ntmps35
        go_wp2_with ((first
              | ((with_reducible refine wl_alloc ?_ (fun K hK => ?_)); rfl; refine owp_alloc (o := ⟨some 3, _, _, _, _, _⟩) rfl st ?_; apply Exists.intro; apply Exists.intro; refine ⟨?_, ?_⟩; (focus (first | (go_simp; done) | (go_simp; rfl))); (clear st; intro b3 w hb st; clear hb))
              | ((with_reducible refine wl_store ?_ (fun K hK => ?_)); rfl; refine owp_store rfl st ?_; apply Exists.intro; apply Exists.intro; refine ⟨?_, ?_, ?_⟩; (focus (go_simp; try rfl)); (focus (go_simp; try rfl)); (first | (with_reducible refine ⟨0, _, _, _, _, get0, rfl, rfl, ?_, ?_, ?_, ?_⟩) | (with_reducible refine ⟨1, _, _, _, _, get1, rfl, rfl, ?_, ?_, ?_, ?_⟩) | (with_reducible refine ⟨2, _, _, _, _, get2, rfl, rfl, ?_, ?_, ?_, ?_⟩) | (with_reducible refine ⟨3, _, _, _, _, get3, rfl, rfl, ?_, ?_, ?_, ?_⟩) | (with_reducible refine ⟨4, _, _, _, _, get4, rfl, rfl, ?_, ?_, ?_, ?_⟩) | (with_reducible refine ⟨5, _, _, _, _, get5, rfl, rfl, ?_, ?_, ?_, ?_⟩)); (kernel_rfl); (simp [Value.cells]); (rfl); (clear st; intro w st))
              | ((with_reducible refine wl_alloc ?_ (fun K hK => ?_)); rfl; refine owp_alloc (o := ⟨some 5, _, _, _, _, _⟩) rfl st ?_; apply Exists.intro; apply Exists.intro; refine ⟨?_, ?_⟩; (focus (first | (go_simp; done) | (go_simp; rfl))); (clear st; intro b5 w hb st; clear hb))
              | ((with_reducible refine wl_buildSlice ?_ (fun K hK => ?_)); rfl; refine owp_buildSlice (o := ⟨some 32, _, _, _, _, _⟩) rfl st ?_; apply Exists.intro; apply Exists.intro; apply Exists.intro; apply Exists.intro; refine ⟨?_, ?_⟩; (focus (go_simp; (first | done | exact ⟨⟨rfl, rfl⟩, rfl⟩ | rfl))); (clear st; intro b32 w hb st; clear hb))
              | ((with_reducible refine wl_buildSlice ?_ (fun K hK => ?_)); rfl; refine owp_buildSlice (o := ⟨some 50, _, _, _, _, _⟩) rfl st ?_; apply Exists.intro; apply Exists.intro; apply Exists.intro; apply Exists.intro; refine ⟨?_, ?_⟩; (focus (go_simp; (first | done | exact ⟨⟨rfl, rfl⟩, rfl⟩ | rfl))); (clear st; intro b50 w hb st; clear hb))
              | ((with_reducible refine wl_alloc ?_ (fun K hK => ?_)); rfl; refine owp_alloc (o := ⟨some 7, _, _, _, _, _⟩) rfl st ?_; apply Exists.intro; apply Exists.intro; refine ⟨?_, ?_⟩; (focus (first | (go_simp; done) | (go_simp; rfl))); (clear st; intro b7 w hb st; clear hb))
              | ((with_reducible refine wl_buildSlice ?_ (fun K hK => ?_)); rfl; refine owp_buildSlice (o := ⟨some 84, _, _, _, _, _⟩) rfl st ?_; apply Exists.intro; apply Exists.intro; apply Exists.intro; apply Exists.intro; refine ⟨?_, ?_⟩; (focus (go_simp; (first | done | exact ⟨⟨rfl, rfl⟩, rfl⟩ | rfl))); (clear st; intro b84 w hb st; clear hb))); (try simp only [nsl, Value.cells, unB] at st); (try clear hc); have hc := st.facts; (try simp only [nfl, nft, elI, elF, Nat.reduceAdd] at hc))
        clear r0 r1 r2 r3 r4 r5 r6 r7 r8 r9 r10 r11
        replace st := (st.row_nil 3 1)
        go_ret
        exact ⟨none, 0, rfl, st.toFresh (i := 3) get3⟩
end Go.Proofs.YtdfdnedcaodmkaaGreat

namespace Go.Proofs.YtdfdnedcaodmkaaGreat
set_option linter.unusedSimpArgs false
set_option linter.unusedVariables false
open Go Go.RowKit
instance fltNode : Flt NodeP := ⟨14, fun p => [.int .i64 (p.1 : Int), .int .i64 p.2.1.c.k, S p.2.1.c.h.1, S p.2.1.c.h.2, S p.2.1.c.w, S p.2.1.c.b.1, S p.2.1.c.b.2, S p.2.1.c.c.1, S p.2.1.c.c.2, S p.2.1.c.e, S p.2.1.f.r.1, S p.2.1.f.r.2, S p.2.1.f.w, .bool p.2.2], fun _ => rfl, by decide, fun x u hu => by simp at hu; rcases hu with rfl | rfl | rfl | rfl | rfl | rfl | rfl | rfl | rfl | rfl | rfl | rfl | rfl | rfl <;> rfl⟩
theorem nodeInfo : ∃ i, Tryz.prog.info? 64 = some i ∧ i.zero = some (.agg #[.int .i64 0, .int .i64 0, .string ⟨#[]⟩, .string ⟨#[]⟩, .string ⟨#[]⟩, .string ⟨#[]⟩, .string ⟨#[]⟩, .string ⟨#[]⟩, .string ⟨#[]⟩, .string ⟨#[]⟩, .string ⟨#[]⟩, .string ⟨#[]⟩, .string ⟨#[]⟩, .bool false]) ∧ i.size = 14 ∧ i.bytes = 200 := info_parts (by kernel_rfl)
theorem stepsN_app (l : List StepT) (f d : Nat) (ks ms : List Nat) (o : List NodeP) : stepsN l f d (ks ++ ms) o = stepsN l f d ms (stepsN l f d ks o) := by
  unfold stepsN
  rw [List.foldl_append]
theorem walkN_bound (l : List StepT) : ∀ (f i d : Nat) (o : List NodeP), (walkN l f i d o).length ≤ max (o.length + 1) (5000 + f + 1) := by
  intro f
  induction f with
  | zero => intro i d o; simp only [walkN, List.length_append, List.length_cons, List.length_nil]; omega
  | succ f ih =>
    intro i d o
    rw [walkN_succ]
    have key : ∀ (ks : List Nat) (o : List NodeP), (stepsN l f d ks o).length ≤ max o.length (5000 + f + 1) := by
      intro ks
      induction ks with
      | nil => intro o; simp only [stepsN, List.foldl_nil]; omega
      | cons k ks ihk =>
        intro o
        rw [stepsN_cons]
        split
        · exact ihk o
        · have h1 := ih k (d + 1) o
          have h2 := ihk (walkN l f k (d + 1) o)
          omega
    have := key (leansP l i) (o ++ [(d, stAt l i, (leansP l i).isEmpty)])
    rw [List.length_append, List.length_cons, List.length_nil] at this
    omega
theorem stepsN_bound (l : List StepT) (f d : Nat) : ∀ (ks : List Nat) (o : List NodeP), (stepsN l f d ks o).length ≤ max o.length (5000 + f + 1) := by
  intro ks
  induction ks with
  | nil => intro o; simp only [stepsN, List.foldl_nil]; omega
  | cons k ks ihk =>
    intro o
    rw [stepsN_cons]
    split
    · exact ihk o
    · have h1 := walkN_bound l f k (d + 1) o
      have h2 := ihk (walkN l f k (d + 1) o)
      omega
def WkGot (fr al : Nat → Prop) (w0 W : World) (o : List NodeP) (e : Ending) (w' : World) : Prop := ∃ va vc, e = .returned (.slice va o.length vc) ∧ Own fr al w0 [oldI W, rowI 64 14 (.slice va o.length vc) o.length (cellsL o)] w'
theorem wkGot {fr al : Nat → Prop} {w0 W w : World} {o o2 : List NodeP} {va : Option Addr} {n vc : Nat} (h1 : o = o2) (hn : n = o2.length) (st : Own fr al w0 [oldI W, rowI 64 14 (.slice va n vc) n (cellsL o2)] w) : WkGot fr al w0 W o (.returned (.slice va n vc)) w := by
  subst h1 hn
  exact ⟨va, vc, rfl, st⟩
set_option maxRecDepth 100000 in
set_option maxHeartbeats 16000000 in
theorem walk_c (a : Option Addr) (n : Nat) (l : List StepT) (W : World) (H : Hid (Fl W a n l)) (HC : Hid (Chain l)) (hn : n ≤ 1000) : ∀ (i : Nat), i < n → ∀ (fr al : Nat → Prop) (w0 w : World) (d lc m vc : Nat) (va : Option Addr) (o : List NodeP), Own fr al w0 [oldI W, rowI 64 14 (.slice va m vc) m (cellsL o)] w → i < lc → d + i ≤ 1000000 → m = o.length → m ≤ 5000 →
    Calls Tryz.prog 21 #[.slice a (i + 1) lc, .int .i64 (d : Int), .slice va m vc] w (WkGot fr al w0 W (walkN l (i + 1) i d o)) := by
  intro i
  induction i using Nat.strongRecOn with
  | _ i ih =>
    intro hin fr al w0 w d lc m vc va o st hlc hd hm hm5
    have HN := Lib.hid H.out.1
    have hil : i < l.length := by have := HN.out; omega
    have HI := Lib.hid ih
    have HCI := Lib.hid (chain_in HC.out hil)
    have HLT := Lib.hid (leansP_lt l i hil (HC.out i hil))
    have HS : Hid (l[i]? = some (stAt l i)) := Lib.hid (by unfold stAt; rw [List.getElem?_eq_getElem hil]; rfl)
    have HG := Lib.hid (walkN_succ l i i d o)
    have HLE : Hid (leansP l i = leansF ((l.map StepT.f).take i) (stAt l i)) := Lib.hid (by unfold leansP; rw [List.map_take])
    have HFU := Lib.hid (fun k hk d q => walkN_fuel l HC.out k i (k + 1) d q (by have := HN.out; omega) hk (Nat.lt_succ_self k))
    have HLN : Hid ((leansP l i).length ≤ 2) := Lib.hid (leansP_len l i)
    have HM := Lib.hid hm
    clear ih hm
    obtain ⟨b, off, e, hcell⟩ := H.out.step (by omega)
    clear hcell
    subst e
    obtain ⟨x, hx⟩ : ∃ x, stAt l i = x := ⟨_, rfl⟩
    rw [hx] at HCI HS HG HLE
    clear hx
    have hwi : IntKind.i64.wrap (((i + 1 : Nat) : Int) - 1) = (i : Int) := by rw [IntKind.wrap_i64]; omega
    obtain ⟨o2, ho2⟩ : ∃ q, walkN l (i + 1) i d o = q := ⟨_, rfl⟩
    rw [ho2] at HG ⊢
    clear ho2
    have HLS := Lib.hid (fun W' (h : Fl W' (some ⟨b, off, none⟩) n l) => refLeans_any (some ⟨b, off, none⟩) (i + 1) lc i (l.take (i + 1)) x W' (h.pre (i + 1) (by omega)) (by rw [List.getElem?_take, if_pos (by omega), HS.out]) rfl (by omega) (by omega))
    have htk : ((l.take (i + 1)).map StepT.f).take i = (l.map StepT.f).take i := by rw [List.map_take, List.take_take]; congr 1; omega
    rw [htk, ← HLE.out] at HLS
    have HL2 : Hid (∀ W', Fl W' (some ⟨b, off, none⟩) n l → Calls Tryz.prog 35 #[.slice (some ⟨b, off, none⟩) (i + 1) lc] W' fun e w' => ∃ va vc, e = .returned (.slice va (leansP l i).length vc) ∧ FreshI W' w' (rowI 3 1 (.slice va (leansP l i).length vc) (leansP l i).length (cellsL (leansP l i)))) := Lib.hid (fun W' hx => HLS.out W' hx HCI.out.1 HCI.out.2)
    obtain ⟨ks, hks⟩ : ∃ ks, leansP l i = ks := ⟨_, rfl⟩
    rw [hks] at HL2 HLT HLN HG
    clear hks HLE HCI HLS htk hil
    obtain ⟨q, hq⟩ : ∃ q, ks.length = q := ⟨_, rfl⟩
    have HQ := Lib.hid hq
    rw [hq] at HL2 HLN
    clear hq
    obtain ⟨lf, hlf⟩ : ∃ b, ks.isEmpty = b := ⟨_, rfl⟩
    rw [hlf] at HG
    have hlb : ((q : Int) == 0) = lf := by
      rw [← hlf]
      cases ks with
      | nil => have := HQ.out; simp at this; subst this; rfl
      | cons k ks => have := HQ.out; rw [List.length_cons] at this; simp; omega
    clear hlf
    obtain ⟨nd, hnd⟩ : ∃ p : NodeP, ((d, x, lf) : NodeP) = p := ⟨_, rfl⟩
    have HND := Lib.hid hnd
    rw [hnd] at HG
    clear hnd
    have hq2 := HLN.out
    have HB := Lib.hid (fun j => stepsN_bound l i d (ks.take j) (o ++ [nd]))
    (try simp only [nsl, Value.cells, unB] at st)
    (try clear hc); have hc := st.facts; (try simp only [nfl, nft, elI, elF, Nat.reduceAdd] at hc)
    go_enter Tryz.func21, Tryz.ntmps21
    go_wp2_with ((((with_reducible refine wl_buildSlice ?_ (fun K hK => ?_)); rfl; refine owp_buildSlice (o := ⟨some 24, _, _, _, _, _⟩) rfl st ?_; apply Exists.intro; apply Exists.intro; apply Exists.intro; apply Exists.intro; refine ⟨?_, ?_⟩; (focus (go_simp; (first | done | exact ⟨⟨rfl, rfl⟩, rfl⟩ | rfl))); (clear st; intro b24 w hb st; clear hb))); (try simp only [nsl, Value.cells, unB] at st); (try clear hc); have hc := st.facts; (try simp only [nfl, nft, elI, elF, Nat.reduceAdd] at hc))
    refine (HL2.out _ (st.oldFl (i := 0) get0 H.out)).mono ?_
    rintro en w' ⟨va0, vc0, rfl, hf⟩
    replace st := st.fresh hf
    clear hf
    simp only [List.cons_append, List.nil_append] at st
    replace st := st.rowToFl (α := Nat) (i := 2) get2
    simp only [List.set] at st
    have s0 := (H.out.step (by omega))
    obtain ⟨b', off', e, hcell⟩ := s0
    cases e
    obtain ⟨r0, r1, r2, r3, r4, r5, r6, r7, r8, r9, r10, r11⟩ := hcell i _ HS.out
    clear hcell
    unfold S at r1 r2 r3 r4 r5 r6 r7 r8 r9 r10 r11
    replace r0 := st.oldCell (i := 0) get0 r0
    replace r1 := st.oldCell (i := 0) get0 r1
    replace r2 := st.oldCell (i := 0) get0 r2
    replace r3 := st.oldCell (i := 0) get0 r3
    replace r4 := st.oldCell (i := 0) get0 r4
    replace r5 := st.oldCell (i := 0) get0 r5
    replace r6 := st.oldCell (i := 0) get0 r6
    replace r7 := st.oldCell (i := 0) get0 r7
    replace r8 := st.oldCell (i := 0) get0 r8
    replace r9 := st.oldCell (i := 0) get0 r9
    replace r10 := st.oldCell (i := 0) get0 r10
    replace r11 := st.oldCell (i := 0) get0 r11
    (try simp only [nsl, Value.cells, unB] at st)
    (try clear hc); have hc := st.facts; (try simp only [nfl, nft, elI, elF, Nat.reduceAdd] at hc)
    go_wp2_with (first
        | ((with_reducible refine wl_append ?_ (fun K hK => ?_)); (rfl); (obtain ⟨inf, hinf, hz0, hz1, hz2⟩ := nodeInfo); (refine owp_append rfl st 1 get1 Tryz.underlying39 hinf hz0 hz1 hz2 rfl (by decide) rfl rfl ((st.blk (i := 3) get3).flat rfl) (by first | exact cellsL_all _ | simp [Value.oneCell']) (by simp only [maxLen]; omega) (by omega) ?_); (clear hinf hz0 hz1 hz2 inf); (clear st; intro v' w st); (obtain ⟨va', vc', rfl⟩ := own_slice (st.row (i := 1) get1)); (try simp only [nsl, Value.cells, unB] at st); (try simp only [Nat.zero_add] at st); (try clear hc); have hc := st.facts; (try simp only [nfl, nft, elI, elF, Nat.reduceAdd] at hc))
        | ((with_reducible refine wl_buildSlice ?_ (fun K hK => ?_)); (rfl); (refine owp_buildRow (o := ⟨some 9999, _, _, _, _, _⟩) rfl st 64 14 ?_; refine ⟨0, #[], ?_, by simp, by simp [maxLen], ?_⟩; (focus (go_simp; (first | done | rfl))); (clear st; intro b9999 w hb st; clear hb)); (try simp only [nsl, Value.cells, unB] at st); (try clear hc); have hc := st.facts; (try simp only [nfl, nft, elI, elF, Nat.reduceAdd] at hc))
        | ((((with_reducible refine wl_buildSlice ?_ (fun K hK => ?_)); rfl; refine owp_buildSlice (o := ⟨some 24, _, _, _, _, _⟩) rfl st ?_; apply Exists.intro; apply Exists.intro; apply Exists.intro; apply Exists.intro; refine ⟨?_, ?_⟩; (focus (go_simp; (first | done | exact ⟨⟨rfl, rfl⟩, rfl⟩ | rfl))); (clear st; intro b24 w hb st; clear hb))); (try simp only [nsl, Value.cells, unB] at st); (try clear hc); have hc := st.facts; (try simp only [nfl, nft, elI, elF, Nat.reduceAdd] at hc)))
    clear r0 r1 r2 r3 r4 r5 r6 r7 r8 r9 r10 r11
    have st9 := st.keep [0, 1, 2] (by decide) (by simp)
    simp only [pick, List.map_cons, List.map_nil, List.getElem?_cons_zero, List.getElem?_cons_succ, Option.getD_some] at st9
    clear st
    have st := st9
    clear st9
    go_loopg [2, 28] q (fun z v i' wr => ∃ (j p vc : Nat) (va : Option Addr) (o1 : List NodeP), j ≤ q ∧ z = q - j ∧ i' = .int .i64 (j : Int) ∧ v = .slice va p vc ∧ p ≤ 7000 ∧ Hid (o1 = stepsN l i d (ks.take j) (o ++ [nd])) ∧ Hid (p = o1.length) ∧ Own fr al w0 [oldI W, rowI 64 14 (.slice va p vc) p (cellsL o1), flI va0 q ks] wr)
    case atStart => exact ⟨0, m + 1, _, _, o ++ [nd], by omega, by omega, rfl, rfl, by omega, Lib.hid (by simp [stepsN]), Lib.hid (by rw [List.length_append, HM.out]; rfl), by rw [cellsL_append, ← HND.out, cellsL_one']; simpa [S, Flt.cells] using st⟩
    case round =>
      obtain ⟨j, p, vc, va, o1, hj, rfl, rfl, rfl, hp7, HO, HP, st'⟩ := hrel
      clear st hc
      have st := st'
      clear st'
      by_cases hjn : j < q
      · have hjl : j < ks.length := by have := HQ.out; omega
        have hki := HLT.out _ (List.getElem_mem hjl)
        have HSN : Hid (stepsN l i d (ks.take (j + 1)) (o ++ [nd]) = if 5000 < p then o1 else walkN l i ks[j] (d + 1) o1) := Lib.hid (by
          rw [← List.take_append_getElem hjl, stepsN_app, ← HO.out, HP.out]
          rfl)
        have HALL : Hid (5000 < p → o2 = o1) := Lib.hid (fun h => by
          rw [HG.out, ← List.take_append_drop j ks, stepsN_app, ← HO.out]
          exact stepsN_over l i d _ _ (by rw [← HP.out]; exact h))
        have hfl := st.flAt (i := 2) get2
        obtain ⟨kb, ko, hka, hkc⟩ := hfl.2 (by omega)
        have hk0 := hkc j _ (List.getElem?_eq_getElem hjl) 0 _ rfl
        clear hkc hfl
        have HIH := Lib.hid (HI.out ks[j] hki (by omega))
        rw [HFU.out _ hki] at HSN
        have hb2 := HB.out (j + 1)
        generalize ks[j] = k at *
        subst hka
        have hk1 : wr.cell? ⟨kb, ko + j, none⟩ = some (.int .i64 (k : Int)) := by rw [show Flt.k Nat = 1 from rfl] at hk0; simpa using hk0
        clear hk0
        by_cases h5 : 5000 < p
        · have hgt : decide ((p : Int) > 5000) = true := by simp; omega
          have HE := Lib.hid (HALL.out h5)
          (try simp only [nsl, Value.cells, unB] at st)
          (try clear hc); have hc := st.facts; (try simp only [nfl, nft, elI, elF, Nat.reduceAdd] at hc)
          go_wp2_with ((((with_reducible refine wl_buildSlice ?_ (fun K hK => ?_)); rfl; refine owp_buildSlice (o := ⟨some 24, _, _, _, _, _⟩) rfl st ?_; apply Exists.intro; apply Exists.intro; apply Exists.intro; apply Exists.intro; refine ⟨?_, ?_⟩; (focus (go_simp; (first | done | exact ⟨⟨rfl, rfl⟩, rfl⟩ | rfl))); (clear st; intro b24 w hb st; clear hb))); (try simp only [nsl, Value.cells, unB] at st); (try clear hc); have hc := st.facts; (try simp only [nfl, nft, elI, elF, Nat.reduceAdd] at hc))
          have st9 := st.keep [0, 1] (by decide) (by simp)
          simp only [pick, List.map_cons, List.map_nil, List.getElem?_cons_zero, List.getElem?_cons_succ, Option.getD_some] at st9
          go_ret
          exact wkGot HE.out HP.out st9
        · have hgt : decide ((p : Int) > 5000) = false := by simp; omega
          rw [HSN.out, if_neg h5, List.length_append, ← HM.out] at hb2
          simp only [List.length_cons, List.length_nil] at hb2
          have HS3 : Hid (walkN l (k + 1) k (d + 1) o1 = stepsN l i d (ks.take (j + 1)) (o ++ [nd])) := Lib.hid (by rw [HSN.out, if_neg h5])
          have hpp : p ≤ 5000 := by omega
          have hdk : d + 1 + k ≤ 1000000 := by omega
          have hkl : k < lc := by omega
          have HIH2 := Lib.hid (fun fr al w0 w vc va st => HIH.out fr al w0 w (d + 1) lc p vc va o1 st hkl hdk HP.out hpp)
          clear HIH HSN HALL
          obtain ⟨o3, ho3⟩ : ∃ v, walkN l (k + 1) k (d + 1) o1 = v := ⟨_, rfl⟩
          rw [ho3] at HIH2 HS3 hb2
          clear ho3
          have hd1 : IntKind.i64.wrap ((d : Int) + 1) = ((d + 1 : Nat) : Int) := by rw [IntKind.wrap_i64]; omega
          have hk2 : IntKind.i64.wrap ((k : Int) + 1) = ((k + 1 : Nat) : Int) := by rw [IntKind.wrap_i64]; omega
          unfold WkGot at HIH2
          rw [show ((d + 1 : Nat) : Int) = (d : Int) + 1 from by omega] at HIH2
          (try simp only [nsl, Value.cells, unB] at st)
          (try clear hc); have hc := st.facts; (try simp only [nfl, nft, elI, elF, Nat.reduceAdd] at hc)
          go_wp2_with ((((with_reducible refine wl_buildSlice ?_ (fun K hK => ?_)); rfl; refine owp_buildSlice (o := ⟨some 24, _, _, _, _, _⟩) rfl st ?_; apply Exists.intro; apply Exists.intro; apply Exists.intro; apply Exists.intro; refine ⟨?_, ?_⟩; (focus (go_simp; (first | done | exact ⟨⟨rfl, rfl⟩, rfl⟩ | rfl))); (clear st; intro b24 w hb st; clear hb))); (try simp only [nsl, Value.cells, unB] at st); (try clear hc); have hc := st.facts; (try simp only [nfl, nft, elI, elF, Nat.reduceAdd] at hc))
          obtain ⟨fr', al', st', back⟩ := st.sub [0, 1] (by decide) (by simp)
          (try simp only [nsl, Value.cells, unB] at st')
          refine (HIH2.out _ _ _ _ _ _ st').mono ?_
          clear st'
          rintro en w ⟨va3, vc3, rfl, st'⟩
          replace st := back _ _ (by simp) st'
          clear back st'
          (try simp only [nsl, Value.cells, unB] at st)
          (try clear hc); have hc := st.facts; (try simp only [nfl, nft, elI, elF, Nat.reduceAdd] at hc)
          go_wp2_with ((((with_reducible refine wl_buildSlice ?_ (fun K hK => ?_)); rfl; refine owp_buildSlice (o := ⟨some 24, _, _, _, _, _⟩) rfl st ?_; apply Exists.intro; apply Exists.intro; apply Exists.intro; apply Exists.intro; refine ⟨?_, ?_⟩; (focus (go_simp; (first | done | exact ⟨⟨rfl, rfl⟩, rfl⟩ | rfl))); (clear st; intro b24 w hb st; clear hb))); (try simp only [nsl, Value.cells, unB] at st); (try clear hc); have hc := st.facts; (try simp only [nfl, nft, elI, elF, Nat.reduceAdd] at hc))
          have st' := st.keep [0, 1, 2] (by decide) (by simp)
          go_roundg (q - (j + 1))
          case measure => omega
          case rel => exact ⟨j + 1, o3.length, _, _, o3, by omega, by omega, by go_num, rfl, by omega, HS3, Lib.hid rfl, by simpa [pick] using st'⟩
      · obtain rfl : q = j := by omega
        have HE : Hid (o2 = o1) := Lib.hid (by rw [HG.out, HO.out, List.take_of_length_le (by have := HQ.out; omega)])
        (try simp only [nsl, Value.cells, unB] at st)
        (try clear hc); have hc := st.facts; (try simp only [nfl, nft, elI, elF, Nat.reduceAdd] at hc)
        go_wp2_with ((((with_reducible refine wl_buildSlice ?_ (fun K hK => ?_)); rfl; refine owp_buildSlice (o := ⟨some 24, _, _, _, _, _⟩) rfl st ?_; apply Exists.intro; apply Exists.intro; apply Exists.intro; apply Exists.intro; refine ⟨?_, ?_⟩; (focus (go_simp; (first | done | exact ⟨⟨rfl, rfl⟩, rfl⟩ | rfl))); (clear st; intro b24 w hb st; clear hb))); (try simp only [nsl, Value.cells, unB] at st); (try clear hc); have hc := st.facts; (try simp only [nfl, nft, elI, elF, Nat.reduceAdd] at hc))
        have st9 := st.keep [0, 1] (by decide) (by simp)
        simp only [pick, List.map_cons, List.map_nil, List.getElem?_cons_zero, List.getElem?_cons_succ, Option.getD_some] at st9
        go_ret
        exact wkGot HE.out HP.out st9
end Go.Proofs.YtdfdnedcaodmkaaGreat

namespace Go.Proofs.YtdfdnedcaodmkaaGreat
set_option linter.unusedSimpArgs false
set_option linter.unusedVariables false
open Go Go.RowKit
theorem ofErr_walk (l : List StepT) : ofErr l = if standsB l = false then 50 else if l.length = 0 then 42 else if 4096 < (walkN l (l.length - 1 + 1) (l.length - 1) 0 []).length then 12 else 0 := by
  unfold ofErr
  by_cases h : standsB l = false
  · rw [if_pos h, if_pos h]
  · rw [if_neg h, if_neg h]
    by_cases h0 : l.length = 0
    · rw [if_pos h0, if_pos h0]
    · rw [if_neg h0, if_neg h0]
      have hs : standsB l = true := by simpa using h
      rcases grown_walked l (chain_of hs) (l.length - 1) (by omega) with ⟨h1, h2⟩ | ⟨h1, h2, _, _⟩
      · rw [if_pos h1, if_pos h2]
      · rw [if_neg (by omega), if_neg (by omega)]
def RfOf (W : World) (l : List StepT) (v : Int) (e : Ending) (w' : World) : Prop := ∃ va vc o, e = .returned (.tuple #[.slice va o.length vc, .int .i64 v]) ∧ (v = 0 → o = walkN l (l.length - 1 + 1) (l.length - 1) 0 []) ∧ FreshI W w' (rowI 64 14 (.slice va o.length vc) o.length (cellsL o))
theorem rfOf {W w : World} {l : List StepT} {v : Int} {va : Option Addr} {n vc : Nat} (o : List NodeP) {L : List It} {i : Nat} (hn : n = o.length) (h0 : v = 0 → o = walkN l (l.length - 1 + 1) (l.length - 1) 0 []) (st : Own (fun _ => False) (fun _ => True) W L w) (hi : L[i]? = some (rowI 64 14 (.slice va n vc) n (cellsL o))) : RfOf W l v (.returned (.tuple #[.slice va n vc, .int .i64 v])) w := by
  subst hn
  exact ⟨va, vc, o, rfl, h0, st.toFresh hi⟩
set_option maxRecDepth 100000 in
set_option maxHeartbeats 8000000 in
theorem refOf51_any (a : Option Addr) (n c : Nat) (l : List StepT) (W : World) (h : Fl W a n l) (hnc : n ≤ c) (hn : n ≤ 1000) (hl : ∀ x ∈ l, CLenS x.c) :
    Calls Tryz.prog 7 #[.slice a n c] W (RfOf W l (ofErr l)) := by
  have H := Lib.hid h
  have HN := Lib.hid h.1
  have HL := Lib.hid hl
  have HE := Lib.hid (ofErr_walk l)
  obtain ⟨v, hv⟩ : ∃ v, ofErr l = v := ⟨_, rfl⟩
  rw [hv] at HE ⊢
  clear h hl hv
  have st := Own.startOld W
  (try simp only [nsl, Value.cells, unB] at st)
  (try clear hc); have hc := st.facts; (try simp only [nfl, nft, elI, elF, Nat.reduceAdd] at hc)
  go_enter Tryz.func7, Tryz.ntmps7
  go_wp2_with ((first
        | ((with_reducible refine wl_alloc ?_ (fun K hK => ?_)); rfl; refine owp_alloc (o := ⟨some 5, _, _, _, _, _⟩) rfl st ?_; apply Exists.intro; apply Exists.intro; refine ⟨?_, ?_⟩; (focus (first | (go_simp; done) | (go_simp; rfl))); (clear st; intro b5 w hb st; clear hb))
        | ((with_reducible refine wl_store ?_ (fun K hK => ?_)); rfl; refine owp_store rfl st ?_; apply Exists.intro; apply Exists.intro; refine ⟨?_, ?_, ?_⟩; (focus (go_simp; try rfl)); (focus (go_simp; try rfl)); (first | (with_reducible refine ⟨0, _, _, _, _, get0, rfl, rfl, ?_, ?_, ?_, ?_⟩) | (with_reducible refine ⟨1, _, _, _, _, get1, rfl, rfl, ?_, ?_, ?_, ?_⟩) | (with_reducible refine ⟨2, _, _, _, _, get2, rfl, rfl, ?_, ?_, ?_, ?_⟩) | (with_reducible refine ⟨3, _, _, _, _, get3, rfl, rfl, ?_, ?_, ?_, ?_⟩) | (with_reducible refine ⟨4, _, _, _, _, get4, rfl, rfl, ?_, ?_, ?_, ?_⟩) | (with_reducible refine ⟨5, _, _, _, _, get5, rfl, rfl, ?_, ?_, ?_, ?_⟩) | (with_reducible refine ⟨6, _, _, _, _, get6, rfl, rfl, ?_, ?_, ?_, ?_⟩)); (kernel_rfl); (simp [Value.cells]); (rfl); (clear st; intro w st))); (try simp only [nsl, Value.cells, unB] at st); (try clear hc); have hc := st.facts; (try simp only [nfl, nft, elI, elF, Nat.reduceAdd] at hc))
  go_loopg [9] n (fun k i wr => ∃ (j : Nat), j ≤ n ∧ k = n - j ∧ i = .int .i64 (j : Int) ∧ Hid (∀ i', i' < j → folAt l i' = true) ∧ Own (fun _ => False) (fun _ => True) W [oldI W] wr)
  case atStart => exact ⟨0, by omega, by omega, rfl, Lib.hid (by omega), st⟩
  case round =>
    obtain ⟨j, hj, rfl, rfl, HJ, st'⟩ := hrel
    clear st hc
    have st := st'
    clear st'
    (try simp only [nsl, Value.cells, unB] at st)
    (try clear hc); have hc := st.facts; (try simp only [nfl, nft, elI, elF, Nat.reduceAdd] at hc)
    by_cases hjn : j < n
    · obtain ⟨b, off, ha, hcell⟩ := H.out.step (by omega)
      have hjl : j < l.length := by have := HN.out; omega
      obtain ⟨r0, r1, r2, r3, r4, r5, r6, r7, r8, r9, r10, r11⟩ := hcell j l[j] (List.getElem?_eq_getElem hjl)
      replace r0 := st.oldCell (i := 0) get0 r0
      replace r1 := st.oldCell (i := 0) get0 r1
      replace r2 := st.oldCell (i := 0) get0 r2
      replace r3 := st.oldCell (i := 0) get0 r3
      replace r4 := st.oldCell (i := 0) get0 r4
      replace r5 := st.oldCell (i := 0) get0 r5
      replace r6 := st.oldCell (i := 0) get0 r6
      replace r7 := st.oldCell (i := 0) get0 r7
      replace r8 := st.oldCell (i := 0) get0 r8
      replace r9 := st.oldCell (i := 0) get0 r9
      replace r10 := st.oldCell (i := 0) get0 r10
      replace r11 := st.oldCell (i := 0) get0 r11
      have HFA : Hid (folAt l j = folB ((l.map StepT.f).take j) l[j]) := Lib.hid (by unfold folAt; rw [List.getElem?_eq_getElem hjl, List.map_take])
      have HCL := Lib.hid (HL.out _ (List.getElem_mem hjl))
      clear hcell
      generalize l[j] = x at *
      subst ha
      have HFO := Lib.hid (fun fa fc W h => refFollows_any x fa j fc ((l.map StepT.f).take j) W h (by omega) HCL.out)
      have HFC := Lib.hid (fun W h => refFacts_any (some ⟨b, off, none⟩) j c (l.take j) W h (by omega))
      rw [← HFA.out] at HFO
      simp only [List.map_take] at HFC
      obtain ⟨p, hp⟩ : ∃ p, folAt l j = p := ⟨_, rfl⟩
      rw [hp] at HFO
      have HP := Lib.hid hp
      unfold stV at HFO
      unfold S at r1 r2 r3 r4 r5 r6 r7 r8 r9 r10 r11 HFO
      have hjc : j ≤ c := by omega
      clear hp
      go_wp2_with ((first
            | ((with_reducible refine wl_alloc ?_ (fun K hK => ?_)); rfl; refine owp_alloc (o := ⟨some 5, _, _, _, _, _⟩) rfl st ?_; apply Exists.intro; apply Exists.intro; refine ⟨?_, ?_⟩; (focus (first | (go_simp; done) | (go_simp; rfl))); (clear st; intro b5 w hb st; clear hb))
            | ((with_reducible refine wl_store ?_ (fun K hK => ?_)); rfl; refine owp_store rfl st ?_; apply Exists.intro; apply Exists.intro; refine ⟨?_, ?_, ?_⟩; (focus (go_simp; try rfl)); (focus (go_simp; try rfl)); (first | (with_reducible refine ⟨0, _, _, _, _, get0, rfl, rfl, ?_, ?_, ?_, ?_⟩) | (with_reducible refine ⟨1, _, _, _, _, get1, rfl, rfl, ?_, ?_, ?_, ?_⟩) | (with_reducible refine ⟨2, _, _, _, _, get2, rfl, rfl, ?_, ?_, ?_, ?_⟩) | (with_reducible refine ⟨3, _, _, _, _, get3, rfl, rfl, ?_, ?_, ?_, ?_⟩) | (with_reducible refine ⟨4, _, _, _, _, get4, rfl, rfl, ?_, ?_, ?_, ?_⟩) | (with_reducible refine ⟨5, _, _, _, _, get5, rfl, rfl, ?_, ?_, ?_, ?_⟩) | (with_reducible refine ⟨6, _, _, _, _, get6, rfl, rfl, ?_, ?_, ?_, ?_⟩)); (kernel_rfl); (simp [Value.cells]); (rfl); (clear st; intro w st))); (try simp only [nsl, Value.cells, unB] at st); (try clear hc); have hc := st.facts; (try simp only [nfl, nft, elI, elF, Nat.reduceAdd] at hc))
      clear r0 r1 r2 r3 r4 r5 r6 r7 r8 r9 r10 r11
      refine Rg4.wp_region4 (Rel := Ext) #[0, 0, 0, 6, 14, 31, 63]
        [(4, ⟨fun v w => ∃ fa fc, v = .slice fa j fc ∧ Fl w fa j ((l.map StepT.f).take j) , fun _ _ _ hx ⟨fa, fc, h1, h2⟩ => ⟨fa, fc, h1, Arr.ext h2 hx⟩⟩)] [5] [0] (fun _ => True) [0, 1, 2, 3, 4, 5, 6] (by kernel_rfl) (by kernel_rfl) (by kernel_rfl) (by kernel_rfl) Ext.refl (fun _ _ _ => Ext.trans) (show Rg4.PB _ by repeat (first | with_reducible exact Rg4.pb_body | with_reducible exact Rg4.pb_bodyD rfl | with_reducible refine Rg4.pb_then ?_ | with_reducible refine Rg4.pb_inBlock ?_ | with_reducible refine Rg4.pb_noGoto ?_ | with_reducible assumption)) (trivial) ?_
      replace st := st.drew
      change Rg4.wp4 _ _ _ _ _ _ _ _ _ (World.drew _) _ _
      generalize World.drew _ = w at st ⊢
      (try clear hc); have hc := st.facts; (try simp only [nfl, nft, elI, elF, Nat.reduceAdd] at hc)
      (refine Rg4.w4_read (Rg4.want_none rfl) rfl rfl ?_; apply Exists.intro; refine ⟨fun w' hw' hcl' => ?_, ?_⟩; focus (have st' := st.ext hw'; have hc' := st'.facts; (try simp only [nfl, nft, elI, elF, Nat.reduceAdd] at hc'); (focus (first | (go_simp; done) | (go_simp; first | rfl | (rw [if_neg] <;> first | rfl | omega) | (rw [if_pos] <;> first | rfl | omega))))); (try simp only [Rg4.nrm]))
      iterate 3 (refine Rg4.w4_any (Rg4.want_none rfl) rfl ?_; apply Exists.intro; refine ⟨fun w' => ?_, ?_⟩; (focus (first | (go_simp; done) | (go_simp; first | rfl | (rw [if_neg] <;> first | rfl | omega) | (rw [if_pos] <;> first | rfl | omega)))); (try simp only [Rg4.nrm]))
      refine Rg4.w4_some (Rg4.want_none rfl) rfl (fun w' hw' hcl' _ => ?_) ?_
      · refine Rg.relAt_call (by go_simp; exact ⟨rfl, rfl⟩) ?_
        have st' := st.ext hw'
        refine (HFC.out _ ((st'.oldFl (i := 0) get0 H.out).pre j hj)).mono ?_
        rintro en w'' ⟨fa, fc, rfl, hfr⟩
        exact ⟨_, rfl, hfr.ext, trivial, fa, fc, rfl, (FreshI.fl (α := FactT) (E := 30) hfr).2⟩
      rintro v ⟨_, _, _, fa9, fc9, rfl, _⟩
      (try simp only [Rg4.nrm])

      refine Rg4.w4_bar (Rg4.want_none rfl) rfl (fun w' hw' hcl hF K hK => ?_)
      obtain ⟨fa, fc, hv, hfl⟩ := (hF 4).2 rfl
      cases hv
      replace st := st.ext hw'
      clear hF hcl hw'
      (try simp only [nsl, Value.cells, unB] at st)
      (try clear hc); have hc := st.facts; (try simp only [nfl, nft, elI, elF, Nat.reduceAdd] at hc)
      go_wp2_with fail
      refine (HFO.out _ _ _ hfl).mono ?_
      rintro en w ⟨rfl, hx⟩
      replace st := st.ext hx
      clear hx
      (try clear hc); have hc := st.facts; (try simp only [nfl, nft, elI, elF, Nat.reduceAdd] at hc)
      clear hfl
      refine hK _ _ ⟨trivial, ?_⟩
      clear hK
      (try simp only [Rg4.nrm])
      (refine Rg4.w4_any (Rg4.want_none rfl) rfl ?_; apply Exists.intro; refine ⟨fun w' => ?_, ?_⟩; (focus (first | (go_simp; done) | (go_simp; first | rfl | (rw [if_neg] <;> first | rfl | omega) | (rw [if_pos] <;> first | rfl | omega)))); (try simp only [Rg4.nrm]))
      refine Rg4.w4_nil (fun w' hw' hcl' _ => ?_); replace st := st.ext hw'; clear hw' hcl'; (try clear hc); have hc := st.facts; (try simp only [nfl, nft, elI, elF, Nat.reduceAdd] at hc)
      cases p with
      | true =>
        go_wp2_with ((first
              | ((with_reducible refine wl_alloc ?_ (fun K hK => ?_)); rfl; refine owp_alloc (o := ⟨some 5, _, _, _, _, _⟩) rfl st ?_; apply Exists.intro; apply Exists.intro; refine ⟨?_, ?_⟩; (focus (first | (go_simp; done) | (go_simp; rfl))); (clear st; intro b5 w hb st; clear hb))
              | ((with_reducible refine wl_store ?_ (fun K hK => ?_)); rfl; refine owp_store rfl st ?_; apply Exists.intro; apply Exists.intro; refine ⟨?_, ?_, ?_⟩; (focus (go_simp; try rfl)); (focus (go_simp; try rfl)); (first | (with_reducible refine ⟨0, _, _, _, _, get0, rfl, rfl, ?_, ?_, ?_, ?_⟩) | (with_reducible refine ⟨1, _, _, _, _, get1, rfl, rfl, ?_, ?_, ?_, ?_⟩) | (with_reducible refine ⟨2, _, _, _, _, get2, rfl, rfl, ?_, ?_, ?_, ?_⟩) | (with_reducible refine ⟨3, _, _, _, _, get3, rfl, rfl, ?_, ?_, ?_, ?_⟩) | (with_reducible refine ⟨4, _, _, _, _, get4, rfl, rfl, ?_, ?_, ?_, ?_⟩) | (with_reducible refine ⟨5, _, _, _, _, get5, rfl, rfl, ?_, ?_, ?_, ?_⟩) | (with_reducible refine ⟨6, _, _, _, _, get6, rfl, rfl, ?_, ?_, ?_, ?_⟩)); (kernel_rfl); (simp [Value.cells]); (rfl); (clear st; intro w st))); (try simp only [nsl, Value.cells, unB] at st); (try clear hc); have hc := st.facts; (try simp only [nfl, nft, elI, elF, Nat.reduceAdd] at hc))
        have st' := st.keep [0] (by decide) (by simp)
        go_roundg (n - (j + 1))
        case measure => omega
        case rel => exact ⟨j + 1, by omega, by omega, by go_num, Lib.hid (fun i hi => by rcases Nat.lt_succ_iff_lt_or_eq.1 hi with q | q; exact HJ.out i q; rw [q]; exact HP.out), by simpa [pick] using st'⟩
      | false =>
        have HV : Hid (v = 50) := Lib.hid (by rw [HE.out, if_pos (standsB_false l j hjl HP.out)])
        obtain rfl := HV.out
        go_wp2_with ((first
              | ((with_reducible refine wl_alloc ?_ (fun K hK => ?_)); rfl; refine owp_alloc (o := ⟨some 5, _, _, _, _, _⟩) rfl st ?_; apply Exists.intro; apply Exists.intro; refine ⟨?_, ?_⟩; (focus (first | (go_simp; done) | (go_simp; rfl))); (clear st; intro b5 w hb st; clear hb))
              | ((with_reducible refine wl_store ?_ (fun K hK => ?_)); rfl; refine owp_store rfl st ?_; apply Exists.intro; apply Exists.intro; refine ⟨?_, ?_, ?_⟩; (focus (go_simp; try rfl)); (focus (go_simp; try rfl)); (first | (with_reducible refine ⟨0, _, _, _, _, get0, rfl, rfl, ?_, ?_, ?_, ?_⟩) | (with_reducible refine ⟨1, _, _, _, _, get1, rfl, rfl, ?_, ?_, ?_, ?_⟩) | (with_reducible refine ⟨2, _, _, _, _, get2, rfl, rfl, ?_, ?_, ?_, ?_⟩) | (with_reducible refine ⟨3, _, _, _, _, get3, rfl, rfl, ?_, ?_, ?_, ?_⟩) | (with_reducible refine ⟨4, _, _, _, _, get4, rfl, rfl, ?_, ?_, ?_, ?_⟩) | (with_reducible refine ⟨5, _, _, _, _, get5, rfl, rfl, ?_, ?_, ?_, ?_⟩) | (with_reducible refine ⟨6, _, _, _, _, get6, rfl, rfl, ?_, ?_, ?_, ?_⟩)); (kernel_rfl); (simp [Value.cells]); (rfl); (clear st; intro w st))); (try simp only [nsl, Value.cells, unB] at st); (try clear hc); have hc := st.facts; (try simp only [nfl, nft, elI, elF, Nat.reduceAdd] at hc))
        replace st := st.row_nil 64 14
        go_ret2
        exact rfOf (i := 2) [] rfl (fun q => absurd q (by decide)) st get2
    · obtain rfl : n = j := by omega
      have HST : Hid (standsB l = true) := Lib.hid (standsB_true l (fun i hi => HJ.out i (by have := HN.out; omega)))
      by_cases h0 : n = 0
      · have HV : Hid (v = 42) := Lib.hid (by rw [HE.out, if_neg (by rw [HST.out]; decide), if_pos (by have := HN.out; omega)])
        obtain rfl := HV.out
        have hn0 : ((n : Int) == 0) = true := by simpa using h0
        (try simp only [nsl, Value.cells, unB] at st)
        (try clear hc); have hc := st.facts; (try simp only [nfl, nft, elI, elF, Nat.reduceAdd] at hc)
        go_wp2_with ((first
              | ((with_reducible refine wl_alloc ?_ (fun K hK => ?_)); rfl; refine owp_alloc (o := ⟨some 5, _, _, _, _, _⟩) rfl st ?_; apply Exists.intro; apply Exists.intro; refine ⟨?_, ?_⟩; (focus (first | (go_simp; done) | (go_simp; rfl))); (clear st; intro b5 w hb st; clear hb))
              | ((with_reducible refine wl_store ?_ (fun K hK => ?_)); rfl; refine owp_store rfl st ?_; apply Exists.intro; apply Exists.intro; refine ⟨?_, ?_, ?_⟩; (focus (go_simp; try rfl)); (focus (go_simp; try rfl)); (first | (with_reducible refine ⟨0, _, _, _, _, get0, rfl, rfl, ?_, ?_, ?_, ?_⟩) | (with_reducible refine ⟨1, _, _, _, _, get1, rfl, rfl, ?_, ?_, ?_, ?_⟩) | (with_reducible refine ⟨2, _, _, _, _, get2, rfl, rfl, ?_, ?_, ?_, ?_⟩) | (with_reducible refine ⟨3, _, _, _, _, get3, rfl, rfl, ?_, ?_, ?_, ?_⟩) | (with_reducible refine ⟨4, _, _, _, _, get4, rfl, rfl, ?_, ?_, ?_, ?_⟩) | (with_reducible refine ⟨5, _, _, _, _, get5, rfl, rfl, ?_, ?_, ?_, ?_⟩) | (with_reducible refine ⟨6, _, _, _, _, get6, rfl, rfl, ?_, ?_, ?_, ?_⟩)); (kernel_rfl); (simp [Value.cells]); (rfl); (clear st; intro w st))); (try simp only [nsl, Value.cells, unB] at st); (try clear hc); have hc := st.facts; (try simp only [nfl, nft, elI, elF, Nat.reduceAdd] at hc))
        replace st := st.row_nil 64 14
        go_ret2
        exact rfOf (i := 1) [] rfl (fun q => absurd q (by decide)) st get1
      · have hn0 : ((n : Int) == 0) = false := by simpa using h0
        obtain ⟨i, rfl⟩ : ∃ i, n = i + 1 := ⟨n - 1, by omega⟩
        have hlen : l.length - 1 = i := by have := HN.out; omega
        replace st := st.row_nil 64 14
        simp only [List.cons_append, List.nil_append] at st
        have HW := Lib.hid (fun fr al w0 w st => walk_c a (i + 1) l W H (Lib.hid (chain_of HST.out)) hn i (by omega) fr al w0 w 0 c 0 0 none [] st (by omega) (by omega) rfl (by omega))
        obtain ⟨o, ho⟩ : ∃ q, walkN l (i + 1) i 0 [] = q := ⟨_, rfl⟩
        have HO := Lib.hid ho
        have hob : o.length ≤ 7000 := by rw [← ho]; have := walkN_bound l (i + 1) i 0 []; simp only [List.length_nil] at this; omega
        have HE2 : Hid (v = if 4096 < o.length then 12 else 0) := Lib.hid (by rw [HE.out, if_neg (by rw [HST.out]; decide), if_neg (by have := HN.out; omega), hlen, ho])
        rw [ho] at HW
        have HO2 : Hid (o = walkN l (l.length - 1 + 1) (l.length - 1) 0 []) := Lib.hid (by rw [hlen, ho])
        clear ho hlen HE HO
        unfold WkGot at HW
        rw [show ((0 : Nat) : Int) = 0 from rfl] at HW
        (try simp only [nsl, Value.cells, unB] at st)
        (try clear hc); have hc := st.facts; (try simp only [nfl, nft, elI, elF, Nat.reduceAdd] at hc)
        go_wp2_with ((first
              | ((with_reducible refine wl_alloc ?_ (fun K hK => ?_)); rfl; refine owp_alloc (o := ⟨some 5, _, _, _, _, _⟩) rfl st ?_; apply Exists.intro; apply Exists.intro; refine ⟨?_, ?_⟩; (focus (first | (go_simp; done) | (go_simp; rfl))); (clear st; intro b5 w hb st; clear hb))
              | ((with_reducible refine wl_store ?_ (fun K hK => ?_)); rfl; refine owp_store rfl st ?_; apply Exists.intro; apply Exists.intro; refine ⟨?_, ?_, ?_⟩; (focus (go_simp; try rfl)); (focus (go_simp; try rfl)); (first | (with_reducible refine ⟨0, _, _, _, _, get0, rfl, rfl, ?_, ?_, ?_, ?_⟩) | (with_reducible refine ⟨1, _, _, _, _, get1, rfl, rfl, ?_, ?_, ?_, ?_⟩) | (with_reducible refine ⟨2, _, _, _, _, get2, rfl, rfl, ?_, ?_, ?_, ?_⟩) | (with_reducible refine ⟨3, _, _, _, _, get3, rfl, rfl, ?_, ?_, ?_, ?_⟩) | (with_reducible refine ⟨4, _, _, _, _, get4, rfl, rfl, ?_, ?_, ?_, ?_⟩) | (with_reducible refine ⟨5, _, _, _, _, get5, rfl, rfl, ?_, ?_, ?_, ?_⟩) | (with_reducible refine ⟨6, _, _, _, _, get6, rfl, rfl, ?_, ?_, ?_, ?_⟩)); (kernel_rfl); (simp [Value.cells]); (rfl); (clear st; intro w st))); (try simp only [nsl, Value.cells, unB] at st); (try clear hc); have hc := st.facts; (try simp only [nfl, nft, elI, elF, Nat.reduceAdd] at hc))
        obtain ⟨fr', al', st', back⟩ := st.sub [0, 1] (by decide) (by simp)
        (try simp only [nsl, Value.cells, unB] at st')
        refine (HW.out _ _ _ _ st').mono ?_
        clear st'
        rintro en w ⟨va3, vc3, rfl, st'⟩
        replace st := back _ _ (by simp) st'
        clear back st'
        (try simp only [nsl, Value.cells, unB] at st)
        (try clear hc); have hc := st.facts; (try simp only [nfl, nft, elI, elF, Nat.reduceAdd] at hc)
        by_cases h40 : 4096 < o.length
        · have HV : Hid (v = 12) := Lib.hid (by rw [HE2.out, if_pos h40])
          obtain rfl := HV.out
          have hgt : decide ((o.length : Int) > 4096) = true := by simp; omega
          go_wp2_with ((first
                | ((with_reducible refine wl_alloc ?_ (fun K hK => ?_)); rfl; refine owp_alloc (o := ⟨some 5, _, _, _, _, _⟩) rfl st ?_; apply Exists.intro; apply Exists.intro; refine ⟨?_, ?_⟩; (focus (first | (go_simp; done) | (go_simp; rfl))); (clear st; intro b5 w hb st; clear hb))
                | ((with_reducible refine wl_store ?_ (fun K hK => ?_)); rfl; refine owp_store rfl st ?_; apply Exists.intro; apply Exists.intro; refine ⟨?_, ?_, ?_⟩; (focus (go_simp; try rfl)); (focus (go_simp; try rfl)); (first | (with_reducible refine ⟨0, _, _, _, _, get0, rfl, rfl, ?_, ?_, ?_, ?_⟩) | (with_reducible refine ⟨1, _, _, _, _, get1, rfl, rfl, ?_, ?_, ?_, ?_⟩) | (with_reducible refine ⟨2, _, _, _, _, get2, rfl, rfl, ?_, ?_, ?_, ?_⟩) | (with_reducible refine ⟨3, _, _, _, _, get3, rfl, rfl, ?_, ?_, ?_, ?_⟩) | (with_reducible refine ⟨4, _, _, _, _, get4, rfl, rfl, ?_, ?_, ?_, ?_⟩) | (with_reducible refine ⟨5, _, _, _, _, get5, rfl, rfl, ?_, ?_, ?_, ?_⟩) | (with_reducible refine ⟨6, _, _, _, _, get6, rfl, rfl, ?_, ?_, ?_, ?_⟩)); (kernel_rfl); (simp [Value.cells]); (rfl); (clear st; intro w st))); (try simp only [nsl, Value.cells, unB] at st); (try clear hc); have hc := st.facts; (try simp only [nfl, nft, elI, elF, Nat.reduceAdd] at hc))
          replace st := st.row_nil 64 14
          go_ret2
          exact rfOf (i := 2) [] rfl (fun q => absurd q (by decide)) st get2
        · have HV : Hid (v = 0) := Lib.hid (by rw [HE2.out, if_neg h40])
          obtain rfl := HV.out
          have hgt : decide ((o.length : Int) > 4096) = false := by simp; omega
          go_wp2_with ((first
                | ((with_reducible refine wl_alloc ?_ (fun K hK => ?_)); rfl; refine owp_alloc (o := ⟨some 5, _, _, _, _, _⟩) rfl st ?_; apply Exists.intro; apply Exists.intro; refine ⟨?_, ?_⟩; (focus (first | (go_simp; done) | (go_simp; rfl))); (clear st; intro b5 w hb st; clear hb))
                | ((with_reducible refine wl_store ?_ (fun K hK => ?_)); rfl; refine owp_store rfl st ?_; apply Exists.intro; apply Exists.intro; refine ⟨?_, ?_, ?_⟩; (focus (go_simp; try rfl)); (focus (go_simp; try rfl)); (first | (with_reducible refine ⟨0, _, _, _, _, get0, rfl, rfl, ?_, ?_, ?_, ?_⟩) | (with_reducible refine ⟨1, _, _, _, _, get1, rfl, rfl, ?_, ?_, ?_, ?_⟩) | (with_reducible refine ⟨2, _, _, _, _, get2, rfl, rfl, ?_, ?_, ?_, ?_⟩) | (with_reducible refine ⟨3, _, _, _, _, get3, rfl, rfl, ?_, ?_, ?_, ?_⟩) | (with_reducible refine ⟨4, _, _, _, _, get4, rfl, rfl, ?_, ?_, ?_, ?_⟩) | (with_reducible refine ⟨5, _, _, _, _, get5, rfl, rfl, ?_, ?_, ?_, ?_⟩) | (with_reducible refine ⟨6, _, _, _, _, get6, rfl, rfl, ?_, ?_, ?_, ?_⟩)); (kernel_rfl); (simp [Value.cells]); (rfl); (clear st; intro w st))); (try simp only [nsl, Value.cells, unB] at st); (try clear hc); have hc := st.facts; (try simp only [nfl, nft, elI, elF, Nat.reduceAdd] at hc))
          go_ret2
          exact rfOf (i := 1) o rfl (fun q => HO2.out) st get1
end Go.Proofs.YtdfdnedcaodmkaaGreat

namespace Go.Proofs.YtdfdnedcaodmkaaGreat
set_option linter.unusedSimpArgs false
set_option linter.unusedVariables false
open Go Go.RowKit
theorem credCmp_dec (x y : CredT) : decide (credCmp x y < 0) = credLt x y := by
  unfold credCmp cmp2 credLt
  cases h : strLt (credBy x) (credBy y) with
  | true => simp
  | false => cases h2 : strLt (credBy y) (credBy x) <;> simp
theorem pickMin_cand {α : Type} [Inhabited α] [DecidableEq α] {lt : α → α → Bool} (c : α → Bool) (l : List α) : ∀ y, pickMin lt c l = some y → c y = true := by
  refine list_snoc (motive := fun l => ∀ y, pickMin lt c l = some y → c y = true) (fun y h => by simp [pickMin] at h) (fun l x ih y h => ?_) l
  rw [pickMin_snoc] at h
  split at h
  · rename_i hc; cases h; simp only [Bool.and_eq_true] at hc; exact hc.1
  · exact ih y h
theorem cnd_P {α : Type} {lt : α → α → Bool} {P : α → Bool} {out : List α} {x : α} (h : cnd lt P out x = true) : P x = true := by
  unfold cnd at h; rw [Bool.and_eq_true] at h; exact h.1
def okC (ok : Bool) (b : CredT) : Option CredT := if ok then some b else none
theorem okC_t (b : CredT) : okC true b = some b := rfl
theorem okC_f (b : CredT) : okC false b = none := rfl
set_option maxRecDepth 100000 in
set_option maxHeartbeats 2000000 in
theorem refCredSet_any (a : Option Addr) (n c : Nat) (l : List CredT) (W : World) (h : Fl W a n l) (hn : n ≤ 2000000) (hs : ∀ x ∈ l, CredL 100000 x) :
    Calls Tryz.prog 26 #[.slice a n c] W fun e w' => ∃ out va vc, e = .returned (.slice va out.length vc) ∧ SSet credLt credR l out ∧ FreshI W w' (rowI 28 9 (.slice va out.length vc) out.length (cellsL out)) := by
  have H := Lib.hid h
  have HNL := Lib.hid (And.intro h.1 hs)
  clear h hs
  have st := (Own.startOld W).row_nil 28 9
  (try simp only [nsl, Value.cells, unB] at st)
  (try clear hc); have hc := st.facts; (try simp only [nfl, nft, Nat.reduceAdd] at hc)
  go_enter Tryz.func26, Tryz.ntmps26
  go_wp2_with fail
  go_loopg [3] (left credLt credR l []) (fun k v wr => ∃ (out : List CredT) (m : Nat) (va : Option Addr) (vc : Nat), v = .slice va m vc ∧ m ≤ 2000000 ∧ Hid (GInv credLt credR l out ∧ left credLt credR l out ≤ k ∧ m = out.length) ∧ Own (fun _ => False) (fun _ => True) W [oldI W, rowI 28 9 (.slice va m vc) m (cellsL out)] wr)
  case atStart => exact ⟨[], 0, none, 0, rfl, by omega, Lib.hid ⟨GInv.nil _, Nat.le_refl _, rfl⟩, st⟩
  case round =>
    obtain ⟨out, m, va, vc, rfl, hm2, HG, st'⟩ := hrel
    clear st hc
    have st := st'
    clear st'
    (try simp only [nsl, Value.cells, unB] at st)
    (try clear hc); have hc := st.facts; (try simp only [nfl, nft, Nat.reduceAdd] at hc)
    go_wp2_with ((((with_reducible refine wl_alloc ?_ (fun K hK => ?_)); rfl; refine owp_alloc (o := ⟨some 4, _, _, _, _, _⟩) rfl st ?_; apply Exists.intro; apply Exists.intro; refine ⟨?_, ?_⟩; (focus (first | (go_simp; done) | (go_simp; rfl))); (clear st; intro b4 w hb st; clear hb))); (try simp only [nsl, Value.cells, unB] at st); (try clear hc); have hc := st.facts; (try simp only [nfl, nft, Nat.reduceAdd] at hc))
    go_loopg [5, 10] n (fun k vok i wr => ∃ (j : Nat) (ok : Bool) (best : CredT), j ≤ n ∧ k = n - j ∧ i = .int .i64 (j : Int) ∧ vok = .bool ok ∧ Hid (pickMin credLt (cnd credLt credR out) (l.take j) = okC ok best) ∧ Own (fun _ => False) (fun _ => True) W [oldI W, rowI 28 9 (.slice va m vc) m (cellsL out), blkI b4 [.int .i64 best.k, .string ⟨best.h.1.toArray⟩, .string ⟨best.h.2.toArray⟩, .string ⟨best.w.toArray⟩, .string ⟨best.b.1.toArray⟩, .string ⟨best.b.2.toArray⟩, .string ⟨best.c.1.toArray⟩, .string ⟨best.c.2.toArray⟩, .string ⟨best.e.toArray⟩]] wr)
    case atStart => exact ⟨0, false, zC, by omega, by omega, rfl, rfl, Lib.hid (by simp [pickMin, okC]), by first | exact st | simpa [zC] using st⟩
    case round =>
      obtain ⟨j, ok, best, hj, rfl, rfl, rfl, HP, st'⟩ := hrel
      clear st hc
      have st := st'
      clear st'
      (try simp only [nsl, Value.cells, unB] at st)
      (try clear hc); have hc := st.facts; (try simp only [nfl, nft, Nat.reduceAdd] at hc)
      by_cases hjn : j < n
      · obtain ⟨b, off, ha, hcell⟩ := H.out.cred (by omega)
        have hjl : j < l.length := by have := HNL.out.1; omega
        have r0 := st.oldCell (i := 0) get0 (hcell j l[j] (List.getElem?_eq_getElem hjl)).1
        have r1 := st.oldCell (i := 0) get0 (hcell j l[j] (List.getElem?_eq_getElem hjl)).2.1
        have r2 := st.oldCell (i := 0) get0 (hcell j l[j] (List.getElem?_eq_getElem hjl)).2.2.1
        have r3 := st.oldCell (i := 0) get0 (hcell j l[j] (List.getElem?_eq_getElem hjl)).2.2.2.1
        have r4 := st.oldCell (i := 0) get0 (hcell j l[j] (List.getElem?_eq_getElem hjl)).2.2.2.2.1
        have r5 := st.oldCell (i := 0) get0 (hcell j l[j] (List.getElem?_eq_getElem hjl)).2.2.2.2.2.1
        have r6 := st.oldCell (i := 0) get0 (hcell j l[j] (List.getElem?_eq_getElem hjl)).2.2.2.2.2.2.1
        have r7 := st.oldCell (i := 0) get0 (hcell j l[j] (List.getElem?_eq_getElem hjl)).2.2.2.2.2.2.2.1
        have r8 := st.oldCell (i := 0) get0 (hcell j l[j] (List.getElem?_eq_getElem hjl)).2.2.2.2.2.2.2.2
        have hts := pickMin_take (lt := credLt) (cnd credLt credR out) l j hjl
        have hxl := HNL.out.2 l[j] (List.getElem_mem hjl)
        have hrr := refCredRight_any l[j]
        have hlb := fun (W : World) (hx : CredL 100000 l[j]) (hb : credR best = true) => refCredCompare_any l[j] best W hx (credR_len hb)
        clear hcell
        generalize l[j] = x at *
        have HX := Lib.hid hts
        have hrr2 := fun W => hrr W (by have := hxl; unfold CredL at this; omega)
        have hlb2 := fun W => hlb W hxl
        subst ha
        unfold S at r1 r2 r3 r4 r5 r6 r7 r8
        unfold cV S at hrr2 hlb2
        have HLB := Lib.hid hlb2
        clear hlb hlb2 hrr hts
        have hrr := hrr2
        clear hrr2
        go_wp2_with ((first
              | ((with_reducible refine wl_alloc ?_ (fun K hK => ?_)); rfl; refine owp_alloc (o := ⟨some 7, _, _, _, _, _⟩) rfl st ?_; apply Exists.intro; apply Exists.intro; refine ⟨?_, ?_⟩; (focus (first | (go_simp; done) | (go_simp; rfl))); (clear st; intro b7 w hb st; clear hb))
              | ((with_reducible refine wl_store ?_ (fun K hK => ?_)); rfl; refine owp_store rfl st ?_; apply Exists.intro; apply Exists.intro; refine ⟨?_, ?_, ?_⟩; (focus (go_simp; try rfl)); (focus (go_simp; try rfl)); (with_reducible refine ⟨3, _, _, _, _, get3, rfl, rfl, ?_, ?_, ?_, ?_⟩); (kernel_rfl); (simp [Value.cells]); (rfl); (clear st; intro w st))); (try simp only [nsl, Value.cells, unB] at st); (try clear hc); have hc := st.facts; (try simp only [nfl, nft, Nat.reduceAdd] at hc))
        clear r0 r1 r2 r3 r4 r5 r6 r7 r8
        cases hr : credR x with
        | false =>
          have HR := Lib.hid (And.intro (And.intro hr hxl) hrr)
          clear hr hrr hxl
          refine Rg4.wp_region4 (Rel := Ext) #[0, 1, 3, 7, 15, 31, 63, 127, 127, 383, 895, 2047, 4095, 127, 16383, 32767, 65535, 131071, 262143, 524287, 1048575, 2097151, 4194303, 4194303, 16777215, 33554431, 67108863, 134217727]
            [(1, .val (.bool false)), (14, .val (.int .i64 0)), (24, .val (.int .i64 0))] [] [0, 12, 13, 22, 23] (fun _ => True) [0, 1, 2, 3, 4, 5, 6, 7, 8, 9, 10, 11, 12, 13, 14, 15, 16, 17, 18, 19, 20, 21, 22, 23, 24, 25, 26, 27] (by kernel_rfl) (by kernel_rfl) (by kernel_rfl) (by kernel_rfl) Ext.refl (fun _ _ _ => Ext.trans) (show Rg4.PB _ by repeat (first | with_reducible exact Rg4.pb_body | with_reducible exact Rg4.pb_bodyD rfl | with_reducible refine Rg4.pb_then ?_ | with_reducible refine Rg4.pb_inBlock ?_ | with_reducible refine Rg4.pb_noGoto ?_ | with_reducible assumption)) (trivial) ?_
          replace st := st.drew
          change Rg4.wp4 _ _ _ _ _ _ _ _ _ (World.drew _) _ _
          generalize World.drew _ = w at st ⊢
          (try clear hc); have hc := st.facts; (try simp only [nfl, nft, Nat.reduceAdd] at hc)
          (refine Rg4.w4_read (Rg4.want_none rfl) rfl rfl ?_; apply Exists.intro; refine ⟨fun w' hw' hcl' => ?_, ?_⟩; focus (have st' := st.ext hw'; have hc' := st'.facts; (try simp only [nfl, nft, Nat.reduceAdd] at hc'); (focus (first | (go_simp; done) | (go_simp; first | rfl | (rw [if_neg] <;> first | rfl | omega) | (rw [if_pos] <;> first | rfl | omega))))); (try simp only [Rg4.nrm]))
          refine Rg4.w4_some (Rg4.want_none rfl) rfl (fun w' hw' hcl' _ => ?_) ?_
          · refine Rg.relAt_call (by go_simp; exact ⟨rfl, rfl⟩) ?_
            refine (HR.out.2 _).mono ?_
            rintro en w'' ⟨rfl, hx⟩
            exact ⟨_, by rw [HR.out.1.1], hx, trivial, rfl⟩
          rintro v ⟨_, _, _, rfl⟩
          (try simp only [Rg4.nrm])
          (refine Rg4.w4_any (Rg4.want_none rfl) rfl ?_; apply Exists.intro; refine ⟨fun w' => ?_, ?_⟩; (focus (first | (go_simp; done) | (go_simp; first | rfl | (rw [if_neg] <;> first | rfl | omega) | (rw [if_pos] <;> first | rfl | omega)))); (try simp only [Rg4.nrm]))
          iterate 9 (first | (refine Rg4.w4_any (Rg4.wt rfl rfl rfl) rfl ?_; apply Exists.intro; refine ⟨fun w' => ?_, ?_⟩; (focus (first | (go_simp; done) | (go_simp; first | rfl | (rw [if_neg] <;> first | rfl | omega) | (rw [if_pos] <;> first | rfl | omega)))); (try simp only [Rg4.nrm])) | (refine Rg4.w4_skip (Rg4.uw rfl rfl rfl) ?_; (try simp only [Rg4.nrm])) | (refine Rg4.w4_skip (Rg4.un rfl rfl rfl) ?_; (try simp only [Rg4.nrm])))
          iterate 2 (first | (refine Rg4.w4_read (Rg4.wt rfl rfl rfl) rfl rfl ?_; apply Exists.intro; refine ⟨fun w' hw' hcl' => ?_, ?_⟩; focus (have st' := st.ext hw'; have hc' := st'.facts; (try simp only [nfl, nft, Nat.reduceAdd] at hc'); (focus (first | (go_simp; done) | (go_simp; first | rfl | (rw [if_neg] <;> first | rfl | omega) | (rw [if_pos] <;> first | rfl | omega))))); (try simp only [Rg4.nrm])) | (refine Rg4.w4_skip (Rg4.uw rfl rfl rfl) ?_; (try simp only [Rg4.nrm])) | (refine Rg4.w4_skip (Rg4.un rfl rfl rfl) ?_; (try simp only [Rg4.nrm])))
          first | refine Rg4.w4_skip (Rg4.uw rfl rfl rfl) ?_ | refine Rg4.w4_skip (Rg4.un rfl rfl rfl) ?_
          (try simp only [Rg4.nrm])
          iterate 2 (first | (refine Rg4.w4_any (Rg4.wt rfl rfl rfl) rfl ?_; apply Exists.intro; refine ⟨fun w' => ?_, ?_⟩; (focus (first | (go_simp; done) | (go_simp; first | rfl | (rw [if_neg] <;> first | rfl | omega) | (rw [if_pos] <;> first | rfl | omega)))); (try simp only [Rg4.nrm])) | (refine Rg4.w4_skip (Rg4.uw rfl rfl rfl) ?_; (try simp only [Rg4.nrm])) | (refine Rg4.w4_skip (Rg4.un rfl rfl rfl) ?_; (try simp only [Rg4.nrm])))
          iterate 2 (refine Rg4.w4_any (Rg4.want_none rfl) rfl ?_; apply Exists.intro; refine ⟨fun w' => ?_, ?_⟩; (focus (first | (go_simp; done) | (go_simp; first | rfl | (rw [if_neg] <;> first | rfl | omega) | (rw [if_pos] <;> first | rfl | omega)))); (try simp only [Rg4.nrm]))
          iterate 3 (first | (refine Rg4.w4_any (Rg4.wt rfl rfl rfl) rfl ?_; apply Exists.intro; refine ⟨fun w' => ?_, ?_⟩; (focus (first | (go_simp; done) | (go_simp; first | rfl | (rw [if_neg] <;> first | rfl | omega) | (rw [if_pos] <;> first | rfl | omega)))); (try simp only [Rg4.nrm])) | (refine Rg4.w4_skip (Rg4.uw rfl rfl rfl) ?_; (try simp only [Rg4.nrm])) | (refine Rg4.w4_skip (Rg4.un rfl rfl rfl) ?_; (try simp only [Rg4.nrm])))
          iterate 2 (first | (refine Rg4.w4_read (Rg4.wt rfl rfl rfl) rfl rfl ?_; apply Exists.intro; refine ⟨fun w' hw' hcl' => ?_, ?_⟩; focus (have st' := st.ext hw'; have hc' := st'.facts; (try simp only [nfl, nft, Nat.reduceAdd] at hc'); (focus (first | (go_simp; done) | (go_simp; first | rfl | (rw [if_neg] <;> first | rfl | omega) | (rw [if_pos] <;> first | rfl | omega))))); (try simp only [Rg4.nrm])) | (refine Rg4.w4_skip (Rg4.uw rfl rfl rfl) ?_; (try simp only [Rg4.nrm])) | (refine Rg4.w4_skip (Rg4.un rfl rfl rfl) ?_; (try simp only [Rg4.nrm])))
          first | refine Rg4.w4_skip (Rg4.uw rfl rfl rfl) ?_ | refine Rg4.w4_skip (Rg4.un rfl rfl rfl) ?_
          (try simp only [Rg4.nrm])
          iterate 2 (first | (refine Rg4.w4_any (Rg4.wt rfl rfl rfl) rfl ?_; apply Exists.intro; refine ⟨fun w' => ?_, ?_⟩; (focus (first | (go_simp; done) | (go_simp; first | rfl | (rw [if_neg] <;> first | rfl | omega) | (rw [if_pos] <;> first | rfl | omega)))); (try simp only [Rg4.nrm])) | (refine Rg4.w4_skip (Rg4.uw rfl rfl rfl) ?_; (try simp only [Rg4.nrm])) | (refine Rg4.w4_skip (Rg4.un rfl rfl rfl) ?_; (try simp only [Rg4.nrm])))
          (refine Rg4.w4_any (Rg4.want_none rfl) rfl ?_; apply Exists.intro; refine ⟨fun w' => ?_, ?_⟩; (focus (first | (go_simp; done) | (go_simp; first | rfl | (rw [if_neg] <;> first | rfl | omega) | (rw [if_pos] <;> first | rfl | omega)))); (try simp only [Rg4.nrm]))
          refine Rg4.w4_nil (fun w' hw' hcl' _ => ?_); replace st := st.ext hw'; clear hw' hcl'; (try clear hc); have hc := st.facts; (try simp only [nfl, nft, Nat.reduceAdd] at hc)
          have HB : Hid (pickMin credLt (cnd credLt credR out) (l.take (j + 1)) = pickMin credLt (cnd credLt credR out) (l.take j)) := Lib.hid (by rw [HX.out]; simp [cnd, HR.out.1.1])
          go_wp2_with fail
          have st' := st.keep [0, 1, 2] (by decide) (by simp)
          go_roundg (n - (j + 1))
          case measure => omega
          case rel => exact ⟨j + 1, ok, best, by omega, by omega, by first | rfl | trivial | go_num, rfl, Lib.hid (by rw [HB.out]; exact HP.out), by simpa [pick] using st'⟩
        | true =>
          have HR := Lib.hid (And.intro (And.intro hr hxl) hrr)
          clear hr hrr hxl
          rcases List.eq_nil_or_concat out with ho | ⟨pre, z, ho⟩
          · subst ho
            have hm0 : m = 0 := HG.out.2.2
            subst hm0
            cases ok with
            | false =>
              refine Rg4.wp_region4 (Rel := Ext) #[0, 1, 3, 7, 15, 31, 63, 127, 127, 383, 895, 2047, 4095, 127, 16383, 32767, 65535, 131071, 262143, 524287, 1048575, 2097151, 4194303, 4194303, 16777215, 33554431, 67108863, 134217727]
                [(1, .val (.bool true)), (14, .val (.int .i64 0)), (24, .val (.int .i64 0))] [] [0, 12, 13, 22, 23] (fun _ => True) [0, 1, 2, 3, 4, 5, 6, 7, 8, 9, 10, 11, 12, 13, 14, 15, 16, 17, 18, 19, 20, 21, 22, 23, 24, 25, 26, 27] (by kernel_rfl) (by kernel_rfl) (by kernel_rfl) (by kernel_rfl) Ext.refl (fun _ _ _ => Ext.trans) (show Rg4.PB _ by repeat (first | with_reducible exact Rg4.pb_body | with_reducible exact Rg4.pb_bodyD rfl | with_reducible refine Rg4.pb_then ?_ | with_reducible refine Rg4.pb_inBlock ?_ | with_reducible refine Rg4.pb_noGoto ?_ | with_reducible assumption)) (trivial) ?_
              replace st := st.drew
              change Rg4.wp4 _ _ _ _ _ _ _ _ _ (World.drew _) _ _
              generalize World.drew _ = w at st ⊢
              (try clear hc); have hc := st.facts; (try simp only [nfl, nft, Nat.reduceAdd] at hc)
              (refine Rg4.w4_read (Rg4.want_none rfl) rfl rfl ?_; apply Exists.intro; refine ⟨fun w' hw' hcl' => ?_, ?_⟩; focus (have st' := st.ext hw'; have hc' := st'.facts; (try simp only [nfl, nft, Nat.reduceAdd] at hc'); (focus (first | (go_simp; done) | (go_simp; first | rfl | (rw [if_neg] <;> first | rfl | omega) | (rw [if_pos] <;> first | rfl | omega))))); (try simp only [Rg4.nrm]))
              refine Rg4.w4_some (Rg4.want_none rfl) rfl (fun w' hw' hcl' _ => ?_) ?_
              · refine Rg.relAt_call (by go_simp; exact ⟨rfl, rfl⟩) ?_
                refine (HR.out.2 _).mono ?_
                rintro en w'' ⟨rfl, hx⟩
                exact ⟨_, by rw [HR.out.1.1], hx, trivial, rfl⟩
              rintro v ⟨_, _, _, rfl⟩
              (try simp only [Rg4.nrm])
              (refine Rg4.w4_any (Rg4.want_none rfl) rfl ?_; apply Exists.intro; refine ⟨fun w' => ?_, ?_⟩; (focus (first | (go_simp; done) | (go_simp; first | rfl | (rw [if_neg] <;> first | rfl | omega) | (rw [if_pos] <;> first | rfl | omega)))); (try simp only [Rg4.nrm]))
              iterate 9 (first | (refine Rg4.w4_any (Rg4.wt rfl rfl rfl) rfl ?_; apply Exists.intro; refine ⟨fun w' => ?_, ?_⟩; (focus (first | (go_simp; done) | (go_simp; first | rfl | (rw [if_neg] <;> first | rfl | omega) | (rw [if_pos] <;> first | rfl | omega)))); (try simp only [Rg4.nrm])) | (refine Rg4.w4_skip (Rg4.uw rfl rfl rfl) ?_; (try simp only [Rg4.nrm])) | (refine Rg4.w4_skip (Rg4.un rfl rfl rfl) ?_; (try simp only [Rg4.nrm])))
              iterate 2 (first | (refine Rg4.w4_read (Rg4.wt rfl rfl rfl) rfl rfl ?_; apply Exists.intro; refine ⟨fun w' hw' hcl' => ?_, ?_⟩; focus (have st' := st.ext hw'; have hc' := st'.facts; (try simp only [nfl, nft, Nat.reduceAdd] at hc'); (focus (first | (go_simp; done) | (go_simp; first | rfl | (rw [if_neg] <;> first | rfl | omega) | (rw [if_pos] <;> first | rfl | omega))))); (try simp only [Rg4.nrm])) | (refine Rg4.w4_skip (Rg4.uw rfl rfl rfl) ?_; (try simp only [Rg4.nrm])) | (refine Rg4.w4_skip (Rg4.un rfl rfl rfl) ?_; (try simp only [Rg4.nrm])))
              first | refine Rg4.w4_skip (Rg4.uw rfl rfl rfl) ?_ | refine Rg4.w4_skip (Rg4.un rfl rfl rfl) ?_
              (try simp only [Rg4.nrm])
              iterate 2 (first | (refine Rg4.w4_any (Rg4.wt rfl rfl rfl) rfl ?_; apply Exists.intro; refine ⟨fun w' => ?_, ?_⟩; (focus (first | (go_simp; done) | (go_simp; first | rfl | (rw [if_neg] <;> first | rfl | omega) | (rw [if_pos] <;> first | rfl | omega)))); (try simp only [Rg4.nrm])) | (refine Rg4.w4_skip (Rg4.uw rfl rfl rfl) ?_; (try simp only [Rg4.nrm])) | (refine Rg4.w4_skip (Rg4.un rfl rfl rfl) ?_; (try simp only [Rg4.nrm])))
              iterate 2 (refine Rg4.w4_any (Rg4.want_none rfl) rfl ?_; apply Exists.intro; refine ⟨fun w' => ?_, ?_⟩; (focus (first | (go_simp; done) | (go_simp; first | rfl | (rw [if_neg] <;> first | rfl | omega) | (rw [if_pos] <;> first | rfl | omega)))); (try simp only [Rg4.nrm]))
              iterate 3 (first | (refine Rg4.w4_any (Rg4.wt rfl rfl rfl) rfl ?_; apply Exists.intro; refine ⟨fun w' => ?_, ?_⟩; (focus (first | (go_simp; done) | (go_simp; first | rfl | (rw [if_neg] <;> first | rfl | omega) | (rw [if_pos] <;> first | rfl | omega)))); (try simp only [Rg4.nrm])) | (refine Rg4.w4_skip (Rg4.uw rfl rfl rfl) ?_; (try simp only [Rg4.nrm])) | (refine Rg4.w4_skip (Rg4.un rfl rfl rfl) ?_; (try simp only [Rg4.nrm])))
              iterate 2 (first | (refine Rg4.w4_read (Rg4.wt rfl rfl rfl) rfl rfl ?_; apply Exists.intro; refine ⟨fun w' hw' hcl' => ?_, ?_⟩; focus (have st' := st.ext hw'; have hc' := st'.facts; (try simp only [nfl, nft, Nat.reduceAdd] at hc'); (focus (first | (go_simp; done) | (go_simp; first | rfl | (rw [if_neg] <;> first | rfl | omega) | (rw [if_pos] <;> first | rfl | omega))))); (try simp only [Rg4.nrm])) | (refine Rg4.w4_skip (Rg4.uw rfl rfl rfl) ?_; (try simp only [Rg4.nrm])) | (refine Rg4.w4_skip (Rg4.un rfl rfl rfl) ?_; (try simp only [Rg4.nrm])))
              first | refine Rg4.w4_skip (Rg4.uw rfl rfl rfl) ?_ | refine Rg4.w4_skip (Rg4.un rfl rfl rfl) ?_
              (try simp only [Rg4.nrm])
              iterate 2 (first | (refine Rg4.w4_any (Rg4.wt rfl rfl rfl) rfl ?_; apply Exists.intro; refine ⟨fun w' => ?_, ?_⟩; (focus (first | (go_simp; done) | (go_simp; first | rfl | (rw [if_neg] <;> first | rfl | omega) | (rw [if_pos] <;> first | rfl | omega)))); (try simp only [Rg4.nrm])) | (refine Rg4.w4_skip (Rg4.uw rfl rfl rfl) ?_; (try simp only [Rg4.nrm])) | (refine Rg4.w4_skip (Rg4.un rfl rfl rfl) ?_; (try simp only [Rg4.nrm])))
              (refine Rg4.w4_any (Rg4.want_none rfl) rfl ?_; apply Exists.intro; refine ⟨fun w' => ?_, ?_⟩; (focus (first | (go_simp; done) | (go_simp; first | rfl | (rw [if_neg] <;> first | rfl | omega) | (rw [if_pos] <;> first | rfl | omega)))); (try simp only [Rg4.nrm]))
              refine Rg4.w4_nil (fun w' hw' hcl' _ => ?_); replace st := st.ext hw'; clear hw' hcl'; (try clear hc); have hc := st.facts; (try simp only [nfl, nft, Nat.reduceAdd] at hc)
              have HB : Hid (pickMin credLt (cnd credLt credR []) (l.take (j + 1)) = some x) := Lib.hid (by rw [HX.out]; simp [cnd, HR.out.1.1, HP.out, okC_f])
              go_wp2_with ((((with_reducible refine wl_store ?_ (fun K hK => ?_)); rfl; refine owp_store rfl st ?_; apply Exists.intro; apply Exists.intro; refine ⟨?_, ?_, ?_⟩; (focus (go_simp; try rfl)); (focus (go_simp; try rfl)); (with_reducible refine ⟨2, _, _, _, _, get2, rfl, rfl, ?_, ?_, ?_, ?_⟩); (kernel_rfl); (simp [Value.cells]); (rfl); (clear st; intro w st))); (try simp only [nsl, Value.cells, unB] at st); (try clear hc); have hc := st.facts; (try simp only [nfl, nft, Nat.reduceAdd] at hc))
              have st' := st.keep [0, 1, 2] (by decide) (by simp)
              go_roundg (n - (j + 1))
              case measure => omega
              case rel => exact ⟨j + 1, true, x, by omega, by omega, by first | rfl | trivial | go_num, rfl, Lib.hid (by rw [HB.out]; rfl), by simpa [pick] using st'⟩
            | true =>
              cases hlt : credLt x best with
              | true =>
                have HLT := Lib.hid hlt
                have hqb := credCmp_dec x best
                rw [hlt] at hqb
                obtain ⟨qb, hq⟩ : ∃ q, credCmp x best = q := ⟨_, rfl⟩
                rw [hq] at hqb
                have HQB := Lib.hid hq
                have HBR : Hid (credR best = true) := Lib.hid (cnd_P (pickMin_cand _ _ best (HP.out.trans (okC_t best))))
                clear hlt hq
                refine Rg4.wp_region4 (Rel := Ext) #[0, 1, 3, 7, 15, 31, 63, 127, 127, 383, 895, 2047, 4095, 127, 16383, 32767, 65535, 131071, 262143, 524287, 1048575, 2097151, 4194303, 4194303, 16777215, 33554431, 67108863, 134217727]
                  [(1, .val (.bool true)), (14, .val (.int .i64 0)), (24, .val (.int .i64 qb))] [] [0, 12, 13, 22, 23] (fun _ => True) [0, 1, 2, 3, 4, 5, 6, 7, 8, 9, 10, 11, 12, 13, 14, 15, 16, 17, 18, 19, 20, 21, 22, 23, 24, 25, 26, 27] (by kernel_rfl) (by kernel_rfl) (by kernel_rfl) (by kernel_rfl) Ext.refl (fun _ _ _ => Ext.trans) (show Rg4.PB _ by repeat (first | with_reducible exact Rg4.pb_body | with_reducible exact Rg4.pb_bodyD rfl | with_reducible refine Rg4.pb_then ?_ | with_reducible refine Rg4.pb_inBlock ?_ | with_reducible refine Rg4.pb_noGoto ?_ | with_reducible assumption)) (trivial) ?_
                replace st := st.drew
                change Rg4.wp4 _ _ _ _ _ _ _ _ _ (World.drew _) _ _
                generalize World.drew _ = w at st ⊢
                (try clear hc); have hc := st.facts; (try simp only [nfl, nft, Nat.reduceAdd] at hc)
                (refine Rg4.w4_read (Rg4.want_none rfl) rfl rfl ?_; apply Exists.intro; refine ⟨fun w' hw' hcl' => ?_, ?_⟩; focus (have st' := st.ext hw'; have hc' := st'.facts; (try simp only [nfl, nft, Nat.reduceAdd] at hc'); (focus (first | (go_simp; done) | (go_simp; first | rfl | (rw [if_neg] <;> first | rfl | omega) | (rw [if_pos] <;> first | rfl | omega))))); (try simp only [Rg4.nrm]))
                refine Rg4.w4_some (Rg4.want_none rfl) rfl (fun w' hw' hcl' _ => ?_) ?_
                · refine Rg.relAt_call (by go_simp; exact ⟨rfl, rfl⟩) ?_
                  refine (HR.out.2 _).mono ?_
                  rintro en w'' ⟨rfl, hx⟩
                  exact ⟨_, by rw [HR.out.1.1], hx, trivial, rfl⟩
                rintro v ⟨_, _, _, rfl⟩
                (try simp only [Rg4.nrm])
                (refine Rg4.w4_any (Rg4.want_none rfl) rfl ?_; apply Exists.intro; refine ⟨fun w' => ?_, ?_⟩; (focus (first | (go_simp; done) | (go_simp; first | rfl | (rw [if_neg] <;> first | rfl | omega) | (rw [if_pos] <;> first | rfl | omega)))); (try simp only [Rg4.nrm]))
                iterate 9 (first | (refine Rg4.w4_any (Rg4.wt rfl rfl rfl) rfl ?_; apply Exists.intro; refine ⟨fun w' => ?_, ?_⟩; (focus (first | (go_simp; done) | (go_simp; first | rfl | (rw [if_neg] <;> first | rfl | omega) | (rw [if_pos] <;> first | rfl | omega)))); (try simp only [Rg4.nrm])) | (refine Rg4.w4_skip (Rg4.uw rfl rfl rfl) ?_; (try simp only [Rg4.nrm])) | (refine Rg4.w4_skip (Rg4.un rfl rfl rfl) ?_; (try simp only [Rg4.nrm])))
                iterate 2 (first | (refine Rg4.w4_read (Rg4.wt rfl rfl rfl) rfl rfl ?_; apply Exists.intro; refine ⟨fun w' hw' hcl' => ?_, ?_⟩; focus (have st' := st.ext hw'; have hc' := st'.facts; (try simp only [nfl, nft, Nat.reduceAdd] at hc'); (focus (first | (go_simp; done) | (go_simp; first | rfl | (rw [if_neg] <;> first | rfl | omega) | (rw [if_pos] <;> first | rfl | omega))))); (try simp only [Rg4.nrm])) | (refine Rg4.w4_skip (Rg4.uw rfl rfl rfl) ?_; (try simp only [Rg4.nrm])) | (refine Rg4.w4_skip (Rg4.un rfl rfl rfl) ?_; (try simp only [Rg4.nrm])))
                first | refine Rg4.w4_skip (Rg4.uw rfl rfl rfl) ?_ | refine Rg4.w4_skip (Rg4.un rfl rfl rfl) ?_
                (try simp only [Rg4.nrm])
                iterate 2 (first | (refine Rg4.w4_any (Rg4.wt rfl rfl rfl) rfl ?_; apply Exists.intro; refine ⟨fun w' => ?_, ?_⟩; (focus (first | (go_simp; done) | (go_simp; first | rfl | (rw [if_neg] <;> first | rfl | omega) | (rw [if_pos] <;> first | rfl | omega)))); (try simp only [Rg4.nrm])) | (refine Rg4.w4_skip (Rg4.uw rfl rfl rfl) ?_; (try simp only [Rg4.nrm])) | (refine Rg4.w4_skip (Rg4.un rfl rfl rfl) ?_; (try simp only [Rg4.nrm])))
                iterate 2 (refine Rg4.w4_any (Rg4.want_none rfl) rfl ?_; apply Exists.intro; refine ⟨fun w' => ?_, ?_⟩; (focus (first | (go_simp; done) | (go_simp; first | rfl | (rw [if_neg] <;> first | rfl | omega) | (rw [if_pos] <;> first | rfl | omega)))); (try simp only [Rg4.nrm]))
                iterate 3 (first | (refine Rg4.w4_any (Rg4.wt rfl rfl rfl) rfl ?_; apply Exists.intro; refine ⟨fun w' => ?_, ?_⟩; (focus (first | (go_simp; done) | (go_simp; first | rfl | (rw [if_neg] <;> first | rfl | omega) | (rw [if_pos] <;> first | rfl | omega)))); (try simp only [Rg4.nrm])) | (refine Rg4.w4_skip (Rg4.uw rfl rfl rfl) ?_; (try simp only [Rg4.nrm])) | (refine Rg4.w4_skip (Rg4.un rfl rfl rfl) ?_; (try simp only [Rg4.nrm])))
                iterate 2 (first | (refine Rg4.w4_read (Rg4.wt rfl rfl rfl) rfl rfl ?_; apply Exists.intro; refine ⟨fun w' hw' hcl' => ?_, ?_⟩; focus (have st' := st.ext hw'; have hc' := st'.facts; (try simp only [nfl, nft, Nat.reduceAdd] at hc'); (focus (first | (go_simp; done) | (go_simp; first | rfl | (rw [if_neg] <;> first | rfl | omega) | (rw [if_pos] <;> first | rfl | omega))))); (try simp only [Rg4.nrm])) | (refine Rg4.w4_skip (Rg4.uw rfl rfl rfl) ?_; (try simp only [Rg4.nrm])) | (refine Rg4.w4_skip (Rg4.un rfl rfl rfl) ?_; (try simp only [Rg4.nrm])))
                refine Rg4.w4_some (Rg4.want_of 21 35 false rfl rfl rfl) rfl (fun w' hw' hcl' _ => ?_) ?_
                · refine Rg.relAt_call (by go_simp; exact ⟨rfl, rfl⟩) ?_
                  refine (HLB.out _ HBR.out).mono ?_
                  rintro en w'' ⟨rfl, hx⟩
                  exact ⟨_, by rw [HQB.out], hx, trivial, rfl⟩
                rintro v ⟨_, _, _, rfl⟩
                (try simp only [Rg4.nrm])
                iterate 2 (first | (refine Rg4.w4_any (Rg4.wt rfl rfl rfl) rfl ?_; apply Exists.intro; refine ⟨fun w' => ?_, ?_⟩; (focus (first | (go_simp; done) | (go_simp; first | rfl | (rw [if_neg] <;> first | rfl | omega) | (rw [if_pos] <;> first | rfl | omega)))); (try simp only [Rg4.nrm])) | (refine Rg4.w4_skip (Rg4.uw rfl rfl rfl) ?_; (try simp only [Rg4.nrm])) | (refine Rg4.w4_skip (Rg4.un rfl rfl rfl) ?_; (try simp only [Rg4.nrm])))
                (refine Rg4.w4_any (Rg4.want_none rfl) rfl ?_; apply Exists.intro; refine ⟨fun w' => ?_, ?_⟩; (focus (first | (go_simp; done) | (go_simp; first | rfl | (rw [if_neg] <;> first | rfl | omega) | (rw [if_pos] <;> first | rfl | omega)))); (try simp only [Rg4.nrm]))
                refine Rg4.w4_nil (fun w' hw' hcl' _ => ?_); replace st := st.ext hw'; clear hw' hcl'; (try clear hc); have hc := st.facts; (try simp only [nfl, nft, Nat.reduceAdd] at hc)
                have HB : Hid (pickMin credLt (cnd credLt credR []) (l.take (j + 1)) = some x) := Lib.hid (by rw [HX.out]; simp [cnd, HR.out.1.1, HP.out, okC_t, HLT.out])
                go_wp2_with ((((with_reducible refine wl_store ?_ (fun K hK => ?_)); rfl; refine owp_store rfl st ?_; apply Exists.intro; apply Exists.intro; refine ⟨?_, ?_, ?_⟩; (focus (go_simp; try rfl)); (focus (go_simp; try rfl)); (with_reducible refine ⟨2, _, _, _, _, get2, rfl, rfl, ?_, ?_, ?_, ?_⟩); (kernel_rfl); (simp [Value.cells]); (rfl); (clear st; intro w st))); (try simp only [nsl, Value.cells, unB] at st); (try clear hc); have hc := st.facts; (try simp only [nfl, nft, Nat.reduceAdd] at hc))
                have st' := st.keep [0, 1, 2] (by decide) (by simp)
                go_roundg (n - (j + 1))
                case measure => omega
                case rel => exact ⟨j + 1, true, x, by omega, by omega, by first | rfl | trivial | go_num, rfl, Lib.hid (by rw [HB.out]; rfl), by simpa [pick] using st'⟩
              | false =>
                have HLT := Lib.hid hlt
                have hqb := credCmp_dec x best
                rw [hlt] at hqb
                obtain ⟨qb, hq⟩ : ∃ q, credCmp x best = q := ⟨_, rfl⟩
                rw [hq] at hqb
                have HQB := Lib.hid hq
                have HBR : Hid (credR best = true) := Lib.hid (cnd_P (pickMin_cand _ _ best (HP.out.trans (okC_t best))))
                clear hlt hq
                refine Rg4.wp_region4 (Rel := Ext) #[0, 1, 3, 7, 15, 31, 63, 127, 127, 383, 895, 2047, 4095, 127, 16383, 32767, 65535, 131071, 262143, 524287, 1048575, 2097151, 4194303, 4194303, 16777215, 33554431, 67108863, 134217727]
                  [(1, .val (.bool true)), (14, .val (.int .i64 0)), (24, .val (.int .i64 qb))] [] [0, 12, 13, 22, 23] (fun _ => True) [0, 1, 2, 3, 4, 5, 6, 7, 8, 9, 10, 11, 12, 13, 14, 15, 16, 17, 18, 19, 20, 21, 22, 23, 24, 25, 26, 27] (by kernel_rfl) (by kernel_rfl) (by kernel_rfl) (by kernel_rfl) Ext.refl (fun _ _ _ => Ext.trans) (show Rg4.PB _ by repeat (first | with_reducible exact Rg4.pb_body | with_reducible exact Rg4.pb_bodyD rfl | with_reducible refine Rg4.pb_then ?_ | with_reducible refine Rg4.pb_inBlock ?_ | with_reducible refine Rg4.pb_noGoto ?_ | with_reducible assumption)) (trivial) ?_
                replace st := st.drew
                change Rg4.wp4 _ _ _ _ _ _ _ _ _ (World.drew _) _ _
                generalize World.drew _ = w at st ⊢
                (try clear hc); have hc := st.facts; (try simp only [nfl, nft, Nat.reduceAdd] at hc)
                (refine Rg4.w4_read (Rg4.want_none rfl) rfl rfl ?_; apply Exists.intro; refine ⟨fun w' hw' hcl' => ?_, ?_⟩; focus (have st' := st.ext hw'; have hc' := st'.facts; (try simp only [nfl, nft, Nat.reduceAdd] at hc'); (focus (first | (go_simp; done) | (go_simp; first | rfl | (rw [if_neg] <;> first | rfl | omega) | (rw [if_pos] <;> first | rfl | omega))))); (try simp only [Rg4.nrm]))
                refine Rg4.w4_some (Rg4.want_none rfl) rfl (fun w' hw' hcl' _ => ?_) ?_
                · refine Rg.relAt_call (by go_simp; exact ⟨rfl, rfl⟩) ?_
                  refine (HR.out.2 _).mono ?_
                  rintro en w'' ⟨rfl, hx⟩
                  exact ⟨_, by rw [HR.out.1.1], hx, trivial, rfl⟩
                rintro v ⟨_, _, _, rfl⟩
                (try simp only [Rg4.nrm])
                (refine Rg4.w4_any (Rg4.want_none rfl) rfl ?_; apply Exists.intro; refine ⟨fun w' => ?_, ?_⟩; (focus (first | (go_simp; done) | (go_simp; first | rfl | (rw [if_neg] <;> first | rfl | omega) | (rw [if_pos] <;> first | rfl | omega)))); (try simp only [Rg4.nrm]))
                iterate 9 (first | (refine Rg4.w4_any (Rg4.wt rfl rfl rfl) rfl ?_; apply Exists.intro; refine ⟨fun w' => ?_, ?_⟩; (focus (first | (go_simp; done) | (go_simp; first | rfl | (rw [if_neg] <;> first | rfl | omega) | (rw [if_pos] <;> first | rfl | omega)))); (try simp only [Rg4.nrm])) | (refine Rg4.w4_skip (Rg4.uw rfl rfl rfl) ?_; (try simp only [Rg4.nrm])) | (refine Rg4.w4_skip (Rg4.un rfl rfl rfl) ?_; (try simp only [Rg4.nrm])))
                iterate 2 (first | (refine Rg4.w4_read (Rg4.wt rfl rfl rfl) rfl rfl ?_; apply Exists.intro; refine ⟨fun w' hw' hcl' => ?_, ?_⟩; focus (have st' := st.ext hw'; have hc' := st'.facts; (try simp only [nfl, nft, Nat.reduceAdd] at hc'); (focus (first | (go_simp; done) | (go_simp; first | rfl | (rw [if_neg] <;> first | rfl | omega) | (rw [if_pos] <;> first | rfl | omega))))); (try simp only [Rg4.nrm])) | (refine Rg4.w4_skip (Rg4.uw rfl rfl rfl) ?_; (try simp only [Rg4.nrm])) | (refine Rg4.w4_skip (Rg4.un rfl rfl rfl) ?_; (try simp only [Rg4.nrm])))
                first | refine Rg4.w4_skip (Rg4.uw rfl rfl rfl) ?_ | refine Rg4.w4_skip (Rg4.un rfl rfl rfl) ?_
                (try simp only [Rg4.nrm])
                iterate 2 (first | (refine Rg4.w4_any (Rg4.wt rfl rfl rfl) rfl ?_; apply Exists.intro; refine ⟨fun w' => ?_, ?_⟩; (focus (first | (go_simp; done) | (go_simp; first | rfl | (rw [if_neg] <;> first | rfl | omega) | (rw [if_pos] <;> first | rfl | omega)))); (try simp only [Rg4.nrm])) | (refine Rg4.w4_skip (Rg4.uw rfl rfl rfl) ?_; (try simp only [Rg4.nrm])) | (refine Rg4.w4_skip (Rg4.un rfl rfl rfl) ?_; (try simp only [Rg4.nrm])))
                iterate 2 (refine Rg4.w4_any (Rg4.want_none rfl) rfl ?_; apply Exists.intro; refine ⟨fun w' => ?_, ?_⟩; (focus (first | (go_simp; done) | (go_simp; first | rfl | (rw [if_neg] <;> first | rfl | omega) | (rw [if_pos] <;> first | rfl | omega)))); (try simp only [Rg4.nrm]))
                iterate 3 (first | (refine Rg4.w4_any (Rg4.wt rfl rfl rfl) rfl ?_; apply Exists.intro; refine ⟨fun w' => ?_, ?_⟩; (focus (first | (go_simp; done) | (go_simp; first | rfl | (rw [if_neg] <;> first | rfl | omega) | (rw [if_pos] <;> first | rfl | omega)))); (try simp only [Rg4.nrm])) | (refine Rg4.w4_skip (Rg4.uw rfl rfl rfl) ?_; (try simp only [Rg4.nrm])) | (refine Rg4.w4_skip (Rg4.un rfl rfl rfl) ?_; (try simp only [Rg4.nrm])))
                iterate 2 (first | (refine Rg4.w4_read (Rg4.wt rfl rfl rfl) rfl rfl ?_; apply Exists.intro; refine ⟨fun w' hw' hcl' => ?_, ?_⟩; focus (have st' := st.ext hw'; have hc' := st'.facts; (try simp only [nfl, nft, Nat.reduceAdd] at hc'); (focus (first | (go_simp; done) | (go_simp; first | rfl | (rw [if_neg] <;> first | rfl | omega) | (rw [if_pos] <;> first | rfl | omega))))); (try simp only [Rg4.nrm])) | (refine Rg4.w4_skip (Rg4.uw rfl rfl rfl) ?_; (try simp only [Rg4.nrm])) | (refine Rg4.w4_skip (Rg4.un rfl rfl rfl) ?_; (try simp only [Rg4.nrm])))
                refine Rg4.w4_some (Rg4.want_of 21 35 false rfl rfl rfl) rfl (fun w' hw' hcl' _ => ?_) ?_
                · refine Rg.relAt_call (by go_simp; exact ⟨rfl, rfl⟩) ?_
                  refine (HLB.out _ HBR.out).mono ?_
                  rintro en w'' ⟨rfl, hx⟩
                  exact ⟨_, by rw [HQB.out], hx, trivial, rfl⟩
                rintro v ⟨_, _, _, rfl⟩
                (try simp only [Rg4.nrm])
                iterate 2 (first | (refine Rg4.w4_any (Rg4.wt rfl rfl rfl) rfl ?_; apply Exists.intro; refine ⟨fun w' => ?_, ?_⟩; (focus (first | (go_simp; done) | (go_simp; first | rfl | (rw [if_neg] <;> first | rfl | omega) | (rw [if_pos] <;> first | rfl | omega)))); (try simp only [Rg4.nrm])) | (refine Rg4.w4_skip (Rg4.uw rfl rfl rfl) ?_; (try simp only [Rg4.nrm])) | (refine Rg4.w4_skip (Rg4.un rfl rfl rfl) ?_; (try simp only [Rg4.nrm])))
                (refine Rg4.w4_any (Rg4.want_none rfl) rfl ?_; apply Exists.intro; refine ⟨fun w' => ?_, ?_⟩; (focus (first | (go_simp; done) | (go_simp; first | rfl | (rw [if_neg] <;> first | rfl | omega) | (rw [if_pos] <;> first | rfl | omega)))); (try simp only [Rg4.nrm]))
                refine Rg4.w4_nil (fun w' hw' hcl' _ => ?_); replace st := st.ext hw'; clear hw' hcl'; (try clear hc); have hc := st.facts; (try simp only [nfl, nft, Nat.reduceAdd] at hc)
                have HB : Hid (pickMin credLt (cnd credLt credR []) (l.take (j + 1)) = pickMin credLt (cnd credLt credR []) (l.take j)) := Lib.hid (by rw [HX.out]; simp [cnd, HR.out.1.1, HP.out, okC_t, HLT.out])
                go_wp2_with fail
                have st' := st.keep [0, 1, 2] (by decide) (by simp)
                go_roundg (n - (j + 1))
                case measure => omega
                case rel => exact ⟨j + 1, true, best, by omega, by omega, by first | rfl | trivial | go_num, rfl, Lib.hid (by rw [HB.out]; exact HP.out), by simpa [pick] using st'⟩
          · rw [List.concat_eq_append] at ho
            have hmq : m = pre.length + 1 := by have := HG.out.2.2; rw [ho] at this; simpa using this
            have hlast : out.getLast? = some z := by rw [ho]; simp
            have hoz : out[pre.length]? = some z := by rw [ho]; simp
            have hrz := cred_get hoz
            have hzr : credR z = true := (HG.out.1.2.1 z (List.mem_of_getLast? hlast)).2
            have hlz := fun W => refCredCompare_any z x W (credR_len hzr) HR.out.1.2
            clear ho hoz
            generalize pre.length = q at *
            have hw : IntKind.i64.wrap ((m : Int) - 1) = (q : Int) := by rw [IntWalk.i64_in _ ⟨by omega, by omega⟩]; omega
            have hb0 : ((m : Int) == 0) = false := by simp; omega
            have hqm : q < m := by omega
            obtain ⟨g, cap, hv, hcap, _⟩ := st.rowAt (i := 1) get1 (by omega)
            injection hv with hv1 hv2 hv3
            subst hv1 hv3
            clear hmq
            unfold S at hrz
            unfold cV S at hlz
            have HRZ := Lib.hid hrz
            have HLZ := Lib.hid hlz
            have HLA := Lib.hid hlast
            clear hrz hlz hlast hcap
            cases hzx : credLt z x with
            | false =>
              have HZ := Lib.hid hzx
              have hqz := credCmp_dec z x
              rw [hzx] at hqz
              obtain ⟨qz, hq⟩ : ∃ q, credCmp z x = q := ⟨_, rfl⟩
              rw [hq] at hqz
              have HQZ := Lib.hid hq
              clear hzx hq
              refine Rg4.wp_region4 (Rel := Ext) #[0, 1, 3, 7, 15, 31, 63, 127, 127, 383, 895, 2047, 4095, 127, 16383, 32767, 65535, 131071, 262143, 524287, 1048575, 2097151, 4194303, 4194303, 16777215, 33554431, 67108863, 134217727]
                [(1, .val (.bool true)), (14, .val (.int .i64 qz)), (24, .val (.int .i64 0))] [] [0, 12, 13, 22, 23] (fun _ => True) [0, 1, 2, 3, 4, 5, 6, 7, 8, 9, 10, 11, 12, 13, 14, 15, 16, 17, 18, 19, 20, 21, 22, 23, 24, 25, 26, 27] (by kernel_rfl) (by kernel_rfl) (by kernel_rfl) (by kernel_rfl) Ext.refl (fun _ _ _ => Ext.trans) (show Rg4.PB _ by repeat (first | with_reducible exact Rg4.pb_body | with_reducible exact Rg4.pb_bodyD rfl | with_reducible refine Rg4.pb_then ?_ | with_reducible refine Rg4.pb_inBlock ?_ | with_reducible refine Rg4.pb_noGoto ?_ | with_reducible assumption)) (trivial) ?_
              replace st := st.drew
              change Rg4.wp4 _ _ _ _ _ _ _ _ _ (World.drew _) _ _
              generalize World.drew _ = w at st ⊢
              (try clear hc); have hc := st.facts; (try simp only [nfl, nft, Nat.reduceAdd] at hc)
              (refine Rg4.w4_read (Rg4.want_none rfl) rfl rfl ?_; apply Exists.intro; refine ⟨fun w' hw' hcl' => ?_, ?_⟩; focus (have st' := st.ext hw'; have hc' := st'.facts; (try simp only [nfl, nft, Nat.reduceAdd] at hc'); have r0 := st'.rowC (i := 1) get1 _ _ HRZ.out.1; have r1 := st'.rowC (i := 1) get1 _ _ HRZ.out.2.1; have r2 := st'.rowC (i := 1) get1 _ _ HRZ.out.2.2.1; have r3 := st'.rowC (i := 1) get1 _ _ HRZ.out.2.2.2.1; have r4 := st'.rowC (i := 1) get1 _ _ HRZ.out.2.2.2.2.1; have r5 := st'.rowC (i := 1) get1 _ _ HRZ.out.2.2.2.2.2.1; have r6 := st'.rowC (i := 1) get1 _ _ HRZ.out.2.2.2.2.2.2.1; have r7 := st'.rowC (i := 1) get1 _ _ HRZ.out.2.2.2.2.2.2.2.1; have r8 := st'.rowC (i := 1) get1 _ _ HRZ.out.2.2.2.2.2.2.2.2; (focus (first | (go_simp; done) | (go_simp; first | rfl | (rw [if_neg] <;> first | rfl | omega) | (rw [if_pos] <;> first | rfl | omega))))); (try simp only [Rg4.nrm]))
              refine Rg4.w4_some (Rg4.want_none rfl) rfl (fun w' hw' hcl' _ => ?_) ?_
              · refine Rg.relAt_call (by go_simp; exact ⟨rfl, rfl⟩) ?_
                refine (HR.out.2 _).mono ?_
                rintro en w'' ⟨rfl, hx⟩
                exact ⟨_, by rw [HR.out.1.1], hx, trivial, rfl⟩
              rintro v ⟨_, _, _, rfl⟩
              (try simp only [Rg4.nrm])
              (refine Rg4.w4_any (Rg4.want_none rfl) rfl ?_; apply Exists.intro; refine ⟨fun w' => ?_, ?_⟩; (focus (first | (go_simp; done) | (go_simp; first | rfl | (rw [if_neg] <;> first | rfl | omega) | (rw [if_pos] <;> first | rfl | omega)))); (try simp only [Rg4.nrm]))
              iterate 9 (first | (refine Rg4.w4_any (Rg4.wt rfl rfl rfl) rfl ?_; apply Exists.intro; refine ⟨fun w' => ?_, ?_⟩; (focus (first | (go_simp; done) | (go_simp; first | rfl | (rw [if_neg] <;> first | rfl | omega) | (rw [if_pos] <;> first | rfl | omega)))); (try simp only [Rg4.nrm])) | (refine Rg4.w4_skip (Rg4.uw rfl rfl rfl) ?_; (try simp only [Rg4.nrm])) | (refine Rg4.w4_skip (Rg4.un rfl rfl rfl) ?_; (try simp only [Rg4.nrm])))
              iterate 2 (first | (refine Rg4.w4_read (Rg4.wt rfl rfl rfl) rfl rfl ?_; apply Exists.intro; refine ⟨fun w' hw' hcl' => ?_, ?_⟩; focus (have st' := st.ext hw'; have hc' := st'.facts; (try simp only [nfl, nft, Nat.reduceAdd] at hc'); have r0 := st'.rowC (i := 1) get1 _ _ HRZ.out.1; have r1 := st'.rowC (i := 1) get1 _ _ HRZ.out.2.1; have r2 := st'.rowC (i := 1) get1 _ _ HRZ.out.2.2.1; have r3 := st'.rowC (i := 1) get1 _ _ HRZ.out.2.2.2.1; have r4 := st'.rowC (i := 1) get1 _ _ HRZ.out.2.2.2.2.1; have r5 := st'.rowC (i := 1) get1 _ _ HRZ.out.2.2.2.2.2.1; have r6 := st'.rowC (i := 1) get1 _ _ HRZ.out.2.2.2.2.2.2.1; have r7 := st'.rowC (i := 1) get1 _ _ HRZ.out.2.2.2.2.2.2.2.1; have r8 := st'.rowC (i := 1) get1 _ _ HRZ.out.2.2.2.2.2.2.2.2; (focus (first | (go_simp; done) | (go_simp; first | rfl | (rw [if_neg] <;> first | rfl | omega) | (rw [if_pos] <;> first | rfl | omega))))); (try simp only [Rg4.nrm])) | (refine Rg4.w4_skip (Rg4.uw rfl rfl rfl) ?_; (try simp only [Rg4.nrm])) | (refine Rg4.w4_skip (Rg4.un rfl rfl rfl) ?_; (try simp only [Rg4.nrm])))
              refine Rg4.w4_some (Rg4.want_of 6 20 false rfl rfl rfl) rfl (fun w' hw' hcl' _ => ?_) ?_
              · refine Rg.relAt_call (by go_simp; exact ⟨rfl, rfl⟩) ?_
                refine (HLZ.out _).mono ?_
                rintro en w'' ⟨rfl, hx⟩
                exact ⟨_, by rw [HQZ.out], hx, trivial, rfl⟩
              rintro v ⟨_, _, _, rfl⟩
              (try simp only [Rg4.nrm])
              iterate 2 (first | (refine Rg4.w4_any (Rg4.wt rfl rfl rfl) rfl ?_; apply Exists.intro; refine ⟨fun w' => ?_, ?_⟩; (focus (first | (go_simp; done) | (go_simp; first | rfl | (rw [if_neg] <;> first | rfl | omega) | (rw [if_pos] <;> first | rfl | omega)))); (try simp only [Rg4.nrm])) | (refine Rg4.w4_skip (Rg4.uw rfl rfl rfl) ?_; (try simp only [Rg4.nrm])) | (refine Rg4.w4_skip (Rg4.un rfl rfl rfl) ?_; (try simp only [Rg4.nrm])))
              iterate 2 (refine Rg4.w4_any (Rg4.want_none rfl) rfl ?_; apply Exists.intro; refine ⟨fun w' => ?_, ?_⟩; (focus (first | (go_simp; done) | (go_simp; first | rfl | (rw [if_neg] <;> first | rfl | omega) | (rw [if_pos] <;> first | rfl | omega)))); (try simp only [Rg4.nrm]))
              iterate 3 (first | (refine Rg4.w4_any (Rg4.wt rfl rfl rfl) rfl ?_; apply Exists.intro; refine ⟨fun w' => ?_, ?_⟩; (focus (first | (go_simp; done) | (go_simp; first | rfl | (rw [if_neg] <;> first | rfl | omega) | (rw [if_pos] <;> first | rfl | omega)))); (try simp only [Rg4.nrm])) | (refine Rg4.w4_skip (Rg4.uw rfl rfl rfl) ?_; (try simp only [Rg4.nrm])) | (refine Rg4.w4_skip (Rg4.un rfl rfl rfl) ?_; (try simp only [Rg4.nrm])))
              iterate 2 (first | (refine Rg4.w4_read (Rg4.wt rfl rfl rfl) rfl rfl ?_; apply Exists.intro; refine ⟨fun w' hw' hcl' => ?_, ?_⟩; focus (have st' := st.ext hw'; have hc' := st'.facts; (try simp only [nfl, nft, Nat.reduceAdd] at hc'); have r0 := st'.rowC (i := 1) get1 _ _ HRZ.out.1; have r1 := st'.rowC (i := 1) get1 _ _ HRZ.out.2.1; have r2 := st'.rowC (i := 1) get1 _ _ HRZ.out.2.2.1; have r3 := st'.rowC (i := 1) get1 _ _ HRZ.out.2.2.2.1; have r4 := st'.rowC (i := 1) get1 _ _ HRZ.out.2.2.2.2.1; have r5 := st'.rowC (i := 1) get1 _ _ HRZ.out.2.2.2.2.2.1; have r6 := st'.rowC (i := 1) get1 _ _ HRZ.out.2.2.2.2.2.2.1; have r7 := st'.rowC (i := 1) get1 _ _ HRZ.out.2.2.2.2.2.2.2.1; have r8 := st'.rowC (i := 1) get1 _ _ HRZ.out.2.2.2.2.2.2.2.2; (focus (first | (go_simp; done) | (go_simp; first | rfl | (rw [if_neg] <;> first | rfl | omega) | (rw [if_pos] <;> first | rfl | omega))))); (try simp only [Rg4.nrm])) | (refine Rg4.w4_skip (Rg4.uw rfl rfl rfl) ?_; (try simp only [Rg4.nrm])) | (refine Rg4.w4_skip (Rg4.un rfl rfl rfl) ?_; (try simp only [Rg4.nrm])))
              first | refine Rg4.w4_skip (Rg4.uw rfl rfl rfl) ?_ | refine Rg4.w4_skip (Rg4.un rfl rfl rfl) ?_
              (try simp only [Rg4.nrm])
              iterate 2 (first | (refine Rg4.w4_any (Rg4.wt rfl rfl rfl) rfl ?_; apply Exists.intro; refine ⟨fun w' => ?_, ?_⟩; (focus (first | (go_simp; done) | (go_simp; first | rfl | (rw [if_neg] <;> first | rfl | omega) | (rw [if_pos] <;> first | rfl | omega)))); (try simp only [Rg4.nrm])) | (refine Rg4.w4_skip (Rg4.uw rfl rfl rfl) ?_; (try simp only [Rg4.nrm])) | (refine Rg4.w4_skip (Rg4.un rfl rfl rfl) ?_; (try simp only [Rg4.nrm])))
              (refine Rg4.w4_any (Rg4.want_none rfl) rfl ?_; apply Exists.intro; refine ⟨fun w' => ?_, ?_⟩; (focus (first | (go_simp; done) | (go_simp; first | rfl | (rw [if_neg] <;> first | rfl | omega) | (rw [if_pos] <;> first | rfl | omega)))); (try simp only [Rg4.nrm]))
              refine Rg4.w4_nil (fun w' hw' hcl' _ => ?_); replace st := st.ext hw'; clear hw' hcl'; (try clear hc); have hc := st.facts; (try simp only [nfl, nft, Nat.reduceAdd] at hc)
              have HB : Hid (pickMin credLt (cnd credLt credR out) (l.take (j + 1)) = pickMin credLt (cnd credLt credR out) (l.take j)) := Lib.hid (by rw [HX.out]; simp [cnd, HLA.out, HZ.out])
              go_wp2_with fail
              have st' := st.keep [0, 1, 2] (by decide) (by simp)
              go_roundg (n - (j + 1))
              case measure => omega
              case rel => exact ⟨j + 1, ok, best, by omega, by omega, by first | rfl | trivial | go_num, rfl, Lib.hid (by rw [HB.out]; exact HP.out), by simpa [pick] using st'⟩
            | true =>
              have HZ := Lib.hid hzx
              have hqz := credCmp_dec z x
              rw [hzx] at hqz
              obtain ⟨qz, hq⟩ : ∃ q, credCmp z x = q := ⟨_, rfl⟩
              rw [hq] at hqz
              have HQZ := Lib.hid hq
              clear hzx hq
              cases ok with
              | false =>
                refine Rg4.wp_region4 (Rel := Ext) #[0, 1, 3, 7, 15, 31, 63, 127, 127, 383, 895, 2047, 4095, 127, 16383, 32767, 65535, 131071, 262143, 524287, 1048575, 2097151, 4194303, 4194303, 16777215, 33554431, 67108863, 134217727]
                  [(1, .val (.bool true)), (14, .val (.int .i64 qz)), (24, .val (.int .i64 0))] [] [0, 12, 13, 22, 23] (fun _ => True) [0, 1, 2, 3, 4, 5, 6, 7, 8, 9, 10, 11, 12, 13, 14, 15, 16, 17, 18, 19, 20, 21, 22, 23, 24, 25, 26, 27] (by kernel_rfl) (by kernel_rfl) (by kernel_rfl) (by kernel_rfl) Ext.refl (fun _ _ _ => Ext.trans) (show Rg4.PB _ by repeat (first | with_reducible exact Rg4.pb_body | with_reducible exact Rg4.pb_bodyD rfl | with_reducible refine Rg4.pb_then ?_ | with_reducible refine Rg4.pb_inBlock ?_ | with_reducible refine Rg4.pb_noGoto ?_ | with_reducible assumption)) (trivial) ?_
                replace st := st.drew
                change Rg4.wp4 _ _ _ _ _ _ _ _ _ (World.drew _) _ _
                generalize World.drew _ = w at st ⊢
                (try clear hc); have hc := st.facts; (try simp only [nfl, nft, Nat.reduceAdd] at hc)
                (refine Rg4.w4_read (Rg4.want_none rfl) rfl rfl ?_; apply Exists.intro; refine ⟨fun w' hw' hcl' => ?_, ?_⟩; focus (have st' := st.ext hw'; have hc' := st'.facts; (try simp only [nfl, nft, Nat.reduceAdd] at hc'); have r0 := st'.rowC (i := 1) get1 _ _ HRZ.out.1; have r1 := st'.rowC (i := 1) get1 _ _ HRZ.out.2.1; have r2 := st'.rowC (i := 1) get1 _ _ HRZ.out.2.2.1; have r3 := st'.rowC (i := 1) get1 _ _ HRZ.out.2.2.2.1; have r4 := st'.rowC (i := 1) get1 _ _ HRZ.out.2.2.2.2.1; have r5 := st'.rowC (i := 1) get1 _ _ HRZ.out.2.2.2.2.2.1; have r6 := st'.rowC (i := 1) get1 _ _ HRZ.out.2.2.2.2.2.2.1; have r7 := st'.rowC (i := 1) get1 _ _ HRZ.out.2.2.2.2.2.2.2.1; have r8 := st'.rowC (i := 1) get1 _ _ HRZ.out.2.2.2.2.2.2.2.2; (focus (first | (go_simp; done) | (go_simp; first | rfl | (rw [if_neg] <;> first | rfl | omega) | (rw [if_pos] <;> first | rfl | omega))))); (try simp only [Rg4.nrm]))
                refine Rg4.w4_some (Rg4.want_none rfl) rfl (fun w' hw' hcl' _ => ?_) ?_
                · refine Rg.relAt_call (by go_simp; exact ⟨rfl, rfl⟩) ?_
                  refine (HR.out.2 _).mono ?_
                  rintro en w'' ⟨rfl, hx⟩
                  exact ⟨_, by rw [HR.out.1.1], hx, trivial, rfl⟩
                rintro v ⟨_, _, _, rfl⟩
                (try simp only [Rg4.nrm])
                (refine Rg4.w4_any (Rg4.want_none rfl) rfl ?_; apply Exists.intro; refine ⟨fun w' => ?_, ?_⟩; (focus (first | (go_simp; done) | (go_simp; first | rfl | (rw [if_neg] <;> first | rfl | omega) | (rw [if_pos] <;> first | rfl | omega)))); (try simp only [Rg4.nrm]))
                iterate 9 (first | (refine Rg4.w4_any (Rg4.wt rfl rfl rfl) rfl ?_; apply Exists.intro; refine ⟨fun w' => ?_, ?_⟩; (focus (first | (go_simp; done) | (go_simp; first | rfl | (rw [if_neg] <;> first | rfl | omega) | (rw [if_pos] <;> first | rfl | omega)))); (try simp only [Rg4.nrm])) | (refine Rg4.w4_skip (Rg4.uw rfl rfl rfl) ?_; (try simp only [Rg4.nrm])) | (refine Rg4.w4_skip (Rg4.un rfl rfl rfl) ?_; (try simp only [Rg4.nrm])))
                iterate 2 (first | (refine Rg4.w4_read (Rg4.wt rfl rfl rfl) rfl rfl ?_; apply Exists.intro; refine ⟨fun w' hw' hcl' => ?_, ?_⟩; focus (have st' := st.ext hw'; have hc' := st'.facts; (try simp only [nfl, nft, Nat.reduceAdd] at hc'); have r0 := st'.rowC (i := 1) get1 _ _ HRZ.out.1; have r1 := st'.rowC (i := 1) get1 _ _ HRZ.out.2.1; have r2 := st'.rowC (i := 1) get1 _ _ HRZ.out.2.2.1; have r3 := st'.rowC (i := 1) get1 _ _ HRZ.out.2.2.2.1; have r4 := st'.rowC (i := 1) get1 _ _ HRZ.out.2.2.2.2.1; have r5 := st'.rowC (i := 1) get1 _ _ HRZ.out.2.2.2.2.2.1; have r6 := st'.rowC (i := 1) get1 _ _ HRZ.out.2.2.2.2.2.2.1; have r7 := st'.rowC (i := 1) get1 _ _ HRZ.out.2.2.2.2.2.2.2.1; have r8 := st'.rowC (i := 1) get1 _ _ HRZ.out.2.2.2.2.2.2.2.2; (focus (first | (go_simp; done) | (go_simp; first | rfl | (rw [if_neg] <;> first | rfl | omega) | (rw [if_pos] <;> first | rfl | omega))))); (try simp only [Rg4.nrm])) | (refine Rg4.w4_skip (Rg4.uw rfl rfl rfl) ?_; (try simp only [Rg4.nrm])) | (refine Rg4.w4_skip (Rg4.un rfl rfl rfl) ?_; (try simp only [Rg4.nrm])))
                refine Rg4.w4_some (Rg4.want_of 6 20 false rfl rfl rfl) rfl (fun w' hw' hcl' _ => ?_) ?_
                · refine Rg.relAt_call (by go_simp; exact ⟨rfl, rfl⟩) ?_
                  refine (HLZ.out _).mono ?_
                  rintro en w'' ⟨rfl, hx⟩
                  exact ⟨_, by rw [HQZ.out], hx, trivial, rfl⟩
                rintro v ⟨_, _, _, rfl⟩
                (try simp only [Rg4.nrm])
                iterate 2 (first | (refine Rg4.w4_any (Rg4.wt rfl rfl rfl) rfl ?_; apply Exists.intro; refine ⟨fun w' => ?_, ?_⟩; (focus (first | (go_simp; done) | (go_simp; first | rfl | (rw [if_neg] <;> first | rfl | omega) | (rw [if_pos] <;> first | rfl | omega)))); (try simp only [Rg4.nrm])) | (refine Rg4.w4_skip (Rg4.uw rfl rfl rfl) ?_; (try simp only [Rg4.nrm])) | (refine Rg4.w4_skip (Rg4.un rfl rfl rfl) ?_; (try simp only [Rg4.nrm])))
                iterate 2 (refine Rg4.w4_any (Rg4.want_none rfl) rfl ?_; apply Exists.intro; refine ⟨fun w' => ?_, ?_⟩; (focus (first | (go_simp; done) | (go_simp; first | rfl | (rw [if_neg] <;> first | rfl | omega) | (rw [if_pos] <;> first | rfl | omega)))); (try simp only [Rg4.nrm]))
                iterate 3 (first | (refine Rg4.w4_any (Rg4.wt rfl rfl rfl) rfl ?_; apply Exists.intro; refine ⟨fun w' => ?_, ?_⟩; (focus (first | (go_simp; done) | (go_simp; first | rfl | (rw [if_neg] <;> first | rfl | omega) | (rw [if_pos] <;> first | rfl | omega)))); (try simp only [Rg4.nrm])) | (refine Rg4.w4_skip (Rg4.uw rfl rfl rfl) ?_; (try simp only [Rg4.nrm])) | (refine Rg4.w4_skip (Rg4.un rfl rfl rfl) ?_; (try simp only [Rg4.nrm])))
                iterate 2 (first | (refine Rg4.w4_read (Rg4.wt rfl rfl rfl) rfl rfl ?_; apply Exists.intro; refine ⟨fun w' hw' hcl' => ?_, ?_⟩; focus (have st' := st.ext hw'; have hc' := st'.facts; (try simp only [nfl, nft, Nat.reduceAdd] at hc'); have r0 := st'.rowC (i := 1) get1 _ _ HRZ.out.1; have r1 := st'.rowC (i := 1) get1 _ _ HRZ.out.2.1; have r2 := st'.rowC (i := 1) get1 _ _ HRZ.out.2.2.1; have r3 := st'.rowC (i := 1) get1 _ _ HRZ.out.2.2.2.1; have r4 := st'.rowC (i := 1) get1 _ _ HRZ.out.2.2.2.2.1; have r5 := st'.rowC (i := 1) get1 _ _ HRZ.out.2.2.2.2.2.1; have r6 := st'.rowC (i := 1) get1 _ _ HRZ.out.2.2.2.2.2.2.1; have r7 := st'.rowC (i := 1) get1 _ _ HRZ.out.2.2.2.2.2.2.2.1; have r8 := st'.rowC (i := 1) get1 _ _ HRZ.out.2.2.2.2.2.2.2.2; (focus (first | (go_simp; done) | (go_simp; first | rfl | (rw [if_neg] <;> first | rfl | omega) | (rw [if_pos] <;> first | rfl | omega))))); (try simp only [Rg4.nrm])) | (refine Rg4.w4_skip (Rg4.uw rfl rfl rfl) ?_; (try simp only [Rg4.nrm])) | (refine Rg4.w4_skip (Rg4.un rfl rfl rfl) ?_; (try simp only [Rg4.nrm])))
                first | refine Rg4.w4_skip (Rg4.uw rfl rfl rfl) ?_ | refine Rg4.w4_skip (Rg4.un rfl rfl rfl) ?_
                (try simp only [Rg4.nrm])
                iterate 2 (first | (refine Rg4.w4_any (Rg4.wt rfl rfl rfl) rfl ?_; apply Exists.intro; refine ⟨fun w' => ?_, ?_⟩; (focus (first | (go_simp; done) | (go_simp; first | rfl | (rw [if_neg] <;> first | rfl | omega) | (rw [if_pos] <;> first | rfl | omega)))); (try simp only [Rg4.nrm])) | (refine Rg4.w4_skip (Rg4.uw rfl rfl rfl) ?_; (try simp only [Rg4.nrm])) | (refine Rg4.w4_skip (Rg4.un rfl rfl rfl) ?_; (try simp only [Rg4.nrm])))
                (refine Rg4.w4_any (Rg4.want_none rfl) rfl ?_; apply Exists.intro; refine ⟨fun w' => ?_, ?_⟩; (focus (first | (go_simp; done) | (go_simp; first | rfl | (rw [if_neg] <;> first | rfl | omega) | (rw [if_pos] <;> first | rfl | omega)))); (try simp only [Rg4.nrm]))
                refine Rg4.w4_nil (fun w' hw' hcl' _ => ?_); replace st := st.ext hw'; clear hw' hcl'; (try clear hc); have hc := st.facts; (try simp only [nfl, nft, Nat.reduceAdd] at hc)
                have HB : Hid (pickMin credLt (cnd credLt credR out) (l.take (j + 1)) = some x) := Lib.hid (by rw [HX.out]; simp [cnd, HLA.out, HZ.out, HR.out.1.1, HP.out, okC_f])
                go_wp2_with ((((with_reducible refine wl_store ?_ (fun K hK => ?_)); rfl; refine owp_store rfl st ?_; apply Exists.intro; apply Exists.intro; refine ⟨?_, ?_, ?_⟩; (focus (go_simp; try rfl)); (focus (go_simp; try rfl)); (with_reducible refine ⟨2, _, _, _, _, get2, rfl, rfl, ?_, ?_, ?_, ?_⟩); (kernel_rfl); (simp [Value.cells]); (rfl); (clear st; intro w st))); (try simp only [nsl, Value.cells, unB] at st); (try clear hc); have hc := st.facts; (try simp only [nfl, nft, Nat.reduceAdd] at hc))
                have st' := st.keep [0, 1, 2] (by decide) (by simp)
                go_roundg (n - (j + 1))
                case measure => omega
                case rel => exact ⟨j + 1, true, x, by omega, by omega, by first | rfl | trivial | go_num, rfl, Lib.hid (by rw [HB.out]; rfl), by simpa [pick] using st'⟩
              | true =>
                cases hlt : credLt x best with
                | true =>
                  have HLT := Lib.hid hlt
                  have hqb := credCmp_dec x best
                  rw [hlt] at hqb
                  obtain ⟨qb, hq⟩ : ∃ q, credCmp x best = q := ⟨_, rfl⟩
                  rw [hq] at hqb
                  have HQB := Lib.hid hq
                  have HBR : Hid (credR best = true) := Lib.hid (cnd_P (pickMin_cand _ _ best (HP.out.trans (okC_t best))))
                  clear hlt hq
                  refine Rg4.wp_region4 (Rel := Ext) #[0, 1, 3, 7, 15, 31, 63, 127, 127, 383, 895, 2047, 4095, 127, 16383, 32767, 65535, 131071, 262143, 524287, 1048575, 2097151, 4194303, 4194303, 16777215, 33554431, 67108863, 134217727]
                    [(1, .val (.bool true)), (14, .val (.int .i64 qz)), (24, .val (.int .i64 qb))] [] [0, 12, 13, 22, 23] (fun _ => True) [0, 1, 2, 3, 4, 5, 6, 7, 8, 9, 10, 11, 12, 13, 14, 15, 16, 17, 18, 19, 20, 21, 22, 23, 24, 25, 26, 27] (by kernel_rfl) (by kernel_rfl) (by kernel_rfl) (by kernel_rfl) Ext.refl (fun _ _ _ => Ext.trans) (show Rg4.PB _ by repeat (first | with_reducible exact Rg4.pb_body | with_reducible exact Rg4.pb_bodyD rfl | with_reducible refine Rg4.pb_then ?_ | with_reducible refine Rg4.pb_inBlock ?_ | with_reducible refine Rg4.pb_noGoto ?_ | with_reducible assumption)) (trivial) ?_
                  replace st := st.drew
                  change Rg4.wp4 _ _ _ _ _ _ _ _ _ (World.drew _) _ _
                  generalize World.drew _ = w at st ⊢
                  (try clear hc); have hc := st.facts; (try simp only [nfl, nft, Nat.reduceAdd] at hc)
                  (refine Rg4.w4_read (Rg4.want_none rfl) rfl rfl ?_; apply Exists.intro; refine ⟨fun w' hw' hcl' => ?_, ?_⟩; focus (have st' := st.ext hw'; have hc' := st'.facts; (try simp only [nfl, nft, Nat.reduceAdd] at hc'); have r0 := st'.rowC (i := 1) get1 _ _ HRZ.out.1; have r1 := st'.rowC (i := 1) get1 _ _ HRZ.out.2.1; have r2 := st'.rowC (i := 1) get1 _ _ HRZ.out.2.2.1; have r3 := st'.rowC (i := 1) get1 _ _ HRZ.out.2.2.2.1; have r4 := st'.rowC (i := 1) get1 _ _ HRZ.out.2.2.2.2.1; have r5 := st'.rowC (i := 1) get1 _ _ HRZ.out.2.2.2.2.2.1; have r6 := st'.rowC (i := 1) get1 _ _ HRZ.out.2.2.2.2.2.2.1; have r7 := st'.rowC (i := 1) get1 _ _ HRZ.out.2.2.2.2.2.2.2.1; have r8 := st'.rowC (i := 1) get1 _ _ HRZ.out.2.2.2.2.2.2.2.2; (focus (first | (go_simp; done) | (go_simp; first | rfl | (rw [if_neg] <;> first | rfl | omega) | (rw [if_pos] <;> first | rfl | omega))))); (try simp only [Rg4.nrm]))
                  refine Rg4.w4_some (Rg4.want_none rfl) rfl (fun w' hw' hcl' _ => ?_) ?_
                  · refine Rg.relAt_call (by go_simp; exact ⟨rfl, rfl⟩) ?_
                    refine (HR.out.2 _).mono ?_
                    rintro en w'' ⟨rfl, hx⟩
                    exact ⟨_, by rw [HR.out.1.1], hx, trivial, rfl⟩
                  rintro v ⟨_, _, _, rfl⟩
                  (try simp only [Rg4.nrm])
                  (refine Rg4.w4_any (Rg4.want_none rfl) rfl ?_; apply Exists.intro; refine ⟨fun w' => ?_, ?_⟩; (focus (first | (go_simp; done) | (go_simp; first | rfl | (rw [if_neg] <;> first | rfl | omega) | (rw [if_pos] <;> first | rfl | omega)))); (try simp only [Rg4.nrm]))
                  iterate 9 (first | (refine Rg4.w4_any (Rg4.wt rfl rfl rfl) rfl ?_; apply Exists.intro; refine ⟨fun w' => ?_, ?_⟩; (focus (first | (go_simp; done) | (go_simp; first | rfl | (rw [if_neg] <;> first | rfl | omega) | (rw [if_pos] <;> first | rfl | omega)))); (try simp only [Rg4.nrm])) | (refine Rg4.w4_skip (Rg4.uw rfl rfl rfl) ?_; (try simp only [Rg4.nrm])) | (refine Rg4.w4_skip (Rg4.un rfl rfl rfl) ?_; (try simp only [Rg4.nrm])))
                  iterate 2 (first | (refine Rg4.w4_read (Rg4.wt rfl rfl rfl) rfl rfl ?_; apply Exists.intro; refine ⟨fun w' hw' hcl' => ?_, ?_⟩; focus (have st' := st.ext hw'; have hc' := st'.facts; (try simp only [nfl, nft, Nat.reduceAdd] at hc'); have r0 := st'.rowC (i := 1) get1 _ _ HRZ.out.1; have r1 := st'.rowC (i := 1) get1 _ _ HRZ.out.2.1; have r2 := st'.rowC (i := 1) get1 _ _ HRZ.out.2.2.1; have r3 := st'.rowC (i := 1) get1 _ _ HRZ.out.2.2.2.1; have r4 := st'.rowC (i := 1) get1 _ _ HRZ.out.2.2.2.2.1; have r5 := st'.rowC (i := 1) get1 _ _ HRZ.out.2.2.2.2.2.1; have r6 := st'.rowC (i := 1) get1 _ _ HRZ.out.2.2.2.2.2.2.1; have r7 := st'.rowC (i := 1) get1 _ _ HRZ.out.2.2.2.2.2.2.2.1; have r8 := st'.rowC (i := 1) get1 _ _ HRZ.out.2.2.2.2.2.2.2.2; (focus (first | (go_simp; done) | (go_simp; first | rfl | (rw [if_neg] <;> first | rfl | omega) | (rw [if_pos] <;> first | rfl | omega))))); (try simp only [Rg4.nrm])) | (refine Rg4.w4_skip (Rg4.uw rfl rfl rfl) ?_; (try simp only [Rg4.nrm])) | (refine Rg4.w4_skip (Rg4.un rfl rfl rfl) ?_; (try simp only [Rg4.nrm])))
                  refine Rg4.w4_some (Rg4.want_of 6 20 false rfl rfl rfl) rfl (fun w' hw' hcl' _ => ?_) ?_
                  · refine Rg.relAt_call (by go_simp; exact ⟨rfl, rfl⟩) ?_
                    refine (HLZ.out _).mono ?_
                    rintro en w'' ⟨rfl, hx⟩
                    exact ⟨_, by rw [HQZ.out], hx, trivial, rfl⟩
                  rintro v ⟨_, _, _, rfl⟩
                  (try simp only [Rg4.nrm])
                  iterate 2 (first | (refine Rg4.w4_any (Rg4.wt rfl rfl rfl) rfl ?_; apply Exists.intro; refine ⟨fun w' => ?_, ?_⟩; (focus (first | (go_simp; done) | (go_simp; first | rfl | (rw [if_neg] <;> first | rfl | omega) | (rw [if_pos] <;> first | rfl | omega)))); (try simp only [Rg4.nrm])) | (refine Rg4.w4_skip (Rg4.uw rfl rfl rfl) ?_; (try simp only [Rg4.nrm])) | (refine Rg4.w4_skip (Rg4.un rfl rfl rfl) ?_; (try simp only [Rg4.nrm])))
                  iterate 2 (refine Rg4.w4_any (Rg4.want_none rfl) rfl ?_; apply Exists.intro; refine ⟨fun w' => ?_, ?_⟩; (focus (first | (go_simp; done) | (go_simp; first | rfl | (rw [if_neg] <;> first | rfl | omega) | (rw [if_pos] <;> first | rfl | omega)))); (try simp only [Rg4.nrm]))
                  iterate 3 (first | (refine Rg4.w4_any (Rg4.wt rfl rfl rfl) rfl ?_; apply Exists.intro; refine ⟨fun w' => ?_, ?_⟩; (focus (first | (go_simp; done) | (go_simp; first | rfl | (rw [if_neg] <;> first | rfl | omega) | (rw [if_pos] <;> first | rfl | omega)))); (try simp only [Rg4.nrm])) | (refine Rg4.w4_skip (Rg4.uw rfl rfl rfl) ?_; (try simp only [Rg4.nrm])) | (refine Rg4.w4_skip (Rg4.un rfl rfl rfl) ?_; (try simp only [Rg4.nrm])))
                  iterate 2 (first | (refine Rg4.w4_read (Rg4.wt rfl rfl rfl) rfl rfl ?_; apply Exists.intro; refine ⟨fun w' hw' hcl' => ?_, ?_⟩; focus (have st' := st.ext hw'; have hc' := st'.facts; (try simp only [nfl, nft, Nat.reduceAdd] at hc'); have r0 := st'.rowC (i := 1) get1 _ _ HRZ.out.1; have r1 := st'.rowC (i := 1) get1 _ _ HRZ.out.2.1; have r2 := st'.rowC (i := 1) get1 _ _ HRZ.out.2.2.1; have r3 := st'.rowC (i := 1) get1 _ _ HRZ.out.2.2.2.1; have r4 := st'.rowC (i := 1) get1 _ _ HRZ.out.2.2.2.2.1; have r5 := st'.rowC (i := 1) get1 _ _ HRZ.out.2.2.2.2.2.1; have r6 := st'.rowC (i := 1) get1 _ _ HRZ.out.2.2.2.2.2.2.1; have r7 := st'.rowC (i := 1) get1 _ _ HRZ.out.2.2.2.2.2.2.2.1; have r8 := st'.rowC (i := 1) get1 _ _ HRZ.out.2.2.2.2.2.2.2.2; (focus (first | (go_simp; done) | (go_simp; first | rfl | (rw [if_neg] <;> first | rfl | omega) | (rw [if_pos] <;> first | rfl | omega))))); (try simp only [Rg4.nrm])) | (refine Rg4.w4_skip (Rg4.uw rfl rfl rfl) ?_; (try simp only [Rg4.nrm])) | (refine Rg4.w4_skip (Rg4.un rfl rfl rfl) ?_; (try simp only [Rg4.nrm])))
                  refine Rg4.w4_some (Rg4.want_of 21 35 false rfl rfl rfl) rfl (fun w' hw' hcl' _ => ?_) ?_
                  · refine Rg.relAt_call (by go_simp; exact ⟨rfl, rfl⟩) ?_
                    refine (HLB.out _ HBR.out).mono ?_
                    rintro en w'' ⟨rfl, hx⟩
                    exact ⟨_, by rw [HQB.out], hx, trivial, rfl⟩
                  rintro v ⟨_, _, _, rfl⟩
                  (try simp only [Rg4.nrm])
                  iterate 2 (first | (refine Rg4.w4_any (Rg4.wt rfl rfl rfl) rfl ?_; apply Exists.intro; refine ⟨fun w' => ?_, ?_⟩; (focus (first | (go_simp; done) | (go_simp; first | rfl | (rw [if_neg] <;> first | rfl | omega) | (rw [if_pos] <;> first | rfl | omega)))); (try simp only [Rg4.nrm])) | (refine Rg4.w4_skip (Rg4.uw rfl rfl rfl) ?_; (try simp only [Rg4.nrm])) | (refine Rg4.w4_skip (Rg4.un rfl rfl rfl) ?_; (try simp only [Rg4.nrm])))
                  (refine Rg4.w4_any (Rg4.want_none rfl) rfl ?_; apply Exists.intro; refine ⟨fun w' => ?_, ?_⟩; (focus (first | (go_simp; done) | (go_simp; first | rfl | (rw [if_neg] <;> first | rfl | omega) | (rw [if_pos] <;> first | rfl | omega)))); (try simp only [Rg4.nrm]))
                  refine Rg4.w4_nil (fun w' hw' hcl' _ => ?_); replace st := st.ext hw'; clear hw' hcl'; (try clear hc); have hc := st.facts; (try simp only [nfl, nft, Nat.reduceAdd] at hc)
                  have HB : Hid (pickMin credLt (cnd credLt credR out) (l.take (j + 1)) = some x) := Lib.hid (by rw [HX.out]; simp [cnd, HLA.out, HZ.out, HR.out.1.1, HP.out, okC_t, HLT.out])
                  go_wp2_with ((((with_reducible refine wl_store ?_ (fun K hK => ?_)); rfl; refine owp_store rfl st ?_; apply Exists.intro; apply Exists.intro; refine ⟨?_, ?_, ?_⟩; (focus (go_simp; try rfl)); (focus (go_simp; try rfl)); (with_reducible refine ⟨2, _, _, _, _, get2, rfl, rfl, ?_, ?_, ?_, ?_⟩); (kernel_rfl); (simp [Value.cells]); (rfl); (clear st; intro w st))); (try simp only [nsl, Value.cells, unB] at st); (try clear hc); have hc := st.facts; (try simp only [nfl, nft, Nat.reduceAdd] at hc))
                  have st' := st.keep [0, 1, 2] (by decide) (by simp)
                  go_roundg (n - (j + 1))
                  case measure => omega
                  case rel => exact ⟨j + 1, true, x, by omega, by omega, by first | rfl | trivial | go_num, rfl, Lib.hid (by rw [HB.out]; rfl), by simpa [pick] using st'⟩
                | false =>
                  have HLT := Lib.hid hlt
                  have hqb := credCmp_dec x best
                  rw [hlt] at hqb
                  obtain ⟨qb, hq⟩ : ∃ q, credCmp x best = q := ⟨_, rfl⟩
                  rw [hq] at hqb
                  have HQB := Lib.hid hq
                  have HBR : Hid (credR best = true) := Lib.hid (cnd_P (pickMin_cand _ _ best (HP.out.trans (okC_t best))))
                  clear hlt hq
                  refine Rg4.wp_region4 (Rel := Ext) #[0, 1, 3, 7, 15, 31, 63, 127, 127, 383, 895, 2047, 4095, 127, 16383, 32767, 65535, 131071, 262143, 524287, 1048575, 2097151, 4194303, 4194303, 16777215, 33554431, 67108863, 134217727]
                    [(1, .val (.bool true)), (14, .val (.int .i64 qz)), (24, .val (.int .i64 qb))] [] [0, 12, 13, 22, 23] (fun _ => True) [0, 1, 2, 3, 4, 5, 6, 7, 8, 9, 10, 11, 12, 13, 14, 15, 16, 17, 18, 19, 20, 21, 22, 23, 24, 25, 26, 27] (by kernel_rfl) (by kernel_rfl) (by kernel_rfl) (by kernel_rfl) Ext.refl (fun _ _ _ => Ext.trans) (show Rg4.PB _ by repeat (first | with_reducible exact Rg4.pb_body | with_reducible exact Rg4.pb_bodyD rfl | with_reducible refine Rg4.pb_then ?_ | with_reducible refine Rg4.pb_inBlock ?_ | with_reducible refine Rg4.pb_noGoto ?_ | with_reducible assumption)) (trivial) ?_
                  replace st := st.drew
                  change Rg4.wp4 _ _ _ _ _ _ _ _ _ (World.drew _) _ _
                  generalize World.drew _ = w at st ⊢
                  (try clear hc); have hc := st.facts; (try simp only [nfl, nft, Nat.reduceAdd] at hc)
                  (refine Rg4.w4_read (Rg4.want_none rfl) rfl rfl ?_; apply Exists.intro; refine ⟨fun w' hw' hcl' => ?_, ?_⟩; focus (have st' := st.ext hw'; have hc' := st'.facts; (try simp only [nfl, nft, Nat.reduceAdd] at hc'); have r0 := st'.rowC (i := 1) get1 _ _ HRZ.out.1; have r1 := st'.rowC (i := 1) get1 _ _ HRZ.out.2.1; have r2 := st'.rowC (i := 1) get1 _ _ HRZ.out.2.2.1; have r3 := st'.rowC (i := 1) get1 _ _ HRZ.out.2.2.2.1; have r4 := st'.rowC (i := 1) get1 _ _ HRZ.out.2.2.2.2.1; have r5 := st'.rowC (i := 1) get1 _ _ HRZ.out.2.2.2.2.2.1; have r6 := st'.rowC (i := 1) get1 _ _ HRZ.out.2.2.2.2.2.2.1; have r7 := st'.rowC (i := 1) get1 _ _ HRZ.out.2.2.2.2.2.2.2.1; have r8 := st'.rowC (i := 1) get1 _ _ HRZ.out.2.2.2.2.2.2.2.2; (focus (first | (go_simp; done) | (go_simp; first | rfl | (rw [if_neg] <;> first | rfl | omega) | (rw [if_pos] <;> first | rfl | omega))))); (try simp only [Rg4.nrm]))
                  refine Rg4.w4_some (Rg4.want_none rfl) rfl (fun w' hw' hcl' _ => ?_) ?_
                  · refine Rg.relAt_call (by go_simp; exact ⟨rfl, rfl⟩) ?_
                    refine (HR.out.2 _).mono ?_
                    rintro en w'' ⟨rfl, hx⟩
                    exact ⟨_, by rw [HR.out.1.1], hx, trivial, rfl⟩
                  rintro v ⟨_, _, _, rfl⟩
                  (try simp only [Rg4.nrm])
                  (refine Rg4.w4_any (Rg4.want_none rfl) rfl ?_; apply Exists.intro; refine ⟨fun w' => ?_, ?_⟩; (focus (first | (go_simp; done) | (go_simp; first | rfl | (rw [if_neg] <;> first | rfl | omega) | (rw [if_pos] <;> first | rfl | omega)))); (try simp only [Rg4.nrm]))
                  iterate 9 (first | (refine Rg4.w4_any (Rg4.wt rfl rfl rfl) rfl ?_; apply Exists.intro; refine ⟨fun w' => ?_, ?_⟩; (focus (first | (go_simp; done) | (go_simp; first | rfl | (rw [if_neg] <;> first | rfl | omega) | (rw [if_pos] <;> first | rfl | omega)))); (try simp only [Rg4.nrm])) | (refine Rg4.w4_skip (Rg4.uw rfl rfl rfl) ?_; (try simp only [Rg4.nrm])) | (refine Rg4.w4_skip (Rg4.un rfl rfl rfl) ?_; (try simp only [Rg4.nrm])))
                  iterate 2 (first | (refine Rg4.w4_read (Rg4.wt rfl rfl rfl) rfl rfl ?_; apply Exists.intro; refine ⟨fun w' hw' hcl' => ?_, ?_⟩; focus (have st' := st.ext hw'; have hc' := st'.facts; (try simp only [nfl, nft, Nat.reduceAdd] at hc'); have r0 := st'.rowC (i := 1) get1 _ _ HRZ.out.1; have r1 := st'.rowC (i := 1) get1 _ _ HRZ.out.2.1; have r2 := st'.rowC (i := 1) get1 _ _ HRZ.out.2.2.1; have r3 := st'.rowC (i := 1) get1 _ _ HRZ.out.2.2.2.1; have r4 := st'.rowC (i := 1) get1 _ _ HRZ.out.2.2.2.2.1; have r5 := st'.rowC (i := 1) get1 _ _ HRZ.out.2.2.2.2.2.1; have r6 := st'.rowC (i := 1) get1 _ _ HRZ.out.2.2.2.2.2.2.1; have r7 := st'.rowC (i := 1) get1 _ _ HRZ.out.2.2.2.2.2.2.2.1; have r8 := st'.rowC (i := 1) get1 _ _ HRZ.out.2.2.2.2.2.2.2.2; (focus (first | (go_simp; done) | (go_simp; first | rfl | (rw [if_neg] <;> first | rfl | omega) | (rw [if_pos] <;> first | rfl | omega))))); (try simp only [Rg4.nrm])) | (refine Rg4.w4_skip (Rg4.uw rfl rfl rfl) ?_; (try simp only [Rg4.nrm])) | (refine Rg4.w4_skip (Rg4.un rfl rfl rfl) ?_; (try simp only [Rg4.nrm])))
                  refine Rg4.w4_some (Rg4.want_of 6 20 false rfl rfl rfl) rfl (fun w' hw' hcl' _ => ?_) ?_
                  · refine Rg.relAt_call (by go_simp; exact ⟨rfl, rfl⟩) ?_
                    refine (HLZ.out _).mono ?_
                    rintro en w'' ⟨rfl, hx⟩
                    exact ⟨_, by rw [HQZ.out], hx, trivial, rfl⟩
                  rintro v ⟨_, _, _, rfl⟩
                  (try simp only [Rg4.nrm])
                  iterate 2 (first | (refine Rg4.w4_any (Rg4.wt rfl rfl rfl) rfl ?_; apply Exists.intro; refine ⟨fun w' => ?_, ?_⟩; (focus (first | (go_simp; done) | (go_simp; first | rfl | (rw [if_neg] <;> first | rfl | omega) | (rw [if_pos] <;> first | rfl | omega)))); (try simp only [Rg4.nrm])) | (refine Rg4.w4_skip (Rg4.uw rfl rfl rfl) ?_; (try simp only [Rg4.nrm])) | (refine Rg4.w4_skip (Rg4.un rfl rfl rfl) ?_; (try simp only [Rg4.nrm])))
                  iterate 2 (refine Rg4.w4_any (Rg4.want_none rfl) rfl ?_; apply Exists.intro; refine ⟨fun w' => ?_, ?_⟩; (focus (first | (go_simp; done) | (go_simp; first | rfl | (rw [if_neg] <;> first | rfl | omega) | (rw [if_pos] <;> first | rfl | omega)))); (try simp only [Rg4.nrm]))
                  iterate 3 (first | (refine Rg4.w4_any (Rg4.wt rfl rfl rfl) rfl ?_; apply Exists.intro; refine ⟨fun w' => ?_, ?_⟩; (focus (first | (go_simp; done) | (go_simp; first | rfl | (rw [if_neg] <;> first | rfl | omega) | (rw [if_pos] <;> first | rfl | omega)))); (try simp only [Rg4.nrm])) | (refine Rg4.w4_skip (Rg4.uw rfl rfl rfl) ?_; (try simp only [Rg4.nrm])) | (refine Rg4.w4_skip (Rg4.un rfl rfl rfl) ?_; (try simp only [Rg4.nrm])))
                  iterate 2 (first | (refine Rg4.w4_read (Rg4.wt rfl rfl rfl) rfl rfl ?_; apply Exists.intro; refine ⟨fun w' hw' hcl' => ?_, ?_⟩; focus (have st' := st.ext hw'; have hc' := st'.facts; (try simp only [nfl, nft, Nat.reduceAdd] at hc'); have r0 := st'.rowC (i := 1) get1 _ _ HRZ.out.1; have r1 := st'.rowC (i := 1) get1 _ _ HRZ.out.2.1; have r2 := st'.rowC (i := 1) get1 _ _ HRZ.out.2.2.1; have r3 := st'.rowC (i := 1) get1 _ _ HRZ.out.2.2.2.1; have r4 := st'.rowC (i := 1) get1 _ _ HRZ.out.2.2.2.2.1; have r5 := st'.rowC (i := 1) get1 _ _ HRZ.out.2.2.2.2.2.1; have r6 := st'.rowC (i := 1) get1 _ _ HRZ.out.2.2.2.2.2.2.1; have r7 := st'.rowC (i := 1) get1 _ _ HRZ.out.2.2.2.2.2.2.2.1; have r8 := st'.rowC (i := 1) get1 _ _ HRZ.out.2.2.2.2.2.2.2.2; (focus (first | (go_simp; done) | (go_simp; first | rfl | (rw [if_neg] <;> first | rfl | omega) | (rw [if_pos] <;> first | rfl | omega))))); (try simp only [Rg4.nrm])) | (refine Rg4.w4_skip (Rg4.uw rfl rfl rfl) ?_; (try simp only [Rg4.nrm])) | (refine Rg4.w4_skip (Rg4.un rfl rfl rfl) ?_; (try simp only [Rg4.nrm])))
                  refine Rg4.w4_some (Rg4.want_of 21 35 false rfl rfl rfl) rfl (fun w' hw' hcl' _ => ?_) ?_
                  · refine Rg.relAt_call (by go_simp; exact ⟨rfl, rfl⟩) ?_
                    refine (HLB.out _ HBR.out).mono ?_
                    rintro en w'' ⟨rfl, hx⟩
                    exact ⟨_, by rw [HQB.out], hx, trivial, rfl⟩
                  rintro v ⟨_, _, _, rfl⟩
                  (try simp only [Rg4.nrm])
                  iterate 2 (first | (refine Rg4.w4_any (Rg4.wt rfl rfl rfl) rfl ?_; apply Exists.intro; refine ⟨fun w' => ?_, ?_⟩; (focus (first | (go_simp; done) | (go_simp; first | rfl | (rw [if_neg] <;> first | rfl | omega) | (rw [if_pos] <;> first | rfl | omega)))); (try simp only [Rg4.nrm])) | (refine Rg4.w4_skip (Rg4.uw rfl rfl rfl) ?_; (try simp only [Rg4.nrm])) | (refine Rg4.w4_skip (Rg4.un rfl rfl rfl) ?_; (try simp only [Rg4.nrm])))
                  (refine Rg4.w4_any (Rg4.want_none rfl) rfl ?_; apply Exists.intro; refine ⟨fun w' => ?_, ?_⟩; (focus (first | (go_simp; done) | (go_simp; first | rfl | (rw [if_neg] <;> first | rfl | omega) | (rw [if_pos] <;> first | rfl | omega)))); (try simp only [Rg4.nrm]))
                  refine Rg4.w4_nil (fun w' hw' hcl' _ => ?_); replace st := st.ext hw'; clear hw' hcl'; (try clear hc); have hc := st.facts; (try simp only [nfl, nft, Nat.reduceAdd] at hc)
                  have HB : Hid (pickMin credLt (cnd credLt credR out) (l.take (j + 1)) = pickMin credLt (cnd credLt credR out) (l.take j)) := Lib.hid (by rw [HX.out]; simp [cnd, HLA.out, HZ.out, HR.out.1.1, HP.out, okC_t, HLT.out])
                  go_wp2_with fail
                  have st' := st.keep [0, 1, 2] (by decide) (by simp)
                  go_roundg (n - (j + 1))
                  case measure => omega
                  case rel => exact ⟨j + 1, true, best, by omega, by omega, by first | rfl | trivial | go_num, rfl, Lib.hid (by rw [HB.out]; exact HP.out), by simpa [pick] using st'⟩
      · obtain rfl : j = n := by omega
        have htk : l.take j = l := List.take_of_length_le (by have := HNL.out.1; omega)
        have hp := HP.out
        rw [htk] at hp
        clear htk HP
        cases ok with
        | false =>
          have HF := Lib.hid (HG.out.1.done (credOrd) hp)
          clear hp
          go_wp2_with fail
          go_ret
          have hm := HG.out.2.2
          subst hm
          exact ⟨out, va, vc, rfl, HF.out, st.toFresh get1⟩
        | true =>
          have hstep := HG.out.1.step (credOrd) hp
          have hlen := hstep.len (credOrd).irr
          have hleft := left_step (credOrd) hp
          have HF := Lib.hid (And.intro hstep hleft)
          have hol : m + 1 ≤ 2000000 := by have := HNL.out.1; have := HG.out.2.2; simp at hlen; omega
          clear hp hstep hlen hleft
          go_wp2_with (first
              | ((with_reducible refine wl_append ?_ (fun K hK => ?_)); (rfl); (obtain ⟨inf, hinf, hz0, hz1, hz2⟩ := credInfo); (refine owp_append rfl st 1 get1 Tryz.underlying48 hinf hz0 hz1 hz2 rfl (by decide) rfl rfl ((st.blk (i := 3) get3).flat rfl) (by first | exact cellsL_all _ | simp [Value.oneCell']) (by simp only [maxLen]; omega) (by omega) ?_); (clear hinf hz0 hz1 hz2 inf); (clear st; intro v' w st); (obtain ⟨va', vc', rfl⟩ := own_slice (st.row (i := 1) get1)); (try simp only [nsl, Value.cells, unB] at st); (try simp only [Nat.zero_add] at st); (try clear hc); have hc := st.facts; (try simp only [nfl, nft, Nat.reduceAdd] at hc))
              | ((((with_reducible refine wl_buildSlice ?_ (fun K hK => ?_)); rfl; refine owp_buildSlice (o := ⟨some 49, _, _, _, _, _⟩) rfl st ?_; apply Exists.intro; apply Exists.intro; apply Exists.intro; apply Exists.intro; refine ⟨?_, ?_⟩; (focus (go_simp; (first | done | exact ⟨⟨rfl, rfl⟩, rfl⟩ | rfl))); (clear st; intro b49 w hb st; clear hb))); (try simp only [nsl, Value.cells, unB] at st); (try clear hc); have hc := st.facts; (try simp only [nfl, nft, Nat.reduceAdd] at hc)))
          have st' := st.keep [0, 1] (by decide) (by simp)
          go_roundg (left credLt credR l (out ++ [best]))
          case measure => have := HG.out.2.1; have := HF.out.2; omega
          case rel => exact ⟨out ++ [best], m + 1, va', vc', rfl, hol, Lib.hid ⟨HF.out.1, Nat.le_refl _, by simp [HG.out.2.2]⟩, by rw [cellsL_append, cellsL_one', cred_cells]; simpa [pick] using st'⟩
theorem refCredSet_c (a : Option Addr) (n c : Nat) (l : List CredT) (W : World) (h : Fl W a n l) (hn : n ≤ 2000000) (hs : ∀ x ∈ l, CredL 100000 x) :
    Calls Tryz.prog 26 #[.slice a n c] W fun e w' => ∃ va vc, e = .returned (.slice va (credSet l).length vc) ∧ FreshI W w' (rowI 28 9 (.slice va (credSet l).length vc) (credSet l).length (cellsL (credSet l))) := by
  refine (refCredSet_any a n c l W h hn hs).mono ?_
  rintro e w' ⟨out, va, vc, rfl, h1, h2⟩
  have := h1.uniq (credOrd) (credSet_set l)
  subst this
  exact ⟨va, vc, rfl, h2⟩
end Go.Proofs.YtdfdnedcaodmkaaGreat

namespace Go.Proofs.YtdfdnedcaodmkaaGreat
set_option linter.unusedSimpArgs false
set_option linter.unusedVariables false
open Go Go.RowKit
theorem blanks_2 (j : Nat) : blanks (2 * (j + 1)) = blanks (2 * j) ++ [32, 32] := by
  unfold blanks
  rw [show 2 * (j + 1) = 2 * j + 2 from by omega, ← List.replicate_append_replicate]
  rfl
theorem Fl.node {w : World} {a : Option Addr} {n : Nat} {xs : List NodeP} (h : Fl w a n xs) (h0 : 0 < n) : ∃ b off, a = some ⟨b, off, none⟩ ∧ ∀ (j : Nat) (d : Nat) (x : StepT) (lf : Bool), xs[j]? = some (d, x, lf) → w.cell? ⟨b, off + j * 14, none⟩ = some (.int .i64 (d : Int)) ∧ w.cell? ⟨b, off + j * 14 + 1, none⟩ = some (.int .i64 x.c.k) ∧ w.cell? ⟨b, off + j * 14 + 2, none⟩ = some (S x.c.h.1) ∧ w.cell? ⟨b, off + j * 14 + 3, none⟩ = some (S x.c.h.2) ∧ w.cell? ⟨b, off + j * 14 + 4, none⟩ = some (S x.c.w) ∧ w.cell? ⟨b, off + j * 14 + 5, none⟩ = some (S x.c.b.1) ∧ w.cell? ⟨b, off + j * 14 + 6, none⟩ = some (S x.c.b.2) ∧ w.cell? ⟨b, off + j * 14 + 7, none⟩ = some (S x.c.c.1) ∧ w.cell? ⟨b, off + j * 14 + 8, none⟩ = some (S x.c.c.2) ∧ w.cell? ⟨b, off + j * 14 + 9, none⟩ = some (S x.c.e) ∧ w.cell? ⟨b, off + j * 14 + 10, none⟩ = some (S x.f.r.1) ∧ w.cell? ⟨b, off + j * 14 + 11, none⟩ = some (S x.f.r.2) ∧ w.cell? ⟨b, off + j * 14 + 12, none⟩ = some (S x.f.w) ∧ w.cell? ⟨b, off + j * 14 + 13, none⟩ = some (.bool lf) := by
  obtain ⟨b, off, rfl, hc⟩ := h.2 h0
  exact ⟨b, off, rfl, fun j d x lf hj => ⟨hc j _ hj 0 _ rfl, hc j _ hj 1 _ rfl, hc j _ hj 2 _ rfl, hc j _ hj 3 _ rfl, hc j _ hj 4 _ rfl, hc j _ hj 5 _ rfl, hc j _ hj 6 _ rfl, hc j _ hj 7 _ rfl, hc j _ hj 8 _ rfl, hc j _ hj 9 _ rfl, hc j _ hj 10 _ rfl, hc j _ hj 11 _ rfl, hc j _ hj 12 _ rfl, hc j _ hj 13 _ rfl⟩⟩
def NdOk (p : NodeP) : Prop := credR p.2.1.c = true ∧ p.2.1.f.r.1.length + p.2.1.f.r.2.length + p.2.1.f.w.length ≤ 1000000000 ∧ p.1 ≤ 4000
def toldN (l : List NodeP) : List UInt8 := l.flatMap fun p => nodeT p.1 p.2.1
theorem toldN_snoc (l : List NodeP) (p : NodeP) : toldN (l ++ [p]) = toldN l ++ nodeT p.1 p.2.1 := by unfold toldN; rw [List.flatMap_append]; simp
theorem toldN_take (l : List NodeP) (j : Nat) : (toldN (l.take j)).length ≤ (toldN l).length := by
  have : toldN l = toldN (l.take j) ++ toldN (l.drop j) := by unfold toldN; rw [← List.flatMap_append, List.take_append_drop]
  rw [this, List.length_append]; omega
def deepN (l : List NodeP) : Nat := l.foldl (fun d p => max d (p.1 + 1)) 0
theorem deepN_snoc (l : List NodeP) (p : NodeP) : deepN (l ++ [p]) = max (deepN l) (p.1 + 1) := by unfold deepN; rw [List.foldl_append]; rfl
def leafN (l : List NodeP) : List CredT := (l.filter fun p => p.2.2).map fun p => p.2.1.c
theorem leafN_snoc (l : List NodeP) (p : NodeP) : leafN (l ++ [p]) = if p.2.2 = true then leafN l ++ [p.2.1.c] else leafN l := by
  unfold leafN
  rw [List.filter_append, List.map_append]
  cases h : p.2.2 <;> simp [h]
set_option maxRecDepth 100000 in
set_option maxHeartbeats 4000000 in
theorem refDeep51_any (a : Option Addr) (n c : Nat) (l : List NodeP) (W : World) (h : Fl W a n l) (hn : n ≤ 1000000) (hd : ∀ p ∈ l, p.1 ≤ 1000000) :
    Calls Tryz.prog 11 #[.slice a n c] W fun e w' => e = .returned (.int .i64 (deepN l : Int)) ∧ Ext W w' := by
  have H := Lib.hid h
  have HN := Lib.hid h.1
  have HD := Lib.hid hd
  clear h hd
  have st := Own.startOld W
  (try simp only [nsl, Value.cells, unB] at st)
  (try clear hc); have hc := st.facts; (try simp only [nfl, nft, elI, elF, Nat.reduceAdd] at hc)
  go_enter Tryz.func11, Tryz.ntmps11
  go_wp2_with ((first
        | ((with_reducible refine wl_alloc ?_ (fun K hK => ?_)); rfl; refine owp_alloc (o := ⟨some 5, _, _, _, _, _⟩) rfl st ?_; apply Exists.intro; apply Exists.intro; refine ⟨?_, ?_⟩; (focus (first | (go_simp; done) | (go_simp; rfl))); (clear st; intro b5 w hb st; clear hb))
        | ((with_reducible refine wl_store ?_ (fun K hK => ?_)); rfl; refine owp_store rfl st ?_; apply Exists.intro; apply Exists.intro; refine ⟨?_, ?_, ?_⟩; (focus (go_simp; try rfl)); (focus (go_simp; try rfl)); (first | (with_reducible refine ⟨0, _, _, _, _, get0, rfl, rfl, ?_, ?_, ?_, ?_⟩) | (with_reducible refine ⟨1, _, _, _, _, get1, rfl, rfl, ?_, ?_, ?_, ?_⟩) | (with_reducible refine ⟨2, _, _, _, _, get2, rfl, rfl, ?_, ?_, ?_, ?_⟩) | (with_reducible refine ⟨3, _, _, _, _, get3, rfl, rfl, ?_, ?_, ?_, ?_⟩) | (with_reducible refine ⟨4, _, _, _, _, get4, rfl, rfl, ?_, ?_, ?_, ?_⟩) | (with_reducible refine ⟨5, _, _, _, _, get5, rfl, rfl, ?_, ?_, ?_, ?_⟩)); (kernel_rfl); (simp [Value.cells]); (rfl); (clear st; intro w st))); (try simp only [nsl, Value.cells, unB] at st); (try clear hc); have hc := st.facts; (try simp only [nfl, nft, elI, elF, Nat.reduceAdd] at hc))
  go_loopg [3, 8] n (fun k v i wr => ∃ (j m : Nat), j ≤ n ∧ k = n - j ∧ i = .int .i64 (j : Int) ∧ v = .int .i64 (m : Int) ∧ m ≤ 2000000 ∧ Hid (m = deepN (l.take j)) ∧ Own (fun _ => False) (fun _ => True) W [oldI W] wr)
  case atStart => exact ⟨0, 0, by omega, by omega, rfl, rfl, by omega, Lib.hid (by simp [deepN]), st⟩
  case round =>
    obtain ⟨j, m, hj, rfl, rfl, rfl, hmb, HM, st'⟩ := hrel
    clear st hc
    have st := st'
    clear st'
    (try simp only [nsl, Value.cells, unB] at st)
    (try clear hc); have hc := st.facts; (try simp only [nfl, nft, elI, elF, Nat.reduceAdd] at hc)
    by_cases hjn : j < n
    · obtain ⟨b, off, ha, hcell⟩ := H.out.node (by omega)
      have hjl : j < l.length := by have := HN.out; omega
      have hget := List.getElem?_eq_getElem hjl
      have HSN : Hid (deepN (l.take (j + 1)) = max m (l[j].1 + 1)) := Lib.hid (by rw [← List.take_append_getElem hjl, deepN_snoc, HM.out])
      have hdb := HD.out _ (List.getElem_mem hjl)
      generalize l[j] = y at *
      obtain ⟨d, x, lf⟩ := y
      simp only at HSN hdb
      obtain ⟨r0, r1, r2, r3, r4, r5, r6, r7, r8, r9, r10, r11, r12, r13⟩ := hcell j d x lf hget
      clear hcell hget
      subst ha
      replace r0 := st.oldCell (i := 0) get0 r0
      replace r1 := st.oldCell (i := 0) get0 r1
      replace r2 := st.oldCell (i := 0) get0 r2
      replace r3 := st.oldCell (i := 0) get0 r3
      replace r4 := st.oldCell (i := 0) get0 r4
      replace r5 := st.oldCell (i := 0) get0 r5
      replace r6 := st.oldCell (i := 0) get0 r6
      replace r7 := st.oldCell (i := 0) get0 r7
      replace r8 := st.oldCell (i := 0) get0 r8
      replace r9 := st.oldCell (i := 0) get0 r9
      replace r10 := st.oldCell (i := 0) get0 r10
      replace r11 := st.oldCell (i := 0) get0 r11
      replace r12 := st.oldCell (i := 0) get0 r12
      replace r13 := st.oldCell (i := 0) get0 r13
      unfold S at r2 r3 r4 r5 r6 r7 r8 r9 r10 r11 r12
      go_wp2_with ((first
            | ((with_reducible refine wl_alloc ?_ (fun K hK => ?_)); rfl; refine owp_alloc (o := ⟨some 5, _, _, _, _, _⟩) rfl st ?_; apply Exists.intro; apply Exists.intro; refine ⟨?_, ?_⟩; (focus (first | (go_simp; done) | (go_simp; rfl))); (clear st; intro b5 w hb st; clear hb))
            | ((with_reducible refine wl_store ?_ (fun K hK => ?_)); rfl; refine owp_store rfl st ?_; apply Exists.intro; apply Exists.intro; refine ⟨?_, ?_, ?_⟩; (focus (go_simp; try rfl)); (focus (go_simp; try rfl)); (first | (with_reducible refine ⟨0, _, _, _, _, get0, rfl, rfl, ?_, ?_, ?_, ?_⟩) | (with_reducible refine ⟨1, _, _, _, _, get1, rfl, rfl, ?_, ?_, ?_, ?_⟩) | (with_reducible refine ⟨2, _, _, _, _, get2, rfl, rfl, ?_, ?_, ?_, ?_⟩) | (with_reducible refine ⟨3, _, _, _, _, get3, rfl, rfl, ?_, ?_, ?_, ?_⟩) | (with_reducible refine ⟨4, _, _, _, _, get4, rfl, rfl, ?_, ?_, ?_, ?_⟩) | (with_reducible refine ⟨5, _, _, _, _, get5, rfl, rfl, ?_, ?_, ?_, ?_⟩)); (kernel_rfl); (simp [Value.cells]); (rfl); (clear st; intro w st))); (try simp only [nsl, Value.cells, unB] at st); (try clear hc); have hc := st.facts; (try simp only [nfl, nft, elI, elF, Nat.reduceAdd] at hc))
      clear r0 r1 r2 r3 r4 r5 r6 r7 r8 r9 r10 r11 r12 r13
      have hmx : ((max m (d + 1) : Nat) : Int) = max (m : Int) ((d : Int) + 1) := by omega
      rcases Nat.le_total m (d + 1) with hle | hle
      · have hle2 : (m : Int) ≤ (d : Int) + 1 := by omega
        go_wp2_with ((first
              | ((with_reducible refine wl_alloc ?_ (fun K hK => ?_)); rfl; refine owp_alloc (o := ⟨some 5, _, _, _, _, _⟩) rfl st ?_; apply Exists.intro; apply Exists.intro; refine ⟨?_, ?_⟩; (focus (first | (go_simp; done) | (go_simp; rfl))); (clear st; intro b5 w hb st; clear hb))
              | ((with_reducible refine wl_store ?_ (fun K hK => ?_)); rfl; refine owp_store rfl st ?_; apply Exists.intro; apply Exists.intro; refine ⟨?_, ?_, ?_⟩; (focus (go_simp; try rfl)); (focus (go_simp; try rfl)); (first | (with_reducible refine ⟨0, _, _, _, _, get0, rfl, rfl, ?_, ?_, ?_, ?_⟩) | (with_reducible refine ⟨1, _, _, _, _, get1, rfl, rfl, ?_, ?_, ?_, ?_⟩) | (with_reducible refine ⟨2, _, _, _, _, get2, rfl, rfl, ?_, ?_, ?_, ?_⟩) | (with_reducible refine ⟨3, _, _, _, _, get3, rfl, rfl, ?_, ?_, ?_, ?_⟩) | (with_reducible refine ⟨4, _, _, _, _, get4, rfl, rfl, ?_, ?_, ?_, ?_⟩) | (with_reducible refine ⟨5, _, _, _, _, get5, rfl, rfl, ?_, ?_, ?_, ?_⟩)); (kernel_rfl); (simp [Value.cells]); (rfl); (clear st; intro w st))); (try simp only [nsl, Value.cells, unB] at st); (try clear hc); have hc := st.facts; (try simp only [nfl, nft, elI, elF, Nat.reduceAdd] at hc))
        have st' := st.keep [0] (by decide) (by simp)
        go_roundg (n - (j + 1))
        case measure => omega
        case rel => exact ⟨j + 1, d + 1, by omega, by omega, by go_num, by go_num, by omega, Lib.hid (by have := HSN.out; omega), by simpa [pick] using st'⟩
      · have hle2 : (d : Int) + 1 ≤ (m : Int) := by omega
        go_wp2_with ((first
              | ((with_reducible refine wl_alloc ?_ (fun K hK => ?_)); rfl; refine owp_alloc (o := ⟨some 5, _, _, _, _, _⟩) rfl st ?_; apply Exists.intro; apply Exists.intro; refine ⟨?_, ?_⟩; (focus (first | (go_simp; done) | (go_simp; rfl))); (clear st; intro b5 w hb st; clear hb))
              | ((with_reducible refine wl_store ?_ (fun K hK => ?_)); rfl; refine owp_store rfl st ?_; apply Exists.intro; apply Exists.intro; refine ⟨?_, ?_, ?_⟩; (focus (go_simp; try rfl)); (focus (go_simp; try rfl)); (first | (with_reducible refine ⟨0, _, _, _, _, get0, rfl, rfl, ?_, ?_, ?_, ?_⟩) | (with_reducible refine ⟨1, _, _, _, _, get1, rfl, rfl, ?_, ?_, ?_, ?_⟩) | (with_reducible refine ⟨2, _, _, _, _, get2, rfl, rfl, ?_, ?_, ?_, ?_⟩) | (with_reducible refine ⟨3, _, _, _, _, get3, rfl, rfl, ?_, ?_, ?_, ?_⟩) | (with_reducible refine ⟨4, _, _, _, _, get4, rfl, rfl, ?_, ?_, ?_, ?_⟩) | (with_reducible refine ⟨5, _, _, _, _, get5, rfl, rfl, ?_, ?_, ?_, ?_⟩)); (kernel_rfl); (simp [Value.cells]); (rfl); (clear st; intro w st))); (try simp only [nsl, Value.cells, unB] at st); (try clear hc); have hc := st.facts; (try simp only [nfl, nft, elI, elF, Nat.reduceAdd] at hc))
        have st' := st.keep [0] (by decide) (by simp)
        go_roundg (n - (j + 1))
        case measure => omega
        case rel => exact ⟨j + 1, m, by omega, by omega, by go_num, by first | rfl | go_num, by omega, Lib.hid (by have := HSN.out; omega), by simpa [pick] using st'⟩
    · obtain rfl : n = j := by omega
      have HF : Hid (deepN l = m) := Lib.hid (by rw [HM.out, List.take_of_length_le (by have := HN.out; omega)])
      go_wp2_with ((first
            | ((with_reducible refine wl_alloc ?_ (fun K hK => ?_)); rfl; refine owp_alloc (o := ⟨some 5, _, _, _, _, _⟩) rfl st ?_; apply Exists.intro; apply Exists.intro; refine ⟨?_, ?_⟩; (focus (first | (go_simp; done) | (go_simp; rfl))); (clear st; intro b5 w hb st; clear hb))
            | ((with_reducible refine wl_store ?_ (fun K hK => ?_)); rfl; refine owp_store rfl st ?_; apply Exists.intro; apply Exists.intro; refine ⟨?_, ?_, ?_⟩; (focus (go_simp; try rfl)); (focus (go_simp; try rfl)); (first | (with_reducible refine ⟨0, _, _, _, _, get0, rfl, rfl, ?_, ?_, ?_, ?_⟩) | (with_reducible refine ⟨1, _, _, _, _, get1, rfl, rfl, ?_, ?_, ?_, ?_⟩) | (with_reducible refine ⟨2, _, _, _, _, get2, rfl, rfl, ?_, ?_, ?_, ?_⟩) | (with_reducible refine ⟨3, _, _, _, _, get3, rfl, rfl, ?_, ?_, ?_, ?_⟩) | (with_reducible refine ⟨4, _, _, _, _, get4, rfl, rfl, ?_, ?_, ?_, ?_⟩) | (with_reducible refine ⟨5, _, _, _, _, get5, rfl, rfl, ?_, ?_, ?_, ?_⟩)); (kernel_rfl); (simp [Value.cells]); (rfl); (clear st; intro w st))); (try simp only [nsl, Value.cells, unB] at st); (try clear hc); have hc := st.facts; (try simp only [nfl, nft, elI, elF, Nat.reduceAdd] at hc))
      go_ret
      exact ⟨by rw [HF.out]; rfl, st.ext0⟩
set_option maxRecDepth 100000 in
set_option maxHeartbeats 4000000 in
theorem refLeaves51_any (a : Option Addr) (n c : Nat) (l : List NodeP) (W : World) (h : Fl W a n l) (hn : n ≤ 100000) (hd : ∀ p ∈ l, NdOk p) :
    Calls Tryz.prog 14 #[.slice a n c] W fun e w' => ∃ va vc, e = .returned (.slice va (credSet (leafN l)).length vc) ∧ FreshI W w' (rowI 28 9 (.slice va (credSet (leafN l)).length vc) (credSet (leafN l)).length (cellsL (credSet (leafN l)))) := by
  have H := Lib.hid h
  have HN := Lib.hid h.1
  have HD := Lib.hid hd
  clear h hd
  have st := Own.startOld W
  (try simp only [nsl, Value.cells, unB] at st)
  (try clear hc); have hc := st.facts; (try simp only [nfl, nft, elI, elF, Nat.reduceAdd] at hc)
  go_enter Tryz.func14, Tryz.ntmps14
  go_wp2_with ((first
        | ((with_reducible refine wl_alloc ?_ (fun K hK => ?_)); rfl; refine owp_alloc (o := ⟨some 5, _, _, _, _, _⟩) rfl st ?_; apply Exists.intro; apply Exists.intro; refine ⟨?_, ?_⟩; (focus (first | (go_simp; done) | (go_simp; rfl))); (clear st; intro b5 w hb st; clear hb))
        | ((with_reducible refine wl_store ?_ (fun K hK => ?_)); rfl; refine owp_store rfl st ?_; apply Exists.intro; apply Exists.intro; refine ⟨?_, ?_, ?_⟩; (focus (go_simp; try rfl)); (focus (go_simp; try rfl)); (first | (with_reducible refine ⟨0, _, _, _, _, get0, rfl, rfl, ?_, ?_, ?_, ?_⟩) | (with_reducible refine ⟨1, _, _, _, _, get1, rfl, rfl, ?_, ?_, ?_, ?_⟩) | (with_reducible refine ⟨2, _, _, _, _, get2, rfl, rfl, ?_, ?_, ?_, ?_⟩) | (with_reducible refine ⟨3, _, _, _, _, get3, rfl, rfl, ?_, ?_, ?_, ?_⟩) | (with_reducible refine ⟨4, _, _, _, _, get4, rfl, rfl, ?_, ?_, ?_, ?_⟩) | (with_reducible refine ⟨5, _, _, _, _, get5, rfl, rfl, ?_, ?_, ?_, ?_⟩)); (kernel_rfl); (simp [Value.cells]); (rfl); (clear st; intro w st))
        | ((with_reducible refine wl_buildSlice ?_ (fun K hK => ?_)); rfl; refine owp_buildSlice (o := ⟨some 18, _, _, _, _, _⟩) rfl st ?_; apply Exists.intro; apply Exists.intro; apply Exists.intro; apply Exists.intro; refine ⟨?_, ?_⟩; (focus (go_simp; (first | done | exact ⟨⟨rfl, rfl⟩, rfl⟩ | rfl))); (clear st; intro b18 w hb st; clear hb))); (try simp only [nsl, Value.cells, unB] at st); (try clear hc); have hc := st.facts; (try simp only [nfl, nft, elI, elF, Nat.reduceAdd] at hc))
  replace st := st.row_nil 28 9
  simp only [List.cons_append, List.nil_append] at st
  go_loopg [3, 8] n (fun k v i wr => ∃ (j q vc : Nat) (va : Option Addr) (cs : List CredT), j ≤ n ∧ k = n - j ∧ i = .int .i64 (j : Int) ∧ v = .slice va q vc ∧ q ≤ j ∧ Hid (cs = leafN (l.take j)) ∧ Hid (q = cs.length) ∧ Own (fun _ => False) (fun _ => True) W [oldI W, rowI 28 9 (.slice va q vc) q (cellsL cs)] wr)
  case atStart => exact ⟨0, 0, 0, none, [], by omega, by omega, rfl, rfl, by omega, Lib.hid (by simp [leafN]), Lib.hid rfl, by simpa [cellsL] using st⟩
  case round =>
    obtain ⟨j, q, vc, va, cs, hj, rfl, rfl, rfl, hqj, HCS, HQ, st'⟩ := hrel
    clear st hc
    have st := st'
    clear st'
    (try simp only [nsl, Value.cells, unB] at st)
    (try clear hc); have hc := st.facts; (try simp only [nfl, nft, elI, elF, Nat.reduceAdd] at hc)
    by_cases hjn : j < n
    · obtain ⟨b, off, ha, hcell⟩ := H.out.node (by omega)
      have hjl : j < l.length := by have := HN.out; omega
      have hget := List.getElem?_eq_getElem hjl
      have HSN : Hid (leafN (l.take (j + 1)) = if l[j].2.2 = true then cs ++ [l[j].2.1.c] else cs) := Lib.hid (by rw [← List.take_append_getElem hjl, leafN_snoc, HCS.out])
      generalize l[j] = y at *
      obtain ⟨d, x, lf⟩ := y
      simp only at HSN
      obtain ⟨r0, r1, r2, r3, r4, r5, r6, r7, r8, r9, r10, r11, r12, r13⟩ := hcell j d x lf hget
      clear hcell hget
      subst ha
      replace r0 := st.oldCell (i := 0) get0 r0
      replace r1 := st.oldCell (i := 0) get0 r1
      replace r2 := st.oldCell (i := 0) get0 r2
      replace r3 := st.oldCell (i := 0) get0 r3
      replace r4 := st.oldCell (i := 0) get0 r4
      replace r5 := st.oldCell (i := 0) get0 r5
      replace r6 := st.oldCell (i := 0) get0 r6
      replace r7 := st.oldCell (i := 0) get0 r7
      replace r8 := st.oldCell (i := 0) get0 r8
      replace r9 := st.oldCell (i := 0) get0 r9
      replace r10 := st.oldCell (i := 0) get0 r10
      replace r11 := st.oldCell (i := 0) get0 r11
      replace r12 := st.oldCell (i := 0) get0 r12
      replace r13 := st.oldCell (i := 0) get0 r13
      unfold S at r2 r3 r4 r5 r6 r7 r8 r9 r10 r11 r12
      cases lf with
      | false =>
        have HS2 : Hid (cs = leafN (l.take (j + 1))) := Lib.hid (by rw [HSN.out]; rfl)
        go_wp2_with ((first
              | ((with_reducible refine wl_alloc ?_ (fun K hK => ?_)); rfl; refine owp_alloc (o := ⟨some 5, _, _, _, _, _⟩) rfl st ?_; apply Exists.intro; apply Exists.intro; refine ⟨?_, ?_⟩; (focus (first | (go_simp; done) | (go_simp; rfl))); (clear st; intro b5 w hb st; clear hb))
              | ((with_reducible refine wl_store ?_ (fun K hK => ?_)); rfl; refine owp_store rfl st ?_; apply Exists.intro; apply Exists.intro; refine ⟨?_, ?_, ?_⟩; (focus (go_simp; try rfl)); (focus (go_simp; try rfl)); (first | (with_reducible refine ⟨0, _, _, _, _, get0, rfl, rfl, ?_, ?_, ?_, ?_⟩) | (with_reducible refine ⟨1, _, _, _, _, get1, rfl, rfl, ?_, ?_, ?_, ?_⟩) | (with_reducible refine ⟨2, _, _, _, _, get2, rfl, rfl, ?_, ?_, ?_, ?_⟩) | (with_reducible refine ⟨3, _, _, _, _, get3, rfl, rfl, ?_, ?_, ?_, ?_⟩) | (with_reducible refine ⟨4, _, _, _, _, get4, rfl, rfl, ?_, ?_, ?_, ?_⟩) | (with_reducible refine ⟨5, _, _, _, _, get5, rfl, rfl, ?_, ?_, ?_, ?_⟩)); (kernel_rfl); (simp [Value.cells]); (rfl); (clear st; intro w st))
              | ((with_reducible refine wl_buildSlice ?_ (fun K hK => ?_)); rfl; refine owp_buildSlice (o := ⟨some 18, _, _, _, _, _⟩) rfl st ?_; apply Exists.intro; apply Exists.intro; apply Exists.intro; apply Exists.intro; refine ⟨?_, ?_⟩; (focus (go_simp; (first | done | exact ⟨⟨rfl, rfl⟩, rfl⟩ | rfl))); (clear st; intro b18 w hb st; clear hb))); (try simp only [nsl, Value.cells, unB] at st); (try clear hc); have hc := st.facts; (try simp only [nfl, nft, elI, elF, Nat.reduceAdd] at hc))
        have st' := st.keep [0, 1] (by decide) (by simp)
        go_roundg (n - (j + 1))
        case measure => omega
        case rel => exact ⟨j + 1, q, _, _, cs, by omega, by omega, by go_num, rfl, by omega, HS2, HQ, by simpa [pick] using st'⟩
      | true =>
        have HS2 : Hid (cs ++ [x.c] = leafN (l.take (j + 1))) := Lib.hid (by rw [HSN.out]; rfl)
        go_wp2_with (first
            | ((with_reducible refine wl_append ?_ (fun K hK => ?_)); (rfl); (obtain ⟨inf, hinf, hz0, hz1, hz2⟩ := credInfo); (refine owp_append rfl st 1 get1 Tryz.underlying48 hinf hz0 hz1 hz2 rfl (by decide) rfl rfl ((st.blk (i := 3) get3).flat rfl) (by first | exact cellsL_all _ | simp [Value.oneCell']) (by simp only [maxLen]; omega) (by omega) ?_); (clear hinf hz0 hz1 hz2 inf); (clear st; intro v' w st); (obtain ⟨va', vc', rfl⟩ := own_slice (st.row (i := 1) get1)); (try simp only [nsl, Value.cells, unB] at st); (try simp only [Nat.zero_add] at st); (try clear hc); have hc := st.facts; (try simp only [nfl, nft, elI, elF, Nat.reduceAdd] at hc))
            | ((with_reducible refine wl_buildSlice ?_ (fun K hK => ?_)); (rfl); (refine owp_buildRow (o := ⟨some 9999, _, _, _, _, _⟩) rfl st 28 9 ?_; refine ⟨0, #[], ?_, by simp, by simp [maxLen], ?_⟩; (focus (go_simp; (first | done | rfl))); (clear st; intro b9999 w hb st; clear hb)); (try simp only [nsl, Value.cells, unB] at st); (try clear hc); have hc := st.facts; (try simp only [nfl, nft, elI, elF, Nat.reduceAdd] at hc))
            | ((first
              | ((with_reducible refine wl_alloc ?_ (fun K hK => ?_)); rfl; refine owp_alloc (o := ⟨some 5, _, _, _, _, _⟩) rfl st ?_; apply Exists.intro; apply Exists.intro; refine ⟨?_, ?_⟩; (focus (first | (go_simp; done) | (go_simp; rfl))); (clear st; intro b5 w hb st; clear hb))
              | ((with_reducible refine wl_store ?_ (fun K hK => ?_)); rfl; refine owp_store rfl st ?_; apply Exists.intro; apply Exists.intro; refine ⟨?_, ?_, ?_⟩; (focus (go_simp; try rfl)); (focus (go_simp; try rfl)); (first | (with_reducible refine ⟨0, _, _, _, _, get0, rfl, rfl, ?_, ?_, ?_, ?_⟩) | (with_reducible refine ⟨1, _, _, _, _, get1, rfl, rfl, ?_, ?_, ?_, ?_⟩) | (with_reducible refine ⟨2, _, _, _, _, get2, rfl, rfl, ?_, ?_, ?_, ?_⟩) | (with_reducible refine ⟨3, _, _, _, _, get3, rfl, rfl, ?_, ?_, ?_, ?_⟩) | (with_reducible refine ⟨4, _, _, _, _, get4, rfl, rfl, ?_, ?_, ?_, ?_⟩) | (with_reducible refine ⟨5, _, _, _, _, get5, rfl, rfl, ?_, ?_, ?_, ?_⟩)); (kernel_rfl); (simp [Value.cells]); (rfl); (clear st; intro w st))
              | ((with_reducible refine wl_buildSlice ?_ (fun K hK => ?_)); rfl; refine owp_buildSlice (o := ⟨some 18, _, _, _, _, _⟩) rfl st ?_; apply Exists.intro; apply Exists.intro; apply Exists.intro; apply Exists.intro; refine ⟨?_, ?_⟩; (focus (go_simp; (first | done | exact ⟨⟨rfl, rfl⟩, rfl⟩ | rfl))); (clear st; intro b18 w hb st; clear hb))); (try simp only [nsl, Value.cells, unB] at st); (try clear hc); have hc := st.facts; (try simp only [nfl, nft, elI, elF, Nat.reduceAdd] at hc)))
        have st' := st.keep [0, 1] (by decide) (by simp)
        go_roundg (n - (j + 1))
        case measure => omega
        case rel => exact ⟨j + 1, q + 1, _, _, cs ++ [x.c], by omega, by omega, by go_num, rfl, by omega, HS2, Lib.hid (by rw [List.length_append, ← HQ.out]; rfl), by rw [cellsL_append, show cellsL [x.c] = [.int .i64 x.c.k, .string ⟨x.c.h.1.toArray⟩, .string ⟨x.c.h.2.toArray⟩, .string ⟨x.c.w.toArray⟩, .string ⟨x.c.b.1.toArray⟩, .string ⟨x.c.b.2.toArray⟩, .string ⟨x.c.c.1.toArray⟩, .string ⟨x.c.c.2.toArray⟩, .string ⟨x.c.e.toArray⟩] from rfl]; simpa [pick] using st'⟩
    · obtain rfl : n = j := by omega
      have HF : Hid (leafN l = cs) := Lib.hid (by rw [HCS.out, List.take_of_length_le (by have := HN.out; omega)])
      have hfl := rowFl' (α := CredT) st (i := 1) get1
      have hcl : ∀ y ∈ cs, CredL 100000 y := by
        intro y hy
        rw [← HF.out] at hy
        unfold leafN at hy
        obtain ⟨p, hp, rfl⟩ := List.mem_map.1 hy
        exact credR_len (HD.out _ (List.mem_filter.1 hp).1).1
      have HS2 := Lib.hid (refCredSet_c va q vc cs wr hfl.2 (by omega) hcl)
      clear hfl hcl
      go_wp2_with ((first
            | ((with_reducible refine wl_alloc ?_ (fun K hK => ?_)); rfl; refine owp_alloc (o := ⟨some 5, _, _, _, _, _⟩) rfl st ?_; apply Exists.intro; apply Exists.intro; refine ⟨?_, ?_⟩; (focus (first | (go_simp; done) | (go_simp; rfl))); (clear st; intro b5 w hb st; clear hb))
            | ((with_reducible refine wl_store ?_ (fun K hK => ?_)); rfl; refine owp_store rfl st ?_; apply Exists.intro; apply Exists.intro; refine ⟨?_, ?_, ?_⟩; (focus (go_simp; try rfl)); (focus (go_simp; try rfl)); (first | (with_reducible refine ⟨0, _, _, _, _, get0, rfl, rfl, ?_, ?_, ?_, ?_⟩) | (with_reducible refine ⟨1, _, _, _, _, get1, rfl, rfl, ?_, ?_, ?_, ?_⟩) | (with_reducible refine ⟨2, _, _, _, _, get2, rfl, rfl, ?_, ?_, ?_, ?_⟩) | (with_reducible refine ⟨3, _, _, _, _, get3, rfl, rfl, ?_, ?_, ?_, ?_⟩) | (with_reducible refine ⟨4, _, _, _, _, get4, rfl, rfl, ?_, ?_, ?_, ?_⟩) | (with_reducible refine ⟨5, _, _, _, _, get5, rfl, rfl, ?_, ?_, ?_, ?_⟩)); (kernel_rfl); (simp [Value.cells]); (rfl); (clear st; intro w st))
            | ((with_reducible refine wl_buildSlice ?_ (fun K hK => ?_)); rfl; refine owp_buildSlice (o := ⟨some 18, _, _, _, _, _⟩) rfl st ?_; apply Exists.intro; apply Exists.intro; apply Exists.intro; apply Exists.intro; refine ⟨?_, ?_⟩; (focus (go_simp; (first | done | exact ⟨⟨rfl, rfl⟩, rfl⟩ | rfl))); (clear st; intro b18 w hb st; clear hb))); (try simp only [nsl, Value.cells, unB] at st); (try clear hc); have hc := st.facts; (try simp only [nfl, nft, elI, elF, Nat.reduceAdd] at hc))
      refine (HS2.out).mono ?_
      rintro en w' ⟨va2, vc2, rfl, hf⟩
      replace st := st.fresh hf
      clear hf
      simp only [List.cons_append, List.nil_append] at st
      (try simp only [nsl, Value.cells, unB] at st)
      (try clear hc); have hc := st.facts; (try simp only [nfl, nft, elI, elF, Nat.reduceAdd] at hc)
      go_wp2_with ((first
            | ((with_reducible refine wl_alloc ?_ (fun K hK => ?_)); rfl; refine owp_alloc (o := ⟨some 5, _, _, _, _, _⟩) rfl st ?_; apply Exists.intro; apply Exists.intro; refine ⟨?_, ?_⟩; (focus (first | (go_simp; done) | (go_simp; rfl))); (clear st; intro b5 w hb st; clear hb))
            | ((with_reducible refine wl_store ?_ (fun K hK => ?_)); rfl; refine owp_store rfl st ?_; apply Exists.intro; apply Exists.intro; refine ⟨?_, ?_, ?_⟩; (focus (go_simp; try rfl)); (focus (go_simp; try rfl)); (first | (with_reducible refine ⟨0, _, _, _, _, get0, rfl, rfl, ?_, ?_, ?_, ?_⟩) | (with_reducible refine ⟨1, _, _, _, _, get1, rfl, rfl, ?_, ?_, ?_, ?_⟩) | (with_reducible refine ⟨2, _, _, _, _, get2, rfl, rfl, ?_, ?_, ?_, ?_⟩) | (with_reducible refine ⟨3, _, _, _, _, get3, rfl, rfl, ?_, ?_, ?_, ?_⟩) | (with_reducible refine ⟨4, _, _, _, _, get4, rfl, rfl, ?_, ?_, ?_, ?_⟩) | (with_reducible refine ⟨5, _, _, _, _, get5, rfl, rfl, ?_, ?_, ?_, ?_⟩)); (kernel_rfl); (simp [Value.cells]); (rfl); (clear st; intro w st))
            | ((with_reducible refine wl_buildSlice ?_ (fun K hK => ?_)); rfl; refine owp_buildSlice (o := ⟨some 18, _, _, _, _, _⟩) rfl st ?_; apply Exists.intro; apply Exists.intro; apply Exists.intro; apply Exists.intro; refine ⟨?_, ?_⟩; (focus (go_simp; (first | done | exact ⟨⟨rfl, rfl⟩, rfl⟩ | rfl))); (clear st; intro b18 w hb st; clear hb))); (try simp only [nsl, Value.cells, unB] at st); (try clear hc); have hc := st.facts; (try simp only [nfl, nft, elI, elF, Nat.reduceAdd] at hc))
      go_ret
      rw [HF.out]
      exact ⟨_, _, rfl, st.toFresh (i := 2) get2⟩
set_option maxRecDepth 100000 in
set_option maxHeartbeats 8000000 in
theorem refText51_any (a : Option Addr) (n c : Nat) (l : List NodeP) (W : World) (h : Fl W a n l) (hn : n ≤ 100000) (hd : ∀ p ∈ l, NdOk p) (hb : (toldN l).length ≤ 1000000000000) :
    Calls Tryz.prog 10 #[.slice a n c] W fun e w' => e = .returned (S (toldN l)) ∧ Ext W w' := by
  have H := Lib.hid h
  have HN := Lib.hid h.1
  have HD := Lib.hid hd
  have HB := Lib.hid hb
  clear h hd hb
  have st := Own.startOld W
  unfold S
  (try simp only [nsl, Value.cells, unB] at st)
  (try clear hc); have hc := st.facts; (try simp only [nfl, nft, elI, elF, Nat.reduceAdd] at hc)
  go_enter Tryz.func10, Tryz.ntmps10
  go_wp2_with ((first
        | ((with_reducible refine wl_alloc ?_ (fun K hK => ?_)); rfl; refine owp_alloc (o := ⟨some 5, _, _, _, _, _⟩) rfl st ?_; apply Exists.intro; apply Exists.intro; refine ⟨?_, ?_⟩; (focus (first | (go_simp; done) | (go_simp; rfl))); (clear st; intro b5 w hb st; clear hb))
        | ((with_reducible refine wl_store ?_ (fun K hK => ?_)); rfl; refine owp_store rfl st ?_; apply Exists.intro; apply Exists.intro; refine ⟨?_, ?_, ?_⟩; (focus (go_simp; try rfl)); (focus (go_simp; try rfl)); (first | (with_reducible refine ⟨0, _, _, _, _, get0, rfl, rfl, ?_, ?_, ?_, ?_⟩) | (with_reducible refine ⟨1, _, _, _, _, get1, rfl, rfl, ?_, ?_, ?_, ?_⟩) | (with_reducible refine ⟨2, _, _, _, _, get2, rfl, rfl, ?_, ?_, ?_, ?_⟩) | (with_reducible refine ⟨3, _, _, _, _, get3, rfl, rfl, ?_, ?_, ?_, ?_⟩) | (with_reducible refine ⟨4, _, _, _, _, get4, rfl, rfl, ?_, ?_, ?_, ?_⟩) | (with_reducible refine ⟨5, _, _, _, _, get5, rfl, rfl, ?_, ?_, ?_, ?_⟩)); (kernel_rfl); (simp [Value.cells]); (rfl); (clear st; intro w st))); (try simp only [nsl, Value.cells, unB] at st); (try clear hc); have hc := st.facts; (try simp only [nfl, nft, elI, elF, Nat.reduceAdd] at hc))
  go_loopg [3, 9] n (fun k v i wr => ∃ (j : Nat) (t : List UInt8), j ≤ n ∧ k = n - j ∧ i = .int .i64 (j : Int) ∧ v = .string ⟨t.toArray⟩ ∧ Hid (t = toldN (l.take j)) ∧ Own (fun _ => False) (fun _ => True) W [oldI W] wr)
  case atStart => exact ⟨0, [], by omega, by omega, rfl, rfl, Lib.hid (by simp [toldN]), st⟩
  case round =>
    obtain ⟨j, t, hj, rfl, rfl, rfl, HT, st'⟩ := hrel
    clear st hc
    have st := st'
    clear st'
    (try simp only [nsl, Value.cells, unB] at st)
    (try clear hc); have hc := st.facts; (try simp only [nfl, nft, elI, elF, Nat.reduceAdd] at hc)
    by_cases hjn : j < n
    · obtain ⟨b, off, ha, hcell⟩ := H.out.node (by omega)
      have hjl : j < l.length := by have := HN.out; omega
      have hget := List.getElem?_eq_getElem hjl
      have HSN : Hid (t ++ nodeT l[j].1 l[j].2.1 = toldN (l.take (j + 1))) := Lib.hid (by rw [← List.take_append_getElem hjl, toldN_snoc, HT.out])
      have hdo := HD.out _ (List.getElem_mem hjl)
      have hbb := toldN_take l (j + 1)
      generalize l[j] = y at *
      obtain ⟨d, x, lf⟩ := y
      unfold NdOk at hdo
      simp only at HSN hdo
      obtain ⟨hcr, hfl, hd4⟩ := hdo
      have HNT : Hid (nodeT d x = blanks (2 * d) ++ factT x.f ++ [32, 45, 45, 32] ++ credTy x.c ++ [10]) := Lib.hid rfl
      have HF := Lib.hid (fun W => refFact36_any x.f W hfl)
      have HC : Hid (∀ W, Calls Tryz.prog 24 #[cV x.c] W fun e w' => e = .returned (S (credTy x.c)) ∧ Ext W w') := Lib.hid (fun W => by rw [show credTy x.c = credTx x.c from by unfold credTy; rw [if_pos hcr]]; exact refText_r x.c W (credR_len hcr) hcr)
      rw [← HSN.out, List.length_append, HNT.out] at hbb
      simp only [List.length_append, List.length_cons, List.length_nil, blanks_len] at hbb
      have hb3 := HB.out
      obtain ⟨ft, hft⟩ : ∃ v, factT x.f = v := ⟨_, rfl⟩
      obtain ⟨ct, hct⟩ : ∃ v, credTy x.c = v := ⟨_, rfl⟩
      rw [hft] at HF HNT hbb
      rw [hct] at HC HNT hbb
      clear hft hct hfl hcr
      have hlen : t.length + 2 * d + ft.length + ct.length ≤ 1000000000000 := by omega
      clear hb3 hbb
      unfold S fV at HF
      unfold S cV at HC
      obtain ⟨r0, r1, r2, r3, r4, r5, r6, r7, r8, r9, r10, r11, r12, r13⟩ := hcell j d x lf hget
      clear hcell hget
      subst ha
      replace r0 := st.oldCell (i := 0) get0 r0
      replace r1 := st.oldCell (i := 0) get0 r1
      replace r2 := st.oldCell (i := 0) get0 r2
      replace r3 := st.oldCell (i := 0) get0 r3
      replace r4 := st.oldCell (i := 0) get0 r4
      replace r5 := st.oldCell (i := 0) get0 r5
      replace r6 := st.oldCell (i := 0) get0 r6
      replace r7 := st.oldCell (i := 0) get0 r7
      replace r8 := st.oldCell (i := 0) get0 r8
      replace r9 := st.oldCell (i := 0) get0 r9
      replace r10 := st.oldCell (i := 0) get0 r10
      replace r11 := st.oldCell (i := 0) get0 r11
      replace r12 := st.oldCell (i := 0) get0 r12
      replace r13 := st.oldCell (i := 0) get0 r13
      unfold S at r2 r3 r4 r5 r6 r7 r8 r9 r10 r11 r12
      go_wp2_with ((first
            | ((with_reducible refine wl_alloc ?_ (fun K hK => ?_)); rfl; refine owp_alloc (o := ⟨some 5, _, _, _, _, _⟩) rfl st ?_; apply Exists.intro; apply Exists.intro; refine ⟨?_, ?_⟩; (focus (first | (go_simp; done) | (go_simp; rfl))); (clear st; intro b5 w hb st; clear hb))
            | ((with_reducible refine wl_store ?_ (fun K hK => ?_)); rfl; refine owp_store rfl st ?_; apply Exists.intro; apply Exists.intro; refine ⟨?_, ?_, ?_⟩; (focus (go_simp; try rfl)); (focus (go_simp; try rfl)); (first | (with_reducible refine ⟨0, _, _, _, _, get0, rfl, rfl, ?_, ?_, ?_, ?_⟩) | (with_reducible refine ⟨1, _, _, _, _, get1, rfl, rfl, ?_, ?_, ?_, ?_⟩) | (with_reducible refine ⟨2, _, _, _, _, get2, rfl, rfl, ?_, ?_, ?_, ?_⟩) | (with_reducible refine ⟨3, _, _, _, _, get3, rfl, rfl, ?_, ?_, ?_, ?_⟩) | (with_reducible refine ⟨4, _, _, _, _, get4, rfl, rfl, ?_, ?_, ?_, ?_⟩) | (with_reducible refine ⟨5, _, _, _, _, get5, rfl, rfl, ?_, ?_, ?_, ?_⟩)); (kernel_rfl); (simp [Value.cells]); (rfl); (clear st; intro w st))); (try simp only [nsl, Value.cells, unB] at st); (try clear hc); have hc := st.facts; (try simp only [nfl, nft, elI, elF, Nat.reduceAdd] at hc))
      clear r0 r1 r2 r3 r4 r5 r6 r7 r8 r9 r10 r11 r12 r13
      go_loopg [3, 6] d (fun k v i wr => ∃ (e : Nat), e ≤ d ∧ k = d - e ∧ i = .int .i64 (e : Int) ∧ v = .string ⟨(t ++ blanks (2 * e)).toArray⟩ ∧ Own (fun _ => False) (fun _ => True) W [oldI W, blkI b5 [.int .i64 (d : Int), .int .i64 x.c.k, .string ⟨x.c.h.1.toArray⟩, .string ⟨x.c.h.2.toArray⟩, .string ⟨x.c.w.toArray⟩, .string ⟨x.c.b.1.toArray⟩, .string ⟨x.c.b.2.toArray⟩, .string ⟨x.c.c.1.toArray⟩, .string ⟨x.c.c.2.toArray⟩, .string ⟨x.c.e.toArray⟩, .string ⟨x.f.r.1.toArray⟩, .string ⟨x.f.r.2.toArray⟩, .string ⟨x.f.w.toArray⟩, .bool lf]] wr)
      case atStart => exact ⟨0, by omega, by omega, rfl, by simp [blanks], st⟩
      case round =>
        obtain ⟨e, he, rfl, rfl, rfl, st'⟩ := hrel
        clear st hc
        have st := st'
        clear st'
        have HBL := Lib.hid (blanks_2 e)
        have HBN := Lib.hid (blanks_len (2 * e))
        by_cases hed : e < d
        · obtain ⟨t1, ht1⟩ : ∃ v, t ++ blanks (2 * e) = v := ⟨_, rfl⟩
          have HT1 : Hid (t ++ blanks (2 * (e + 1)) = t1 ++ [32, 32]) := Lib.hid (by rw [HBL.out, ← List.append_assoc, ht1])
          have ht1l : t1.length ≤ 1000000000000 := by rw [← ht1, List.length_append, HBN.out]; omega
          rw [ht1]
          clear ht1
          (try simp only [nsl, Value.cells, unB] at st)
          (try clear hc); have hc := st.facts; (try simp only [nfl, nft, elI, elF, Nat.reduceAdd] at hc)
          go_wp2_with ((first
                | ((with_reducible refine wl_alloc ?_ (fun K hK => ?_)); rfl; refine owp_alloc (o := ⟨some 5, _, _, _, _, _⟩) rfl st ?_; apply Exists.intro; apply Exists.intro; refine ⟨?_, ?_⟩; (focus (first | (go_simp; done) | (go_simp; rfl))); (clear st; intro b5 w hb st; clear hb))
                | ((with_reducible refine wl_store ?_ (fun K hK => ?_)); rfl; refine owp_store rfl st ?_; apply Exists.intro; apply Exists.intro; refine ⟨?_, ?_, ?_⟩; (focus (go_simp; try rfl)); (focus (go_simp; try rfl)); (first | (with_reducible refine ⟨0, _, _, _, _, get0, rfl, rfl, ?_, ?_, ?_, ?_⟩) | (with_reducible refine ⟨1, _, _, _, _, get1, rfl, rfl, ?_, ?_, ?_, ?_⟩) | (with_reducible refine ⟨2, _, _, _, _, get2, rfl, rfl, ?_, ?_, ?_, ?_⟩) | (with_reducible refine ⟨3, _, _, _, _, get3, rfl, rfl, ?_, ?_, ?_, ?_⟩) | (with_reducible refine ⟨4, _, _, _, _, get4, rfl, rfl, ?_, ?_, ?_, ?_⟩) | (with_reducible refine ⟨5, _, _, _, _, get5, rfl, rfl, ?_, ?_, ?_, ?_⟩)); (kernel_rfl); (simp [Value.cells]); (rfl); (clear st; intro w st))); (try simp only [nsl, Value.cells, unB] at st); (try clear hc); have hc := st.facts; (try simp only [nfl, nft, elI, elF, Nat.reduceAdd] at hc))
          go_roundg (d - (e + 1))
          case measure => omega
          case rel => exact ⟨e + 1, by omega, by omega, by go_num, by rw [HT1.out]; simp [ba_append], st⟩
        · obtain rfl : d = e := by omega
          have HNX : Hid (t ++ nodeT d x = (t ++ blanks (2 * d)) ++ (ft ++ [32, 45, 45, 32] ++ ct ++ [10])) := Lib.hid (by rw [HNT.out]; simp)
          obtain ⟨t1, ht1⟩ : ∃ v, t ++ blanks (2 * d) = v := ⟨_, rfl⟩
          have ht1l : t1.length + ft.length + ct.length ≤ 1000000000000 := by rw [← ht1, List.length_append, HBN.out]; omega
          rw [ht1] at HNX ⊢
          clear ht1
          (try simp only [nsl, Value.cells, unB] at st)
          (try clear hc); have hc := st.facts; (try simp only [nfl, nft, elI, elF, Nat.reduceAdd] at hc)
          go_wp2_with ((first
                | ((with_reducible refine wl_alloc ?_ (fun K hK => ?_)); rfl; refine owp_alloc (o := ⟨some 5, _, _, _, _, _⟩) rfl st ?_; apply Exists.intro; apply Exists.intro; refine ⟨?_, ?_⟩; (focus (first | (go_simp; done) | (go_simp; rfl))); (clear st; intro b5 w hb st; clear hb))
                | ((with_reducible refine wl_store ?_ (fun K hK => ?_)); rfl; refine owp_store rfl st ?_; apply Exists.intro; apply Exists.intro; refine ⟨?_, ?_, ?_⟩; (focus (go_simp; try rfl)); (focus (go_simp; try rfl)); (first | (with_reducible refine ⟨0, _, _, _, _, get0, rfl, rfl, ?_, ?_, ?_, ?_⟩) | (with_reducible refine ⟨1, _, _, _, _, get1, rfl, rfl, ?_, ?_, ?_, ?_⟩) | (with_reducible refine ⟨2, _, _, _, _, get2, rfl, rfl, ?_, ?_, ?_, ?_⟩) | (with_reducible refine ⟨3, _, _, _, _, get3, rfl, rfl, ?_, ?_, ?_, ?_⟩) | (with_reducible refine ⟨4, _, _, _, _, get4, rfl, rfl, ?_, ?_, ?_, ?_⟩) | (with_reducible refine ⟨5, _, _, _, _, get5, rfl, rfl, ?_, ?_, ?_, ?_⟩)); (kernel_rfl); (simp [Value.cells]); (rfl); (clear st; intro w st))); (try simp only [nsl, Value.cells, unB] at st); (try clear hc); have hc := st.facts; (try simp only [nfl, nft, elI, elF, Nat.reduceAdd] at hc))
          refine Rg4.wp_region4 (Rel := Ext) #[0, 0, 2, 6, 14, 30, 0, 64, 192, 478, 1022, 2046, 4095, 8191]
            [(4, .val (.string ⟨ft.toArray⟩)), (9, .val (.string ⟨ct.toArray⟩))] [] [3, 8] (fun _ => True) [0, 1, 2, 3, 4, 5, 6, 7, 8, 9, 10, 11, 12, 13] (by kernel_rfl) (by kernel_rfl) (by kernel_rfl) (by kernel_rfl) Ext.refl (fun _ _ _ => Ext.trans) (show Rg4.PB _ by repeat (first | with_reducible exact Rg4.pb_body | with_reducible exact Rg4.pb_bodyD rfl | with_reducible refine Rg4.pb_then ?_ | with_reducible refine Rg4.pb_inBlock ?_ | with_reducible refine Rg4.pb_noGoto ?_ | with_reducible assumption)) (trivial) ?_
          replace st := st.drew
          change Rg4.wp4 _ _ _ _ _ _ _ _ _ (World.drew _) _ _
          generalize World.drew _ = w at st ⊢
          (try clear hc); have hc := st.facts; (try simp only [nfl, nft, elI, elF, Nat.reduceAdd] at hc)
          iterate 3 (refine Rg4.w4_any (Rg4.want_none rfl) rfl ?_; apply Exists.intro; refine ⟨fun w' => ?_, ?_⟩; (focus (first | (go_simp; done) | (go_simp; first | rfl | (rw [if_neg] <;> first | rfl | omega) | (rw [if_pos] <;> first | rfl | omega)))); (try simp only [Rg4.nrm]))
          (refine Rg4.w4_read (Rg4.want_none rfl) rfl rfl ?_; apply Exists.intro; refine ⟨fun w' hw' hcl' => ?_, ?_⟩; focus (have st' := st.ext hw'; have hc' := st'.facts; (try simp only [nfl, nft, elI, elF, Nat.reduceAdd] at hc'); (focus (first | (go_simp; done) | (go_simp; first | rfl | (rw [if_neg] <;> first | rfl | omega) | (rw [if_pos] <;> first | rfl | omega))))); (try simp only [Rg4.nrm]))
          refine Rg4.w4_some (Rg4.want_none rfl) rfl (fun w' hw' hcl' _ => ?_) ?_
          · refine Rg.relAt_call (by go_simp; exact ⟨rfl, rfl⟩) ?_
            refine (HF.out _).mono ?_
            rintro en w'' ⟨rfl, hx⟩
            exact ⟨_, rfl, hx, trivial, rfl⟩
          rintro v ⟨_, _, _, rfl⟩
          (try simp only [Rg4.nrm])
          iterate 3 (refine Rg4.w4_any (Rg4.want_none rfl) rfl ?_; apply Exists.intro; refine ⟨fun w' => ?_, ?_⟩; (focus (first | (go_simp; done) | (go_simp; first | rfl | (rw [if_neg] <;> first | rfl | omega) | (rw [if_pos] <;> first | rfl | omega)))); (try simp only [Rg4.nrm]))
          (refine Rg4.w4_read (Rg4.want_none rfl) rfl rfl ?_; apply Exists.intro; refine ⟨fun w' hw' hcl' => ?_, ?_⟩; focus (have st' := st.ext hw'; have hc' := st'.facts; (try simp only [nfl, nft, elI, elF, Nat.reduceAdd] at hc'); (focus (first | (go_simp; done) | (go_simp; first | rfl | (rw [if_neg] <;> first | rfl | omega) | (rw [if_pos] <;> first | rfl | omega))))); (try simp only [Rg4.nrm]))
          refine Rg4.w4_some (Rg4.want_none rfl) rfl (fun w' hw' hcl' _ => ?_) ?_
          · refine Rg.relAt_call (by go_simp; exact ⟨rfl, rfl⟩) ?_
            refine (HC.out _).mono ?_
            rintro en w'' ⟨rfl, hx⟩
            exact ⟨_, rfl, hx, trivial, rfl⟩
          rintro v ⟨_, _, _, rfl⟩
          (try simp only [Rg4.nrm])
          iterate 4 (refine Rg4.w4_any (Rg4.want_none rfl) rfl ?_; apply Exists.intro; refine ⟨fun w' => ?_, ?_⟩; (focus (first | (go_simp; done) | (go_simp; first | rfl | (rw [if_neg] <;> first | rfl | omega) | (rw [if_pos] <;> first | rfl | omega)))); (try simp only [Rg4.nrm]))
          refine Rg4.w4_nil (fun w' hw' hcl' _ => ?_); replace st := st.ext hw'; clear hw' hcl'; (try clear hc); have hc := st.facts; (try simp only [nfl, nft, elI, elF, Nat.reduceAdd] at hc)
          go_wp2_with ((first
                | ((with_reducible refine wl_alloc ?_ (fun K hK => ?_)); rfl; refine owp_alloc (o := ⟨some 5, _, _, _, _, _⟩) rfl st ?_; apply Exists.intro; apply Exists.intro; refine ⟨?_, ?_⟩; (focus (first | (go_simp; done) | (go_simp; rfl))); (clear st; intro b5 w hb st; clear hb))
                | ((with_reducible refine wl_store ?_ (fun K hK => ?_)); rfl; refine owp_store rfl st ?_; apply Exists.intro; apply Exists.intro; refine ⟨?_, ?_, ?_⟩; (focus (go_simp; try rfl)); (focus (go_simp; try rfl)); (first | (with_reducible refine ⟨0, _, _, _, _, get0, rfl, rfl, ?_, ?_, ?_, ?_⟩) | (with_reducible refine ⟨1, _, _, _, _, get1, rfl, rfl, ?_, ?_, ?_, ?_⟩) | (with_reducible refine ⟨2, _, _, _, _, get2, rfl, rfl, ?_, ?_, ?_, ?_⟩) | (with_reducible refine ⟨3, _, _, _, _, get3, rfl, rfl, ?_, ?_, ?_, ?_⟩) | (with_reducible refine ⟨4, _, _, _, _, get4, rfl, rfl, ?_, ?_, ?_, ?_⟩) | (with_reducible refine ⟨5, _, _, _, _, get5, rfl, rfl, ?_, ?_, ?_, ?_⟩)); (kernel_rfl); (simp [Value.cells]); (rfl); (clear st; intro w st))); (try simp only [nsl, Value.cells, unB] at st); (try clear hc); have hc := st.facts; (try simp only [nfl, nft, elI, elF, Nat.reduceAdd] at hc))
          have st' := st.keep [0] (by decide) (by simp)
          go_roundg (n - (j + 1))
          case measure => omega
          case rel => exact ⟨j + 1, t ++ nodeT d x, by omega, by omega, by go_num, by rw [HNX.out]; simp [ba_append], HSN.out, by simpa [pick] using st'⟩
    · obtain rfl : n = j := by omega
      have HF : Hid (toldN l = t) := Lib.hid (by rw [HT.out, List.take_of_length_le (by have := HN.out; omega)])
      go_wp2_with ((first
            | ((with_reducible refine wl_alloc ?_ (fun K hK => ?_)); rfl; refine owp_alloc (o := ⟨some 5, _, _, _, _, _⟩) rfl st ?_; apply Exists.intro; apply Exists.intro; refine ⟨?_, ?_⟩; (focus (first | (go_simp; done) | (go_simp; rfl))); (clear st; intro b5 w hb st; clear hb))
            | ((with_reducible refine wl_store ?_ (fun K hK => ?_)); rfl; refine owp_store rfl st ?_; apply Exists.intro; apply Exists.intro; refine ⟨?_, ?_, ?_⟩; (focus (go_simp; try rfl)); (focus (go_simp; try rfl)); (first | (with_reducible refine ⟨0, _, _, _, _, get0, rfl, rfl, ?_, ?_, ?_, ?_⟩) | (with_reducible refine ⟨1, _, _, _, _, get1, rfl, rfl, ?_, ?_, ?_, ?_⟩) | (with_reducible refine ⟨2, _, _, _, _, get2, rfl, rfl, ?_, ?_, ?_, ?_⟩) | (with_reducible refine ⟨3, _, _, _, _, get3, rfl, rfl, ?_, ?_, ?_, ?_⟩) | (with_reducible refine ⟨4, _, _, _, _, get4, rfl, rfl, ?_, ?_, ?_, ?_⟩) | (with_reducible refine ⟨5, _, _, _, _, get5, rfl, rfl, ?_, ?_, ?_, ?_⟩)); (kernel_rfl); (simp [Value.cells]); (rfl); (clear st; intro w st))); (try simp only [nsl, Value.cells, unB] at st); (try clear hc); have hc := st.facts; (try simp only [nfl, nft, elI, elF, Nat.reduceAdd] at hc))
      go_ret
      exact ⟨by rw [HF.out]; rfl, st.ext0⟩
end Go.Proofs.YtdfdnedcaodmkaaGreat

namespace Go.Proofs.YtdfdnedcaodmkaaGreat
set_option linter.unusedSimpArgs false
set_option linter.unusedVariables false
open Go Go.RowKit
section
variable {fr al : Nat → Prop} {w0 w w' : World} {L : List It} {P : Program} {o : Oper} {a : Act} {K : Act → World → Prop} {Q : Exit → Act → World → Prop}
theorem wl_makeMap {ops : Array Oper} {rest : List Oper} {d : Option Tmp} {T : TypeId} {ty : TypeId} {pos : String} {af : Array Edge} {gd : Option (Nat × Bool)} (hg : Region.wanted ⟨d, .makeMap T none, ty, pos, af, gd⟩ (yielded ops a.tmps) = true)
    (h : ∀ K : Act → World → Prop, (∀ a w, wpList P ops Q rest a w → K a w) → Oper.wp P ⟨d, .makeMap T none, ty, pos, af, gd⟩ a w K Q) : wpList P ops Q (⟨d, .makeMap T none, ty, pos, af, gd⟩ :: rest) a w := wpl_at hg h
end
end Go.Proofs.YtdfdnedcaodmkaaGreat

namespace Go.Proofs.YtdfdnedcaodmkaaGreat
set_option linter.unusedSimpArgs false
set_option linter.unusedVariables false
open Go Go.RowKit
section
variable {κ : Type} [DecidableEq κ]
/-- What lies at a key. -/
def gGet (es : List (κ × Value)) (k : κ) : Option Value := (es.find? fun p => decide (k = p.1)).map (·.2)
/-- How keys lie, and that they are found. -/
structure Kc (P : Program) (κ : Type) [DecidableEq κ] where
  kt : TypeId
  enc : κ → Value
  find : ∀ (k : κ) (l : List MapEntry) (es : List (κ × Value)) (w : World), l.map (fun m => (m.key, m.val)) = es.map (fun p => (enc p.1, p.2)) → ∃ r, (Instr.findKey kt (enc k) l).run P w = .ok r w ∧ r.map (·.2) = gGet es k
  check : ∀ e k w, (Instr.checkKey e 10000 kt (enc k)).run P w = .ok () w
def mapG {P : Program} (c : Kc P κ) (b : Nat) (es : List (κ × Value)) : It where
  P e _ w := e b ∧ ∃ (arr : Array MapEntry) (clock : Nat), w.heap[b]? = some (.map arr clock) ∧ (arr.toList.map (fun m => (m.key, m.val)) = es.map fun p => (c.enc p.1, p.2)) ∧ (∀ x ∈ arr.toList, x.born < clock) ∧ (arr.toList.map fun m : MapEntry => m.born).Nodup
  st := fun ⟨h1, arr, clock, h2, h3⟩ hag => ⟨h1, arr, clock, by rw [hag b (.inl h1)]; exact h2, h3⟩
  facts _ := True
  ok := fun _ => trivial
/-- Keys that are asked one by one. -/
theorem find_ask {P : Program} {kt : TypeId} {d : TypeDesc} {enc : κ → Value} (hk : P.underlying kt = some d) (hs : ∀ a b, Instr.sameNow d (enc a) (enc b) = none) (he : ∀ a b w, (Op.equal kt (enc a) (enc b)).run P w = .ok (decide (a = b)) w) (k : κ) (l : List MapEntry) (es : List (κ × Value)) (w : World) (h : l.map (fun m => (m.key, m.val)) = es.map (fun p => (enc p.1, p.2))) :
    ∃ r, (Instr.findKey kt (enc k) l).run P w = .ok r w ∧ r.map (·.2) = gGet es k := by
  have key : ∀ (l : List MapEntry) (es : List (κ × Value)) (i : Nat), l.map (fun m => (m.key, m.val)) = es.map (fun p => (enc p.1, p.2)) → ∃ r, (Instr.findAsking kt (enc k) l i).run P w = .ok r w ∧ r.map (·.2) = gGet es k := by
    intro l
    induction l with
    | nil =>
      intro es i h
      cases es with
      | nil => exact ⟨none, rfl, rfl⟩
      | cons p es => simp at h
    | cons m l ih =>
      intro es i h
      cases es with
      | nil => simp at h
      | cons p es =>
        simp only [List.map_cons, List.cons.injEq, Prod.mk.injEq] at h
        obtain ⟨⟨h1, h2⟩, h3⟩ := h
        by_cases e : k = p.1
        · refine ⟨some (i, m.val), ?_, by simp [gGet, List.find?_cons, e, h2]⟩
          simp [Instr.findAsking, Sem.run_bind, h1, he, Result.andThen, e]
        · obtain ⟨r, q1, q2⟩ := ih es (i + 1) h3
          refine ⟨r, ?_, by rw [q2]; simp [gGet, List.find?_cons, e]⟩
          simp [Instr.findAsking, Sem.run_bind, h1, he, Result.andThen, e, q1]
  cases l with
  | nil =>
    cases es with
    | nil => exact ⟨none, by simp [Instr.findKey, run_underlying hk, Result.andThen, Instr.findNow], rfl⟩
    | cons p es => simp at h
  | cons m l =>
    obtain ⟨r, q1, q2⟩ := key (m :: l) es 0 h
    refine ⟨r, ?_, q2⟩
    cases es with
    | nil => simp at h
    | cons p es =>
      have h1 : m.key = enc p.1 := by simp only [List.map_cons, List.cons.injEq, Prod.mk.injEq] at h; exact h.1.1
      simp [Instr.findKey, run_underlying hk, Result.andThen, Instr.findNow, h1, hs, q1]
variable {fr al : Nat → Prop} {w0 w w' : World} {L : List It} {P : Program} {o : Oper} {a : Act} {K : Act → World → Prop} {Q : Exit → Act → World → Prop}
theorem owp_makeMapG (c : Kc P κ) {t : TypeId} (ho : o.op = .makeMap t none) (st : Own fr al w0 L w) (h : ∀ b w', w.heap.size ≤ b → Own fr al w0 (L ++ [mapG c b []]) w' → K (a.put o.dst (.map (some b))) w') : o.wp P a w K Q := by
  refine owp_run (v := .map (some w.heap.size)) (w' := w.alloc (.map #[] 0)) ?_ (h _ _ (Nat.le_refl _) ?_)
  · unfold execOp
    simp only [ho]
    rfl
  · refine st.new (I := mapG c w.heap.size []) (e' := fun k => k = w.heap.size) (s' := fun _ => False) (Ext.new w _) ⟨rfl, #[], 0, by show (w.heap.push _)[_]? = _; simp, rfl, by simp, by simp⟩ ?_ (fun _ q => q.elim) (fun _ _ q => q)
    rintro b rfl
    exact ⟨by show _ < (w.heap.push _).size; simp, Nat.le_refl _⟩
/-- A look-up. -/
theorem Own.lookG {c : Kc P κ} (st : Own fr al w0 L w) {i b : Nat} {es : List (κ × Value)} (hi : L[i]? = some (mapG c b es)) {mty et : TypeId} {z : Value} (hm : P.underlying mty = some (.map c.kt et)) (hz : (zeroValue et).run P w = .ok z w) (k : κ) :
    (Instr.lookup mty (.map (some b)) (c.enc k) false).run P w = .ok ((gGet es k).getD z) w ∧ (Instr.lookup mty (.map (some b)) (c.enc k) true).run P w = .ok (.tuple #[(gGet es k).getD z, .bool (gGet es k).isSome]) w := by
  obtain ⟨e, s, ⟨_, arr, clock, h2, h3, h4, h5⟩, _⟩ := st.get hi
  obtain ⟨r, q1, q2⟩ := c.find k arr.toList es w h3
  have hc := fun e => c.check e k w
  rw [← q2]
  cases r with
  | none => constructor <;> simp [Instr.lookup, run_underlying hm, MapKept.run_getObj_map h2, hc, q1, hz, Result.andThen]
  | some p => constructor <;> simp [Instr.lookup, run_underlying hm, MapKept.run_getObj_map h2, hc, q1, Result.andThen]
/-- A new key is stored. -/
theorem owp_mapNewG {c : Kc P κ} {t : TypeId} {x y z : Operand} (ho : o.op = .mapUpdate t x y z) (st : Own fr al w0 L w) (i : Nat) {b : Nat} {es : List (κ × Value)} {et : TypeId} (k : κ) {v : Value} (hi : L[i]? = some (mapG c b es)) (hm : P.underlying t = some (.map c.kt et))
    (hx : a.eval x = .map (some b)) (hy : a.eval y = c.enc k) (hz : a.eval z = v) (hn : gGet es k = none)
    (h : ∀ w', Own fr al w0 (L.set i (mapG c b (es ++ [(k, v)]))) w' → K (a.put o.dst undef) w') : o.wp P a w K Q := by
  obtain ⟨e, s, ⟨_, arr, clock, h2, h3, h4, h5⟩, _⟩ := st.get hi
  obtain ⟨r, q1, q2⟩ := c.find k arr.toList es w h3
  have hr : r = none := by
    rw [hn] at q2
    cases r with
    | none => rfl
    | some p => cases q2
  subst hr
  have hc := c.check false k w
  have hrun : (Instr.mapUpdate t (.map (some b)) (c.enc k) v).run P w = .ok () { w with heap := w.heap.setIfInBounds b (.map (arr.push { key := c.enc k, val := v, born := clock }) (clock + 1)) } := by
    simp [Instr.mapUpdate, run_underlying hm, MapKept.run_getObj_map h2, hc, q1, MapKept.run_setObj_map _ h2, Result.andThen]
  have hbl : b < w.heap.size := (Array.getElem?_eq_some_iff.1 h2).1
  unfold Oper.wp execOp
  simp only [ho, hx, hy, hz, Sem.run_bind, hrun, Result.andThen, Sem.run_pure]
  refine h _ (st.upd hi fun e s ⟨q1, arr', clock', q2, q3⟩ q4 q5 => ⟨e, s, ⟨q1, arr.push { key := c.enc k, val := v, born := clock }, clock + 1, by simp [hbl], ?_, ?_, ?_⟩, fun q hq => ⟨by simpa using q4 q (.inl hq), .inl hq⟩, fun q hq => ⟨by simpa using q4 q (.inr hq), .inr (.inl hq)⟩, q5, ?_⟩)
  · simp only [Array.toList_push, List.map_append, h3, List.map_cons, List.map_nil]
  · intro x hx
    rw [Array.toList_push] at hx
    rcases List.mem_append.1 hx with q | q
    · have := h4 x q; omega
    · rw [List.mem_singleton.1 q]; exact Nat.lt_succ_self _
  · rw [Array.toList_push, List.map_append, List.nodup_append]
    refine ⟨h5, by simp, fun a ha b' hb' e' => ?_⟩
    obtain ⟨x, hx, rfl⟩ := List.mem_map.1 ha
    have := h4 x hx
    simp at hb'
    omega
  · refine ⟨rfl, rfl, rfl, by simp, Nat.le_refl _, fun j hj hne => ?_⟩
    have : b ≠ j := fun q => hne (q ▸ q1)
    simp [Array.getElem?_setIfInBounds_ne this]
end
end Go.Proofs.YtdfdnedcaodmkaaGreat

namespace Go.Proofs.YtdfdnedcaodmkaaGreat
set_option linter.unusedSimpArgs false
set_option linter.unusedVariables false
open Go Go.RowKit
def zS : StepT := ⟨zC, ⟨([], []), []⟩⟩
theorem stepInfo : ∃ i, Tryz.prog.info? 32 = some i ∧ i.zero = some (stV zS) ∧ i.size = 12 ∧ i.bytes = 184 := info_parts (by kernel_rfl)
@[go_sem] theorem eqNilStep (a : Option Addr) (n c : Nat) (w : World) : (binOp .eql 22 (.slice a n c) (.slice none 0 0)).run Tryz.prog w = .ok (.bool a.isNone) w := by
  have h := run_equal_slice_nil w _ _ a n c Tryz.underlying22
  simp only [binOp]
  simp [h]
section
variable {fr al : Nat → Prop} {w0 w : World} {L : List It} {P : Program} {o : Oper} {a : Act} {K : Act → World → Prop} {Q : Exit → Act → World → Prop}
end
section
variable {fr al : Nat → Prop} {w0 w : World}
end
end Go.Proofs.YtdfdnedcaodmkaaGreat

namespace Go.Proofs.YtdfdnedcaodmkaaGreat
set_option linter.unusedSimpArgs false
set_option linter.unusedVariables false
open Go Go.RowKit
mutual
def To.flat : To → List FactT → List StepT × List FactT
  | .mk s kids, had => if s.f ∈ (flatL kids had).2 then flatL kids had else ((flatL kids had).1 ++ [s], (flatL kids had).2 ++ [s.f])
def flatL : List To → List FactT → List StepT × List FactT
  | [], had => ([], had)
  | x :: l, had => ((x.flat had).1 ++ (flatL l (x.flat had).2).1, (flatL l (x.flat had).2).2)
end
theorem flatL_snoc : ∀ (l : List To) (x : To) (had : List FactT), flatL (l ++ [x]) had = ((flatL l had).1 ++ (x.flat (flatL l had).2).1, (x.flat (flatL l had).2).2)
  | [], x, had => by simp [flatL]
  | y :: l, x, had => by rw [List.cons_append, flatL, flatL_snoc l x, flatL]; simp
theorem flat_size (t : To) : ∀ had, (t.flat had).1.length ≤ t.size := by
  refine To.ind (P := fun t => ∀ had, (t.flat had).1.length ≤ t.size) (fun s kids ih had => ?_) t
  have key : ∀ (l : List To), (∀ x ∈ l, ∀ had, (x.flat had).1.length ≤ x.size) → ∀ had, (flatL l had).1.length ≤ sizeL l := by
    intro l
    induction l with
    | nil => intro _ had; simp [flatL]
    | cons x l ihl =>
      intro h had
      have h1 := h x (by simp) had
      have h2 := ihl (fun y hy => h y (by simp [hy])) (x.flat had).2
      rw [flatL, sizeL]
      simp only [List.length_append]
      omega
  have := key kids ih had
  rw [To.flat, To.size]
  split
  · omega
  · simp only [List.length_append, List.length_cons, List.length_nil]; omega
theorem flatL_size (l : List To) (had : List FactT) : (flatL l had).1.length ≤ sizeL l := by
  induction l generalizing had with
  | nil => simp [flatL]
  | cons x l ihl =>
    have h1 := flat_size x had
    have h2 := ihl (x.flat had).2
    rw [flatL, sizeL]
    simp only [List.length_append]
    omega
theorem checkFact (e : Bool) (y : FactT) (w : World) : (Instr.checkKey e 10000 30 (fV y)).run Tryz.prog w = .ok () w := by
  obtain ⟨⟨o, d⟩, v⟩ := y
  unfold fV S
  kernel_rfl
def kcF : Kc Tryz.prog FactT where
  kt := 30
  enc := fV
  find := find_ask Tryz.underlying30 (fun a b => rfl) (fun a b w => by
    obtain ⟨⟨o, d⟩, v⟩ := a
    obtain ⟨⟨o', d'⟩, v'⟩ := b
    show (Op.equalIn 10000 30 (.agg #[.string ⟨o.toArray⟩, .string ⟨d.toArray⟩, .string ⟨v.toArray⟩]) (.agg #[.string ⟨o'.toArray⟩, .string ⟨d'.toArray⟩, .string ⟨v'.toArray⟩])).run Tryz.prog w = _
    rw [eqFact, factEq_eq])
  check := checkFact
theorem zeroBoolF (w : World) : (zeroValue 4).run Tryz.prog w = .ok (.bool false) w := by kernel_rfl
theorem underHad : Tryz.prog.underlying 70 = some (.map kcF.kt 4) := Tryz.underlying70
/-- The facts that were told. -/
def hadE (had : List FactT) : List (FactT × Value) := had.map fun f => (f, .bool true)
theorem hadE_get (had : List FactT) (y : FactT) : gGet (hadE had) y = if y ∈ had then some (.bool true) else none := by
  unfold gGet hadE
  induction had with
  | nil => rfl
  | cons x l ih =>
    rw [List.map_cons, List.find?_cons]
    by_cases e : y = x
    · subst e; simp
    · rw [decide_eq_false e]
      rw [show (if y ∈ x :: l then some (Value.bool true) else none) = if y ∈ l then some (Value.bool true) else none from by simp [e]]
      exact ih
theorem hadE_snoc (had : List FactT) (y : FactT) : hadE had ++ [(y, .bool true)] = hadE (had ++ [y]) := by unfold hadE; rw [List.map_append]; rfl
section
variable {fr al : Nat → Prop} {w0 w : World} {L : List It}
theorem Own.lookHad (st : Own fr al w0 L w) {i b : Nat} {had : List FactT} (hi : L[i]? = some (mapG kcF b (hadE had))) (o d v : List UInt8) : (Instr.lookup 70 (.map (some b)) (.agg #[.string ⟨o.toArray⟩, .string ⟨d.toArray⟩, .string ⟨v.toArray⟩]) false).run Tryz.prog w = .ok (.bool (decide ((⟨(o, d), v⟩ : FactT) ∈ had))) w := by
  have := (st.lookG hi underHad (zeroBoolF w) ⟨(o, d), v⟩).1
  rw [hadE_get] at this
  by_cases h : (⟨(o, d), v⟩ : FactT) ∈ had
  · rw [if_pos h] at this
    rw [decide_eq_true h]
    exact this
  · rw [if_neg h] at this
    rw [decide_eq_false h]
    exact this
end
theorem wl_mapUpdate {P : Program} {Q : Exit → Act → World → Prop} {a : Act} {w : World} {ops : Array Oper} {rest : List Oper} {d : Option Tmp} {T : TypeId} {x y z : Operand} {ty : TypeId} {pos : String} {af : Array Edge} {gd : Option (Nat × Bool)} (hg : Region.wanted ⟨d, .mapUpdate T x y z, ty, pos, af, gd⟩ (yielded ops a.tmps) = true)
    (h : ∀ K : Act → World → Prop, (∀ a w, wpList P ops Q rest a w → K a w) → Oper.wp P ⟨d, .mapUpdate T x y z, ty, pos, af, gd⟩ a w K Q) : wpList P ops Q (⟨d, .mapUpdate T x y z, ty, pos, af, gd⟩ :: rest) a w := wpl_at hg h
def FtGot (fr al : Nat → Prop) (w0 W : World) (mb : Nat) (p : List StepT × List FactT) (e : Ending) (w' : World) : Prop := ∃ va vc, e = .returned (.slice va p.1.length vc) ∧ Own fr al w0 [oldI W, mapG kcF mb (hadE p.2), rowI 32 12 (.slice va p.1.length vc) p.1.length (cellsL p.1)] w'
theorem ftGot {fr al : Nat → Prop} {w0 W w : World} {mb : Nat} {p : List StepT × List FactT} {had : List FactT} {va : Option Addr} {n vc : Nat} {l : List StepT} (h1 : p = (l, had)) (hn : n = l.length) (st : Own fr al w0 [oldI W, mapG kcF mb (hadE had), rowI 32 12 (.slice va n vc) n (cellsL l)] w) : FtGot fr al w0 W mb p (.returned (.slice va n vc)) w := by
  subst h1 hn
  exact ⟨va, vc, rfl, st⟩
set_option maxRecDepth 100000 in
set_option maxHeartbeats 8000000 in
theorem flat_c (t : Tr) : ∀ (W : World) (fr al : Nat → Prop) (w0 w : World) (mb : Nat) (had : List FactT), TrOk W t → t.strip.size ≤ 100000 → Own fr al w0 [oldI W, mapG kcF mb (hadE had)] w → Calls Tryz.prog 27 #[trV t, .map (some mb)] w (FtGot fr al w0 W mb (t.strip.flat had)) := by
  induction t using Tr.ind
  rename_i x a n c kids ih
  intro W fr al w0 w mb had h hd st
  have H := Lib.hid h.fl
  have HN := Lib.hid h.fl.1
  have HK := Lib.hid h.kids
  have HI := Lib.hid ih
  rw [stripT_mk] at hd ⊢
  rw [To.size] at hd
  have HD := Lib.hid hd
  have hnb : n ≤ 100000 := by have := sizeL_len (kids.map Tr.strip); rw [List.length_map] at this; have := HN.out; omega
  have HF : Hid ((To.mk x (kids.map Tr.strip)).flat had = if x.f ∈ (flatL (kids.map Tr.strip) had).2 then flatL (kids.map Tr.strip) had else ((flatL (kids.map Tr.strip) had).1 ++ [x], (flatL (kids.map Tr.strip) had).2 ++ [x.f])) := Lib.hid (by rw [To.flat])
  generalize (To.mk x (kids.map Tr.strip)).flat had = p at *
  clear h ih hd
  unfold trV S
  simp only
  replace st := st.row_nil 32 12
  simp only [List.cons_append, List.nil_append] at st
  (try simp only [nsl, Value.cells, unB] at st)
  (try clear hc); have hc := st.facts; (try simp only [nfl, nft, elI, elF, Nat.reduceAdd] at hc)
  go_enter Tryz.func27, Tryz.ntmps27
  go_wp2_with ((first
        | ((with_reducible refine wl_box ?_ (fun K hK => ?_)); rfl; refine owp_box (o := ⟨some 2, _, _, _, _, _⟩) rfl st ?_; apply Exists.intro; refine ⟨?_, ?_⟩; (focus (go_simp; try rfl)); (clear st; intro b2 w hb st; clear hb))
        | ((with_reducible refine wl_alloc ?_ (fun K hK => ?_)); rfl; refine owp_alloc (o := ⟨some 7, _, _, _, _, _⟩) rfl st ?_; apply Exists.intro; apply Exists.intro; refine ⟨?_, ?_⟩; (focus (first | (go_simp; done) | (go_simp; rfl))); (clear st; intro b7 w hb st; clear hb))
        | ((with_reducible refine wl_store ?_ (fun K hK => ?_)); rfl; refine owp_store rfl st ?_; apply Exists.intro; apply Exists.intro; refine ⟨?_, ?_, ?_⟩; (focus (go_simp; try rfl)); (focus (go_simp; try rfl)); (first | (with_reducible refine ⟨0, _, _, _, _, get0, rfl, rfl, ?_, ?_, ?_, ?_⟩) | (with_reducible refine ⟨1, _, _, _, _, get1, rfl, rfl, ?_, ?_, ?_, ?_⟩) | (with_reducible refine ⟨2, _, _, _, _, get2, rfl, rfl, ?_, ?_, ?_, ?_⟩) | (with_reducible refine ⟨3, _, _, _, _, get3, rfl, rfl, ?_, ?_, ?_, ?_⟩) | (with_reducible refine ⟨4, _, _, _, _, get4, rfl, rfl, ?_, ?_, ?_, ?_⟩) | (with_reducible refine ⟨5, _, _, _, _, get5, rfl, rfl, ?_, ?_, ?_, ?_⟩) | (with_reducible refine ⟨6, _, _, _, _, get6, rfl, rfl, ?_, ?_, ?_, ?_⟩)); (kernel_rfl); (simp [Value.cells]); (rfl); (clear st; intro w st))
        | ((with_reducible refine wl_buildSlice ?_ (fun K hK => ?_)); rfl; refine owp_buildSlice (o := ⟨some 34, _, _, _, _, _⟩) rfl st ?_; apply Exists.intro; apply Exists.intro; apply Exists.intro; apply Exists.intro; refine ⟨?_, ?_⟩; (focus (go_simp; (first | done | exact ⟨⟨rfl, rfl⟩, rfl⟩ | rfl))); (clear st; intro b34 w hb st; clear hb))); (try simp only [nsl, Value.cells, unB] at st); (try clear hc); have hc := st.facts; (try simp only [nfl, nft, elI, elF, Nat.reduceAdd] at hc))
  go_loopg [5, 11] n (fun k v i wr => ∃ (j q vc : Nat) (va : Option Addr) (cs : List StepT) (ms : List FactT), j ≤ n ∧ k = n - j ∧ i = .int .i64 (j : Int) ∧ v = .slice va q vc ∧ q ≤ 100000 ∧ Hid ((cs, ms) = flatL ((kids.map Tr.strip).take j) had) ∧ Hid (q = cs.length) ∧ Own fr al w0 [oldI W, mapG kcF mb (hadE ms), rowI 32 12 (.slice va q vc) q (cellsL cs), blkI b2 [.int .i64 x.c.k, .string ⟨x.c.h.1.toArray⟩, .string ⟨x.c.h.2.toArray⟩, .string ⟨x.c.w.toArray⟩, .string ⟨x.c.b.1.toArray⟩, .string ⟨x.c.b.2.toArray⟩, .string ⟨x.c.c.1.toArray⟩, .string ⟨x.c.c.2.toArray⟩, .string ⟨x.c.e.toArray⟩, .string ⟨x.f.r.1.toArray⟩, .string ⟨x.f.r.2.toArray⟩, .string ⟨x.f.w.toArray⟩, .slice a n c]] wr)
  case atStart => exact ⟨0, 0, 0, none, [], had, by omega, by omega, rfl, rfl, by omega, Lib.hid (by simp [flatL]), Lib.hid rfl, by simpa [cellsL] using st⟩
  case round =>
    obtain ⟨j, q, vc, va, cs, ms, hj, rfl, rfl, rfl, hqb, HCS, HQ, st'⟩ := hrel
    clear st hc
    have st := st'
    clear st'
    by_cases hjn : j < n
    · obtain ⟨b, off, ha, hcell⟩ := H.out.tr (by omega)
      have hjl : j < kids.length := by have := HN.out; omega
      have hjm : j < (kids.map Tr.strip).length := by simpa using hjl
      have hmem : kids[j] ∈ kids := List.getElem_mem hjl
      have hmem2 : kids[j].strip ∈ kids.map Tr.strip := List.mem_map.2 ⟨_, hmem, rfl⟩
      have hsn : (kids.map Tr.strip).take (j + 1) = (kids.map Tr.strip).take j ++ [kids[j].strip] := by rw [← List.take_append_getElem hjm, List.getElem_map]
      have HSN : Hid ((cs ++ (kids[j].strip.flat ms).1, (kids[j].strip.flat ms).2) = flatL ((kids.map Tr.strip).take (j + 1)) had) := Lib.hid (by rw [hsn, flatL_snoc, ← HCS.out])
      have hqn : q + (kids[j].strip.flat ms).1.length ≤ 100000 := by
        have h1 := flatL_size ((kids.map Tr.strip).take (j + 1)) had
        rw [← HSN.out] at h1
        simp only [List.length_append] at h1
        rw [← HQ.out] at h1
        have h2 := sizeL_take (kids.map Tr.strip) (j + 1)
        have := HD.out
        omega
      have HC2 := Lib.hid (fun fr al w0 w st => HI.out _ hmem W fr al w0 w mb ms (HK.out _ hmem) (by have := sizeL_mem (kids.map Tr.strip) kids[j].strip hmem2; have := HD.out; omega) st)
      unfold FtGot at HC2
      have hce := hcell j
      have hget := List.getElem?_eq_getElem hjl
      generalize kids[j] = y at *
      obtain ⟨ys, hys⟩ : ∃ v, (y.strip.flat ms).1 = v := ⟨_, rfl⟩
      obtain ⟨ms2, hms⟩ : ∃ v, (y.strip.flat ms).2 = v := ⟨_, rfl⟩
      rw [hys] at HC2 HSN hqn
      rw [hms] at HC2 HSN
      clear hys hms hcell hsn hmem hmem2
      obtain ⟨z, a', n', c', kids'⟩ := y
      obtain ⟨r0, r1, r2, r3, r4, r5, r6, r7, r8, r9, r10, r11, r12⟩ := hce z a' n' c' kids' hget
      clear hce hget
      subst ha
      replace r0 := st.oldCell (i := 0) get0 r0
      replace r1 := st.oldCell (i := 0) get0 r1
      replace r2 := st.oldCell (i := 0) get0 r2
      replace r3 := st.oldCell (i := 0) get0 r3
      replace r4 := st.oldCell (i := 0) get0 r4
      replace r5 := st.oldCell (i := 0) get0 r5
      replace r6 := st.oldCell (i := 0) get0 r6
      replace r7 := st.oldCell (i := 0) get0 r7
      replace r8 := st.oldCell (i := 0) get0 r8
      replace r9 := st.oldCell (i := 0) get0 r9
      replace r10 := st.oldCell (i := 0) get0 r10
      replace r11 := st.oldCell (i := 0) get0 r11
      replace r12 := st.oldCell (i := 0) get0 r12
      unfold trV S at HC2
      simp only at HC2
      unfold S at r1 r2 r3 r4 r5 r6 r7 r8 r9 r10 r11
      have HQ2 : Hid (q + ys.length = (cs ++ ys).length) := Lib.hid (by rw [List.length_append, ← HQ.out])
      (try simp only [nsl, Value.cells, unB] at st)
      (try clear hc); have hc := st.facts; (try simp only [nfl, nft, elI, elF, Nat.reduceAdd] at hc)
      go_wp2_with ((first
            | ((with_reducible refine wl_box ?_ (fun K hK => ?_)); rfl; refine owp_box (o := ⟨some 2, _, _, _, _, _⟩) rfl st ?_; apply Exists.intro; refine ⟨?_, ?_⟩; (focus (go_simp; try rfl)); (clear st; intro b2 w hb st; clear hb))
            | ((with_reducible refine wl_alloc ?_ (fun K hK => ?_)); rfl; refine owp_alloc (o := ⟨some 7, _, _, _, _, _⟩) rfl st ?_; apply Exists.intro; apply Exists.intro; refine ⟨?_, ?_⟩; (focus (first | (go_simp; done) | (go_simp; rfl))); (clear st; intro b7 w hb st; clear hb))
            | ((with_reducible refine wl_store ?_ (fun K hK => ?_)); rfl; refine owp_store rfl st ?_; apply Exists.intro; apply Exists.intro; refine ⟨?_, ?_, ?_⟩; (focus (go_simp; try rfl)); (focus (go_simp; try rfl)); (first | (with_reducible refine ⟨0, _, _, _, _, get0, rfl, rfl, ?_, ?_, ?_, ?_⟩) | (with_reducible refine ⟨1, _, _, _, _, get1, rfl, rfl, ?_, ?_, ?_, ?_⟩) | (with_reducible refine ⟨2, _, _, _, _, get2, rfl, rfl, ?_, ?_, ?_, ?_⟩) | (with_reducible refine ⟨3, _, _, _, _, get3, rfl, rfl, ?_, ?_, ?_, ?_⟩) | (with_reducible refine ⟨4, _, _, _, _, get4, rfl, rfl, ?_, ?_, ?_, ?_⟩) | (with_reducible refine ⟨5, _, _, _, _, get5, rfl, rfl, ?_, ?_, ?_, ?_⟩) | (with_reducible refine ⟨6, _, _, _, _, get6, rfl, rfl, ?_, ?_, ?_, ?_⟩)); (kernel_rfl); (simp [Value.cells]); (rfl); (clear st; intro w st))
            | ((with_reducible refine wl_buildSlice ?_ (fun K hK => ?_)); rfl; refine owp_buildSlice (o := ⟨some 34, _, _, _, _, _⟩) rfl st ?_; apply Exists.intro; apply Exists.intro; apply Exists.intro; apply Exists.intro; refine ⟨?_, ?_⟩; (focus (go_simp; (first | done | exact ⟨⟨rfl, rfl⟩, rfl⟩ | rfl))); (clear st; intro b34 w hb st; clear hb))); (try simp only [nsl, Value.cells, unB] at st); (try clear hc); have hc := st.facts; (try simp only [nfl, nft, elI, elF, Nat.reduceAdd] at hc))
      clear r0 r1 r2 r3 r4 r5 r6 r7 r8 r9 r10 r11 r12
      obtain ⟨fr', al', st', back⟩ := st.sub [0, 1] (by decide) (by simp)
      (try simp only [nsl, Value.cells, unB] at st')
      refine (HC2.out _ _ _ _ st').mono ?_
      clear st'
      rintro en w ⟨va2, vc2, rfl, st'⟩
      replace st := back _ _ (by simp) st'
      clear back st'
      (try simp only [nsl, Value.cells, unB] at st)
      (try clear hc); have hc := st.facts; (try simp only [nfl, nft, elI, elF, Nat.reduceAdd] at hc)
      go_wp2_with (first
          | ((with_reducible refine wl_append ?_ (fun K hK => ?_)); (rfl); (obtain ⟨inf, hinf, hz0, hz1, hz2⟩ := stepInfo); (refine owp_append rfl st 2 get2 Tryz.underlying22 hinf hz0 hz1 hz2 rfl (by decide) rfl rfl ((rowFl' (α := StepT) st (i := 5) get5).2.flat) (by first | exact cellsL_all _ | simp [Value.oneCell']) (by simp only [maxLen]; omega) (by omega) ?_); (clear hinf hz0 hz1 hz2 inf); (clear st; intro v' w st); (obtain ⟨va', vc', rfl⟩ := own_slice (st.row (i := 2) get2)); (try simp only [nsl, Value.cells, unB] at st); (try simp only [Nat.zero_add] at st); (try clear hc); have hc := st.facts; (try simp only [nfl, nft, elI, elF, Nat.reduceAdd] at hc))
          | ((with_reducible refine wl_buildSlice ?_ (fun K hK => ?_)); (rfl); (refine owp_buildRow (o := ⟨some 9999, _, _, _, _, _⟩) rfl st 32 12 ?_; refine ⟨0, #[], ?_, by simp, by simp [maxLen], ?_⟩; (focus (go_simp; (first | done | rfl))); (clear st; intro b9999 w hb st; clear hb)); (try simp only [nsl, Value.cells, unB] at st); (try clear hc); have hc := st.facts; (try simp only [nfl, nft, elI, elF, Nat.reduceAdd] at hc))
          | ((first
            | ((with_reducible refine wl_box ?_ (fun K hK => ?_)); rfl; refine owp_box (o := ⟨some 2, _, _, _, _, _⟩) rfl st ?_; apply Exists.intro; refine ⟨?_, ?_⟩; (focus (go_simp; try rfl)); (clear st; intro b2 w hb st; clear hb))
            | ((with_reducible refine wl_alloc ?_ (fun K hK => ?_)); rfl; refine owp_alloc (o := ⟨some 7, _, _, _, _, _⟩) rfl st ?_; apply Exists.intro; apply Exists.intro; refine ⟨?_, ?_⟩; (focus (first | (go_simp; done) | (go_simp; rfl))); (clear st; intro b7 w hb st; clear hb))
            | ((with_reducible refine wl_store ?_ (fun K hK => ?_)); rfl; refine owp_store rfl st ?_; apply Exists.intro; apply Exists.intro; refine ⟨?_, ?_, ?_⟩; (focus (go_simp; try rfl)); (focus (go_simp; try rfl)); (first | (with_reducible refine ⟨0, _, _, _, _, get0, rfl, rfl, ?_, ?_, ?_, ?_⟩) | (with_reducible refine ⟨1, _, _, _, _, get1, rfl, rfl, ?_, ?_, ?_, ?_⟩) | (with_reducible refine ⟨2, _, _, _, _, get2, rfl, rfl, ?_, ?_, ?_, ?_⟩) | (with_reducible refine ⟨3, _, _, _, _, get3, rfl, rfl, ?_, ?_, ?_, ?_⟩) | (with_reducible refine ⟨4, _, _, _, _, get4, rfl, rfl, ?_, ?_, ?_, ?_⟩) | (with_reducible refine ⟨5, _, _, _, _, get5, rfl, rfl, ?_, ?_, ?_, ?_⟩) | (with_reducible refine ⟨6, _, _, _, _, get6, rfl, rfl, ?_, ?_, ?_, ?_⟩)); (kernel_rfl); (simp [Value.cells]); (rfl); (clear st; intro w st))
            | ((with_reducible refine wl_buildSlice ?_ (fun K hK => ?_)); rfl; refine owp_buildSlice (o := ⟨some 34, _, _, _, _, _⟩) rfl st ?_; apply Exists.intro; apply Exists.intro; apply Exists.intro; apply Exists.intro; refine ⟨?_, ?_⟩; (focus (go_simp; (first | done | exact ⟨⟨rfl, rfl⟩, rfl⟩ | rfl))); (clear st; intro b34 w hb st; clear hb))); (try simp only [nsl, Value.cells, unB] at st); (try clear hc); have hc := st.facts; (try simp only [nfl, nft, elI, elF, Nat.reduceAdd] at hc)))
      have st' := st.keep [0, 1, 2, 3] (by decide) (by simp)
      go_roundg (n - (j + 1))
      case measure => omega
      case rel => exact ⟨j + 1, q + ys.length, _, _, cs ++ ys, ms2, by omega, by omega, by go_num, rfl, hqn, HSN, HQ2, by rw [cellsL_append]; simpa [pick] using st'⟩
    · obtain rfl : n = j := by omega
      rw [List.take_of_length_le (by rw [List.length_map]; have := HN.out; omega)] at HCS
      rw [← HCS.out] at HF
      simp only at HF
      have q0 := st.lookHad (i := 1) get1 x.f.r.1 x.f.r.2 x.f.w
      by_cases hm : x.f ∈ ms
      · have HP : Hid (p = (cs, ms)) := Lib.hid (by rw [HF.out, if_pos hm])
        have hdt : decide ((⟨(x.f.r.1, x.f.r.2), x.f.w⟩ : FactT) ∈ ms) = true := decide_eq_true hm
        rw [hdt] at q0
        clear hdt hm
        (try simp only [nsl, Value.cells, unB] at st)
        (try clear hc); have hc := st.facts; (try simp only [nfl, nft, elI, elF, Nat.reduceAdd] at hc)
        go_wp2_with ((first
              | ((with_reducible refine wl_box ?_ (fun K hK => ?_)); rfl; refine owp_box (o := ⟨some 2, _, _, _, _, _⟩) rfl st ?_; apply Exists.intro; refine ⟨?_, ?_⟩; (focus (go_simp; try rfl)); (clear st; intro b2 w hb st; clear hb))
              | ((with_reducible refine wl_alloc ?_ (fun K hK => ?_)); rfl; refine owp_alloc (o := ⟨some 7, _, _, _, _, _⟩) rfl st ?_; apply Exists.intro; apply Exists.intro; refine ⟨?_, ?_⟩; (focus (first | (go_simp; done) | (go_simp; rfl))); (clear st; intro b7 w hb st; clear hb))
              | ((with_reducible refine wl_store ?_ (fun K hK => ?_)); rfl; refine owp_store rfl st ?_; apply Exists.intro; apply Exists.intro; refine ⟨?_, ?_, ?_⟩; (focus (go_simp; try rfl)); (focus (go_simp; try rfl)); (first | (with_reducible refine ⟨0, _, _, _, _, get0, rfl, rfl, ?_, ?_, ?_, ?_⟩) | (with_reducible refine ⟨1, _, _, _, _, get1, rfl, rfl, ?_, ?_, ?_, ?_⟩) | (with_reducible refine ⟨2, _, _, _, _, get2, rfl, rfl, ?_, ?_, ?_, ?_⟩) | (with_reducible refine ⟨3, _, _, _, _, get3, rfl, rfl, ?_, ?_, ?_, ?_⟩) | (with_reducible refine ⟨4, _, _, _, _, get4, rfl, rfl, ?_, ?_, ?_, ?_⟩) | (with_reducible refine ⟨5, _, _, _, _, get5, rfl, rfl, ?_, ?_, ?_, ?_⟩) | (with_reducible refine ⟨6, _, _, _, _, get6, rfl, rfl, ?_, ?_, ?_, ?_⟩)); (kernel_rfl); (simp [Value.cells]); (rfl); (clear st; intro w st))
              | ((with_reducible refine wl_buildSlice ?_ (fun K hK => ?_)); rfl; refine owp_buildSlice (o := ⟨some 34, _, _, _, _, _⟩) rfl st ?_; apply Exists.intro; apply Exists.intro; apply Exists.intro; apply Exists.intro; refine ⟨?_, ?_⟩; (focus (go_simp; (first | done | exact ⟨⟨rfl, rfl⟩, rfl⟩ | rfl))); (clear st; intro b34 w hb st; clear hb))); (try simp only [nsl, Value.cells, unB] at st); (try clear hc); have hc := st.facts; (try simp only [nfl, nft, elI, elF, Nat.reduceAdd] at hc))
        have st9 := st.keep [0, 1, 2] (by decide) (by simp)
        simp only [pick, List.map_cons, List.map_nil, List.getElem?_cons_zero, List.getElem?_cons_succ, Option.getD_some] at st9
        go_ret
        exact ftGot HP.out HQ.out st9
      · have HP : Hid (p = (cs ++ [x], ms ++ [x.f])) := Lib.hid (by rw [HF.out, if_neg hm])
        have hdt : decide ((⟨(x.f.r.1, x.f.r.2), x.f.w⟩ : FactT) ∈ ms) = false := decide_eq_false hm
        rw [hdt] at q0
        have HNM : Hid (gGet (hadE ms) x.f = none) := Lib.hid (by rw [hadE_get, if_neg hm])
        clear hdt hm
        (try simp only [nsl, Value.cells, unB] at st)
        (try clear hc); have hc := st.facts; (try simp only [nfl, nft, elI, elF, Nat.reduceAdd] at hc)
        go_wp2_with (first
            | (((with_reducible refine wl_mapUpdate ?_ (fun K hK => ?_)); rfl; (refine owp_mapNewG (c := kcF) (v := .bool true) rfl st 1 x.f get1 underHad rfl rfl rfl HNM.out ?_); (clear st q0; intro w st; simp only [List.set, hadE_snoc] at st)); (try simp only [nsl, Value.cells, unB] at st); (try clear hc); have hc := st.facts; (try simp only [nfl, nft, elI, elF, Nat.reduceAdd] at hc))
            | ((with_reducible refine wl_append ?_ (fun K hK => ?_)); (rfl); (obtain ⟨inf, hinf, hz0, hz1, hz2⟩ := stepInfo); (refine owp_append rfl st 2 get2 Tryz.underlying22 hinf hz0 hz1 hz2 rfl (by decide) rfl rfl ((st.blk (i := 4) get4).flat rfl) (by first | exact cellsL_all _ | simp [Value.oneCell']) (by simp only [maxLen]; omega) (by omega) ?_); (clear hinf hz0 hz1 hz2 inf); (clear st; intro v' w st); (obtain ⟨va', vc', rfl⟩ := own_slice (st.row (i := 2) get2)); (try simp only [nsl, Value.cells, unB] at st); (try simp only [Nat.zero_add] at st); (try clear hc); have hc := st.facts; (try simp only [nfl, nft, elI, elF, Nat.reduceAdd] at hc))
            | ((first
              | ((with_reducible refine wl_box ?_ (fun K hK => ?_)); rfl; refine owp_box (o := ⟨some 2, _, _, _, _, _⟩) rfl st ?_; apply Exists.intro; refine ⟨?_, ?_⟩; (focus (go_simp; try rfl)); (clear st; intro b2 w hb st; clear hb))
              | ((with_reducible refine wl_alloc ?_ (fun K hK => ?_)); rfl; refine owp_alloc (o := ⟨some 7, _, _, _, _, _⟩) rfl st ?_; apply Exists.intro; apply Exists.intro; refine ⟨?_, ?_⟩; (focus (first | (go_simp; done) | (go_simp; rfl))); (clear st; intro b7 w hb st; clear hb))
              | ((with_reducible refine wl_store ?_ (fun K hK => ?_)); rfl; refine owp_store rfl st ?_; apply Exists.intro; apply Exists.intro; refine ⟨?_, ?_, ?_⟩; (focus (go_simp; try rfl)); (focus (go_simp; try rfl)); (first | (with_reducible refine ⟨0, _, _, _, _, get0, rfl, rfl, ?_, ?_, ?_, ?_⟩) | (with_reducible refine ⟨1, _, _, _, _, get1, rfl, rfl, ?_, ?_, ?_, ?_⟩) | (with_reducible refine ⟨2, _, _, _, _, get2, rfl, rfl, ?_, ?_, ?_, ?_⟩) | (with_reducible refine ⟨3, _, _, _, _, get3, rfl, rfl, ?_, ?_, ?_, ?_⟩) | (with_reducible refine ⟨4, _, _, _, _, get4, rfl, rfl, ?_, ?_, ?_, ?_⟩) | (with_reducible refine ⟨5, _, _, _, _, get5, rfl, rfl, ?_, ?_, ?_, ?_⟩) | (with_reducible refine ⟨6, _, _, _, _, get6, rfl, rfl, ?_, ?_, ?_, ?_⟩)); (kernel_rfl); (simp [Value.cells]); (rfl); (clear st; intro w st))
              | ((with_reducible refine wl_buildSlice ?_ (fun K hK => ?_)); rfl; refine owp_buildSlice (o := ⟨some 34, _, _, _, _, _⟩) rfl st ?_; apply Exists.intro; apply Exists.intro; apply Exists.intro; apply Exists.intro; refine ⟨?_, ?_⟩; (focus (go_simp; (first | done | exact ⟨⟨rfl, rfl⟩, rfl⟩ | rfl))); (clear st; intro b34 w hb st; clear hb))); (try simp only [nsl, Value.cells, unB] at st); (try clear hc); have hc := st.facts; (try simp only [nfl, nft, elI, elF, Nat.reduceAdd] at hc)))
        have st9 := st.keep [0, 1, 2] (by decide) (by simp)
        simp only [pick, List.map_cons, List.map_nil, List.getElem?_cons_zero, List.getElem?_cons_succ, Option.getD_some] at st9
        go_ret
        exact ftGot HP.out (by rw [List.length_append, ← HQ.out]; rfl) (by rw [cellsL_append, cellsL_one']; exact st9)
set_option maxRecDepth 100000 in
set_option maxHeartbeats 2000000 in
theorem treeFlat_any (t : Tr) (W : World) (h : TrOk W t) (hd : t.strip.size ≤ 100000) : Calls Tryz.prog 15 #[trV t] W fun e w' => ∃ va vc, e = .returned (.slice va (t.strip.flat []).1.length vc) ∧ FreshI W w' (rowI 32 12 (.slice va (t.strip.flat []).1.length vc) (t.strip.flat []).1.length (cellsL (t.strip.flat []).1)) := by
  have HC := Lib.hid (fun fr al w0 w mb st => flat_c t W fr al w0 w mb [] h hd st)
  clear h hd
  generalize t.strip.flat [] = p at *
  have st := Own.startOld W
  obtain ⟨x, a, n, c, kids⟩ := t
  unfold trV S FtGot at HC
  unfold trV S
  simp only at HC ⊢
  (try simp only [nsl, Value.cells, unB] at st)
  (try clear hc); have hc := st.facts; (try simp only [nfl, nft, elI, elF, Nat.reduceAdd] at hc)
  go_enter Tryz.func15, Tryz.ntmps15
  go_wp2_with ((first
        | ((with_reducible refine wl_box ?_ (fun K hK => ?_)); rfl; refine owp_box (o := ⟨some 1, _, _, _, _, _⟩) rfl st ?_; apply Exists.intro; refine ⟨?_, ?_⟩; (focus (go_simp; try rfl)); (clear st; intro b1 w hb st; clear hb))
        | ((with_reducible refine wl_makeMap ?_ (fun K hK => ?_)); rfl; refine owp_makeMapG (o := ⟨some 4, _, _, _, _, _⟩) kcF rfl st ?_; (clear st; intro b4 w hb st; clear hb))); (try simp only [nsl, Value.cells, unB] at st); (try clear hc); have hc := st.facts; (try simp only [nfl, nft, elI, elF, Nat.reduceAdd] at hc))
  replace st := st.keep [0, 2] (by decide) (by simp)
  simp only [pick, List.map_cons, List.map_nil, List.getElem?_cons_zero, List.getElem?_cons_succ, Option.getD_some] at st
  obtain ⟨fr', al', st', back⟩ := st.sub [0, 1] (by decide) (by simp)
  (try simp only [nsl, Value.cells, unB] at st')
  refine (HC.out _ _ _ _ _ st').mono ?_
  clear st'
  rintro en w ⟨va2, vc2, rfl, st'⟩
  replace st := back _ _ (by simp) st'
  clear back st'
  (try simp only [nsl, Value.cells, unB] at st)
  (try clear hc); have hc := st.facts; (try simp only [nfl, nft, elI, elF, Nat.reduceAdd] at hc)
  go_wp2_with ((first
        | ((with_reducible refine wl_box ?_ (fun K hK => ?_)); rfl; refine owp_box (o := ⟨some 1, _, _, _, _, _⟩) rfl st ?_; apply Exists.intro; refine ⟨?_, ?_⟩; (focus (go_simp; try rfl)); (clear st; intro b1 w hb st; clear hb))
        | ((with_reducible refine wl_makeMap ?_ (fun K hK => ?_)); rfl; refine owp_makeMapG (o := ⟨some 4, _, _, _, _, _⟩) kcF rfl st ?_; (clear st; intro b4 w hb st; clear hb))); (try simp only [nsl, Value.cells, unB] at st); (try clear hc); have hc := st.facts; (try simp only [nfl, nft, elI, elF, Nat.reduceAdd] at hc))
  go_ret
  exact ⟨_, _, rfl, st.toFresh (i := 2) get2⟩
end Go.Proofs.YtdfdnedcaodmkaaGreat

namespace Go.Proofs.YtdfdnedcaodmkaaGreat
set_option linter.unusedSimpArgs false
set_option linter.unusedVariables false
open Go Go.RowKit
end Go.Proofs.YtdfdnedcaodmkaaGreat

namespace Go.Proofs.YtdfdnedcaodmkaaGreat
set_option linter.unusedSimpArgs false
set_option linter.unusedVariables false
open Go Go.RowKit
theorem Fl.from {α : Type} [Flt α] {w : World} {b off n : Nat} {xs : List α} (h : Fl w (some ⟨b, off, none⟩) n xs) (p : Nat) (hp : p ≤ n) : Fl w (some ⟨b, off + p * Flt.k α, none⟩) (n - p) (xs.drop p) := by
  have := h.part p (n - p) (by omega)
  rwa [List.take_of_length_le (by have := h.1; simp; omega)] at this
end Go.Proofs.YtdfdnedcaodmkaaGreat

namespace Go.Proofs.YtdfdnedcaodmkaaGreat
set_option linter.unusedSimpArgs false
set_option linter.unusedVariables false
open Go Go.RowKit
/-- One behind another. -/
def bd {α β : Type} (r : Except Int (α × List UInt8)) (f : α → List UInt8 → Except Int β) : Except Int β := match r with | .error e => .error e | .ok p => f p.1 p.2
end Go.Proofs.YtdfdnedcaodmkaaGreat

namespace Go.Proofs.YtdfdnedcaodmkaaGreat
set_option linter.unusedSimpArgs false
set_option linter.unusedVariables false
open Go Go.RowKit
set_option maxRecDepth 100000 in
set_option maxHeartbeats 1000000 in
theorem credGreat_any (a : Option Addr) (n c : Nat) (l : List CredT) (W : World) (h : Fl W a n l) (hw : weightC l ≤ 2000000000) :
    Calls Tryz.prog 16 #[.slice a n c] W fun e w' => e = .returned (.int .i64 (weightC l : Int)) ∧ Ext W w' := by
  have hnw : n ≤ 2000000000 := by have := weightC_len l; have := h.1; omega
  have H := Lib.hid h
  have HN := Lib.hid (And.intro h.1 hw)
  have st := Own.startOld W
  clear h hw
  (try simp only [nsl, Value.cells, unB] at st)
  (try clear hc); have hc := st.facts; (try simp only [nfl, nft, Nat.reduceAdd] at hc)
  go_enter Tryz.func16, Tryz.ntmps16
  go_wp2_with fail
  go_loopg [3, 8] n (fun k v i wr => ∃ (j q : Nat), j ≤ n ∧ k = n - j ∧ q ≤ 2000000000 ∧ Hid (q = weightC (l.take j)) ∧ i = .int .i64 (j : Int) ∧ v = .int .i64 (q : Int) ∧ Own (fun _ => False) (fun _ => True) W [oldI W] wr)
  case atStart => exact ⟨0, 0, by omega, by omega, by omega, Lib.hid (by simp [weightC]), rfl, rfl, st⟩
  case round =>
    obtain ⟨j, q, hj, rfl, hq, HQ, rfl, rfl, st'⟩ := hrel
    clear st hc
    have st := st'
    clear st'
    (try simp only [nsl, Value.cells, unB] at st)
    (try clear hc); have hc := st.facts; (try simp only [nfl, nft, Nat.reduceAdd] at hc)
    by_cases hjn : j < n
    · obtain ⟨b, off, ha, hcell⟩ := H.out.cred (by omega)
      have hjl : j < l.length := by have := HN.out.1; omega
      have hcc := hcell j l[j] (List.getElem?_eq_getElem hjl)
      obtain ⟨r0, r1, r2, r3, r4, r5, r6, r7, r8⟩ := hcc
      replace r0 := st.oldCell (i := 0) get0 r0
      replace r1 := st.oldCell (i := 0) get0 r1
      replace r2 := st.oldCell (i := 0) get0 r2
      replace r3 := st.oldCell (i := 0) get0 r3
      replace r4 := st.oldCell (i := 0) get0 r4
      replace r5 := st.oldCell (i := 0) get0 r5
      replace r6 := st.oldCell (i := 0) get0 r6
      replace r7 := st.oldCell (i := 0) get0 r7
      replace r8 := st.oldCell (i := 0) get0 r8
      have hts : l.take (j + 1) = l.take j ++ [l[j]] := (List.take_append_getElem hjl).symm
      have hw1 := weightC_take l (j + 1)
      rw [hts, weightC_snoc, ← HQ.out] at hw1
      have hw2 : q + wtC l[j] ≤ 2000000000 := by have := HN.out.2; omega
      have HX : Hid (q + wtC l[j] = weightC (l.take (j + 1))) := Lib.hid (by rw [hts, weightC_snoc, ← HQ.out])
      clear hcell hts hw1
      generalize l[j] = x at *
      clear hjl
      subst ha
      unfold S at r1 r2 r3 r4 r5 r6 r7 r8
      have hszz : ∀ s : List UInt8, (⟨s.toArray⟩ : ByteArray).size = s.length := fun s => by simp [ByteArray.size]
      have HW : Hid (wtC x = 20 + x.h.1.length + x.h.2.length + x.w.length + x.b.1.length + x.b.2.length + x.c.1.length + x.c.2.length + x.e.length) := Lib.hid rfl
      have hw3 : q + (20 + x.h.1.length + x.h.2.length + x.w.length + x.b.1.length + x.b.2.length + x.c.1.length + x.c.2.length + x.e.length) ≤ 2000000000 := by rw [← HW.out]; exact hw2
      clear hw2
      go_wp2_with ((first
            | ((with_reducible refine wl_alloc ?_ (fun K hK => ?_)); rfl; refine owp_alloc (o := ⟨some 5, _, _, _, _, _⟩) rfl st ?_; apply Exists.intro; apply Exists.intro; refine ⟨?_, ?_⟩; (focus (first | (go_simp; done) | (go_simp; rfl))); (clear st; intro b5 w hb st; clear hb))
            | ((with_reducible refine wl_store ?_ (fun K hK => ?_)); rfl; refine owp_store rfl st ?_; apply Exists.intro; apply Exists.intro; refine ⟨?_, ?_, ?_⟩; (focus (go_simp; try rfl)); (focus (go_simp; try rfl)); (first | (with_reducible refine ⟨0, _, _, _, _, get0, rfl, rfl, ?_, ?_, ?_, ?_⟩) | (with_reducible refine ⟨1, _, _, _, _, get1, rfl, rfl, ?_, ?_, ?_, ?_⟩) | (with_reducible refine ⟨2, _, _, _, _, get2, rfl, rfl, ?_, ?_, ?_, ?_⟩) | (with_reducible refine ⟨3, _, _, _, _, get3, rfl, rfl, ?_, ?_, ?_, ?_⟩) | (with_reducible refine ⟨4, _, _, _, _, get4, rfl, rfl, ?_, ?_, ?_, ?_⟩) | (with_reducible refine ⟨5, _, _, _, _, get5, rfl, rfl, ?_, ?_, ?_, ?_⟩)); (kernel_rfl); (simp [Value.cells]); (rfl); (clear st; intro w st))); (try simp only [nsl, Value.cells, unB] at st); (try clear hc); have hc := st.facts; (try simp only [nfl, nft, Nat.reduceAdd] at hc))
      have st' := st.keep [0] (by decide) (by simp)
      go_roundg (n - (j + 1))
      case measure => omega
      case rel => exact ⟨j + 1, q + (20 + x.h.1.length + x.h.2.length + x.w.length + x.b.1.length + x.b.2.length + x.c.1.length + x.c.2.length + x.e.length), by omega, rfl, hw3, by rw [← HW.out]; exact HX, by go_num, by go_num, by simpa [pick] using st'⟩
    · obtain rfl : j = n := by omega
      have htk : weightC l = q := by rw [HQ.out, List.take_of_length_le (by have := HN.out.1; omega)]
      have HE := Lib.hid htk
      clear htk
      go_wp2_with fail
      go_ret
      exact ⟨by rw [HE.out]; rfl, st.ext0⟩
end Go.Proofs.YtdfdnedcaodmkaaGreat

namespace Go.Proofs.YtdfdnedcaodmkaaGreat
set_option linter.unusedSimpArgs false
set_option linter.unusedVariables false
open Go Go.RowKit
end Go.Proofs.YtdfdnedcaodmkaaGreat
