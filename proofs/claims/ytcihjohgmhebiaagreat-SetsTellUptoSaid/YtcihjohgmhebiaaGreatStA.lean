/- The reference's lists of roles; Index and Contains. -/
import Derived.Test.YtcihjohgmhebiaaGreatFmB
import Derived.Shelf.SlSortCmp.NoneTotal
import Derived.Sort.OwnSorted
import Derived.Test.YtcihjohgmhebiaaGreatSort
namespace Go.Proofs.YtcihjohgmhebiaaGreat
set_option linter.unusedSimpArgs false
set_option linter.unusedVariables false
open Go Go.RowKit
@[irreducible] def roleEq (a b : Role) : Bool := decide (a = b)
theorem roleEq_eq (a b : Role) : roleEq a b = decide (a = b) := by unfold roleEq; rfl
@[go_sem high] theorem eqRole (o d o' d' : List UInt8) (w : World) : (Op.equalIn 10000 23 (.agg #[.string ⟨o.toArray⟩, .string ⟨d.toArray⟩]) (.agg #[.string ⟨o'.toArray⟩, .string ⟨d'.toArray⟩])).run Tryz.prog w = .ok (roleEq (o, d) (o', d')) w := by
  have hS : Tryz.prog.underlying 23 = some (.struct (Tryz.prog.fieldsOf 23)) := by kernel_rfl
  rw [show (10000 : Nat) = 9999 + 1 from rfl, run_equalIn_agg w 9999 23 _ _ hS (by kernel_rfl), roleEq_eq]
  simp only [Program.fieldsOf, Tryz.underlying23]
  go_simp
  by_cases h1 : o = o' <;> by_cases h2 : d = d' <;> simp [h1, h2]
theorem Fl.role {w : World} {a : Option Addr} {n : Nat} {xs : List Role} (h : Fl w a n xs) (h0 : 0 < n) : ∃ b off, a = some ⟨b, off, none⟩ ∧ ∀ j x, xs[j]? = some x → w.cell? ⟨b, off + j * 2, none⟩ = some (S x.1) ∧ w.cell? ⟨b, off + j * 2 + 1, none⟩ = some (S x.2) := by
  obtain ⟨b, off, rfl, hc⟩ := h.2 h0
  exact ⟨b, off, rfl, fun j x hj => ⟨hc j x hj 0 _ rfl, hc j x hj 1 _ rfl⟩⟩
set_option maxRecDepth 100000 in
set_option maxHeartbeats 1000000 in
theorem refRoleHas_any (a : Option Addr) (n c : Nat) (l : List Role) (y : Role) (W : World) (h : Fl W a n l) (hn : n ≤ 2000000) :
    Calls Tryz.prog 8 #[.slice a n c, rV y] W fun e w' => e = .returned (.bool (decide (y ∈ l))) ∧ Ext W w' := by
  have H := Lib.hid h
  have HNL := Lib.hid h.1
  clear h
  obtain ⟨o, d⟩ := y
  have st := Own.startOld W
  unfold rV S
  (try simp only [nsl, Value.cells, unB] at st)
  (try clear hc); have hc := st.facts; (try simp only [nfl, nft, Nat.reduceAdd] at hc)
  go_enter Tryz.func8, Tryz.ntmps8
  go_wp2_with ((first
        | ((with_reducible refine wl_box ?_ (fun K hK => ?_)); rfl; refine owp_box (o := ⟨some 3, _, _, _, _, _⟩) rfl st ?_; apply Exists.intro; refine ⟨?_, ?_⟩; (focus (go_simp; try rfl)); (clear st; intro b3 w hb st; clear hb))
        | ((with_reducible refine wl_alloc ?_ (fun K hK => ?_)); rfl; refine owp_alloc (o := ⟨some 6, _, _, _, _, _⟩) rfl st ?_; apply Exists.intro; apply Exists.intro; refine ⟨?_, ?_⟩; (focus (first | (go_simp; done) | (go_simp; rfl))); (clear st; intro b6 w hb st; clear hb))
        | ((with_reducible refine wl_store ?_ (fun K hK => ?_)); rfl; refine owp_store rfl st ?_; apply Exists.intro; apply Exists.intro; refine ⟨?_, ?_, ?_⟩; (focus (go_simp; try rfl)); (focus (go_simp; try rfl)); (first | (with_reducible refine ⟨0, _, _, _, _, get0, rfl, rfl, ?_, ?_, ?_, ?_⟩) | (with_reducible refine ⟨1, _, _, _, _, get1, rfl, rfl, ?_, ?_, ?_, ?_⟩) | (with_reducible refine ⟨2, _, _, _, _, get2, rfl, rfl, ?_, ?_, ?_, ?_⟩) | (with_reducible refine ⟨3, _, _, _, _, get3, rfl, rfl, ?_, ?_, ?_, ?_⟩) | (with_reducible refine ⟨4, _, _, _, _, get4, rfl, rfl, ?_, ?_, ?_, ?_⟩) | (with_reducible refine ⟨5, _, _, _, _, get5, rfl, rfl, ?_, ?_, ?_, ?_⟩)); (kernel_rfl); (simp [Value.cells]); (rfl); (clear st; intro w st))); (try simp only [nsl, Value.cells, unB] at st); (try clear hc); have hc := st.facts; (try simp only [nfl, nft, Nat.reduceAdd] at hc))
  go_loopg [9] n (fun k i wr => ∃ (j : Nat), j ≤ n ∧ k = n - j ∧ i = .int .i64 (j : Int) ∧ Hid ((o, d) ∉ l.take j) ∧ Own (fun _ => False) (fun _ => True) W [oldI W, blkI b3 [S o, S d]] wr)
  case atStart => exact ⟨0, by omega, by omega, rfl, Lib.hid (by simp), st⟩
  case round =>
    obtain ⟨j, hj, rfl, rfl, HT, st'⟩ := hrel
    clear st hc
    have st := st'
    clear st'
    unfold S at st
    (try simp only [nsl, Value.cells, unB] at st)
    (try clear hc); have hc := st.facts; (try simp only [nfl, nft, Nat.reduceAdd] at hc)
    by_cases hjn : j < n
    · obtain ⟨b, off, ha, hcell⟩ := H.out.role (by omega)
      have hjl : j < l.length := by have := HNL.out; omega
      have r0 := st.oldCell (i := 0) get0 (hcell j l[j] (List.getElem?_eq_getElem hjl)).1
      have r1 := st.oldCell (i := 0) get0 (hcell j l[j] (List.getElem?_eq_getElem hjl)).2
      have hts : l.take (j + 1) = l.take j ++ [l[j]] := (List.take_append_getElem hjl).symm
      have hmem := List.getElem_mem hjl
      clear hcell
      generalize l[j] = x at *
      obtain ⟨o', d'⟩ := x
      have HX := Lib.hid (And.intro hts hmem)
      clear hts hmem
      subst ha
      simp only at r0 r1
      unfold S at r0 r1
      cases hr : roleEq (o', d') (o, d) with
      | true =>
        have HF : Hid (decide ((o, d) ∈ l) = true) := Lib.hid (by rw [roleEq_eq, decide_eq_true_eq] at hr; have := HX.out.2; rw [hr] at this; simpa using this)
        go_wp2_with ((first
              | ((with_reducible refine wl_box ?_ (fun K hK => ?_)); rfl; refine owp_box (o := ⟨some 3, _, _, _, _, _⟩) rfl st ?_; apply Exists.intro; refine ⟨?_, ?_⟩; (focus (go_simp; try rfl)); (clear st; intro b3 w hb st; clear hb))
              | ((with_reducible refine wl_alloc ?_ (fun K hK => ?_)); rfl; refine owp_alloc (o := ⟨some 6, _, _, _, _, _⟩) rfl st ?_; apply Exists.intro; apply Exists.intro; refine ⟨?_, ?_⟩; (focus (first | (go_simp; done) | (go_simp; rfl))); (clear st; intro b6 w hb st; clear hb))
              | ((with_reducible refine wl_store ?_ (fun K hK => ?_)); rfl; refine owp_store rfl st ?_; apply Exists.intro; apply Exists.intro; refine ⟨?_, ?_, ?_⟩; (focus (go_simp; try rfl)); (focus (go_simp; try rfl)); (first | (with_reducible refine ⟨0, _, _, _, _, get0, rfl, rfl, ?_, ?_, ?_, ?_⟩) | (with_reducible refine ⟨1, _, _, _, _, get1, rfl, rfl, ?_, ?_, ?_, ?_⟩) | (with_reducible refine ⟨2, _, _, _, _, get2, rfl, rfl, ?_, ?_, ?_, ?_⟩) | (with_reducible refine ⟨3, _, _, _, _, get3, rfl, rfl, ?_, ?_, ?_, ?_⟩) | (with_reducible refine ⟨4, _, _, _, _, get4, rfl, rfl, ?_, ?_, ?_, ?_⟩) | (with_reducible refine ⟨5, _, _, _, _, get5, rfl, rfl, ?_, ?_, ?_, ?_⟩)); (kernel_rfl); (simp [Value.cells]); (rfl); (clear st; intro w st))); (try simp only [nsl, Value.cells, unB] at st); (try clear hc); have hc := st.facts; (try simp only [nfl, nft, Nat.reduceAdd] at hc))
        go_ret
        exact ⟨by rw [HF.out]; rfl, st.ext0⟩
      | false =>
        have HF : Hid ((o, d) ∉ l.take (j + 1)) := Lib.hid (by
          rw [roleEq_eq, decide_eq_false_iff_not] at hr
          rw [HX.out.1]
          intro q
          rcases List.mem_append.1 q with q | q
          · exact HT.out q
          · exact hr (List.mem_singleton.1 q).symm)
        go_wp2_with ((first
              | ((with_reducible refine wl_box ?_ (fun K hK => ?_)); rfl; refine owp_box (o := ⟨some 3, _, _, _, _, _⟩) rfl st ?_; apply Exists.intro; refine ⟨?_, ?_⟩; (focus (go_simp; try rfl)); (clear st; intro b3 w hb st; clear hb))
              | ((with_reducible refine wl_alloc ?_ (fun K hK => ?_)); rfl; refine owp_alloc (o := ⟨some 6, _, _, _, _, _⟩) rfl st ?_; apply Exists.intro; apply Exists.intro; refine ⟨?_, ?_⟩; (focus (first | (go_simp; done) | (go_simp; rfl))); (clear st; intro b6 w hb st; clear hb))
              | ((with_reducible refine wl_store ?_ (fun K hK => ?_)); rfl; refine owp_store rfl st ?_; apply Exists.intro; apply Exists.intro; refine ⟨?_, ?_, ?_⟩; (focus (go_simp; try rfl)); (focus (go_simp; try rfl)); (first | (with_reducible refine ⟨0, _, _, _, _, get0, rfl, rfl, ?_, ?_, ?_, ?_⟩) | (with_reducible refine ⟨1, _, _, _, _, get1, rfl, rfl, ?_, ?_, ?_, ?_⟩) | (with_reducible refine ⟨2, _, _, _, _, get2, rfl, rfl, ?_, ?_, ?_, ?_⟩) | (with_reducible refine ⟨3, _, _, _, _, get3, rfl, rfl, ?_, ?_, ?_, ?_⟩) | (with_reducible refine ⟨4, _, _, _, _, get4, rfl, rfl, ?_, ?_, ?_, ?_⟩) | (with_reducible refine ⟨5, _, _, _, _, get5, rfl, rfl, ?_, ?_, ?_, ?_⟩)); (kernel_rfl); (simp [Value.cells]); (rfl); (clear st; intro w st))); (try simp only [nsl, Value.cells, unB] at st); (try clear hc); have hc := st.facts; (try simp only [nfl, nft, Nat.reduceAdd] at hc))
        have st' := st.keep [0, 1] (by decide) (by simp)
        go_roundg (n - (j + 1))
        case measure => omega
        case rel => exact ⟨j + 1, by omega, by omega, by first | rfl | trivial | go_num, HF, by simpa [pick, S] using st'⟩
    · obtain rfl : j = n := by omega
      have HF : Hid (decide ((o, d) ∈ l) = false) := Lib.hid (by rw [decide_eq_false_iff_not]; have := HT.out; rwa [List.take_of_length_le (by have := HNL.out; omega)] at this)
      go_wp2_with ((first
            | ((with_reducible refine wl_box ?_ (fun K hK => ?_)); rfl; refine owp_box (o := ⟨some 3, _, _, _, _, _⟩) rfl st ?_; apply Exists.intro; refine ⟨?_, ?_⟩; (focus (go_simp; try rfl)); (clear st; intro b3 w hb st; clear hb))
            | ((with_reducible refine wl_alloc ?_ (fun K hK => ?_)); rfl; refine owp_alloc (o := ⟨some 6, _, _, _, _, _⟩) rfl st ?_; apply Exists.intro; apply Exists.intro; refine ⟨?_, ?_⟩; (focus (first | (go_simp; done) | (go_simp; rfl))); (clear st; intro b6 w hb st; clear hb))
            | ((with_reducible refine wl_store ?_ (fun K hK => ?_)); rfl; refine owp_store rfl st ?_; apply Exists.intro; apply Exists.intro; refine ⟨?_, ?_, ?_⟩; (focus (go_simp; try rfl)); (focus (go_simp; try rfl)); (first | (with_reducible refine ⟨0, _, _, _, _, get0, rfl, rfl, ?_, ?_, ?_, ?_⟩) | (with_reducible refine ⟨1, _, _, _, _, get1, rfl, rfl, ?_, ?_, ?_, ?_⟩) | (with_reducible refine ⟨2, _, _, _, _, get2, rfl, rfl, ?_, ?_, ?_, ?_⟩) | (with_reducible refine ⟨3, _, _, _, _, get3, rfl, rfl, ?_, ?_, ?_, ?_⟩) | (with_reducible refine ⟨4, _, _, _, _, get4, rfl, rfl, ?_, ?_, ?_, ?_⟩) | (with_reducible refine ⟨5, _, _, _, _, get5, rfl, rfl, ?_, ?_, ?_, ?_⟩)); (kernel_rfl); (simp [Value.cells]); (rfl); (clear st; intro w st))); (try simp only [nsl, Value.cells, unB] at st); (try clear hc); have hc := st.facts; (try simp only [nfl, nft, Nat.reduceAdd] at hc))
      go_ret
      exact ⟨by rw [HF.out]; rfl, st.ext0⟩
set_option maxRecDepth 100000 in
set_option maxHeartbeats 1000000 in
theorem refRoleSame_any (a : Option Addr) (n c : Nat) (l : List Role) (a' : Option Addr) (n' c' : Nat) (l' : List Role) (W : World) (h : Fl W a n l) (h' : Fl W a' n' l') (hn : n ≤ 9000000000000000000) (hn' : n' ≤ 9000000000000000000) :
    Calls Tryz.prog 17 #[.slice a n c, .slice a' n' c'] W fun e w' => e = .returned (.bool (decide (l = l'))) ∧ Ext W w' := by
  have H := Lib.hid h
  have H' := Lib.hid h'
  have HNL := Lib.hid (And.intro h.1 h'.1)
  clear h h'
  have st := Own.startOld W
  (try simp only [nsl, Value.cells, unB] at st)
  (try clear hc); have hc := st.facts; (try simp only [nfl, nft, Nat.reduceAdd] at hc)
  by_cases hnn : n = n'
  · subst hnn
    go_enter Tryz.func17, Tryz.ntmps17
    go_wp2_with fail
    go_loopw [13] (fun i wr => ∃ (j : Nat), j ≤ n ∧ i = .int .i64 (j : Int) ∧ Hid (l.take j = l'.take j) ∧ Own (fun _ => False) (fun _ => True) W [oldI W] wr) (fun i _ => n - (intOf i).toNat)
    case atStart => exact ⟨0, by omega, rfl, Lib.hid (by simp), st⟩
    case round =>
      obtain ⟨j, hj, rfl, HT, st'⟩ := hrel
      clear st hc
      have st := st'
      clear st'
      (try simp only [nsl, Value.cells, unB] at st)
      (try clear hc); have hc := st.facts; (try simp only [nfl, nft, Nat.reduceAdd] at hc)
      by_cases hjn : j < n
      · obtain ⟨b, off, ha, hcell⟩ := H.out.role (by omega)
        obtain ⟨b', off', ha', hcell'⟩ := H'.out.role (by omega)
        have hjl : j < l.length := by have := HNL.out; omega
        have hjl' : j < l'.length := by have := HNL.out; omega
        have HC := Lib.hid (And.intro (hcell j l[j] (List.getElem?_eq_getElem hjl)) (hcell' j l'[j] (List.getElem?_eq_getElem hjl')))
        have hts : l.take (j + 1) = l.take j ++ [l[j]] := (List.take_append_getElem hjl).symm
        have hts' : l'.take (j + 1) = l'.take j ++ [l'[j]] := (List.take_append_getElem hjl').symm
        have hne : l[j] ≠ l'[j] → l ≠ l' := fun h1 h2 => h1 (by subst h2; rfl)
        clear hcell hcell'
        generalize l[j] = x at *
        generalize l'[j] = y at *
        obtain ⟨o, d⟩ := x
        obtain ⟨o', d'⟩ := y
        have HX := Lib.hid (And.intro hts (And.intro hts' hne))
        clear hts hts' hne
        subst ha
        subst ha'
        simp only at HC
        unfold S at HC
        go_wp2_with fail
        refine Rg4.wp_region4_eq #[0, 0, 3, 7, 0, 0, 48, 112, 255] [] [3, 7] (fun _ => True) [0, 1, 2, 3, 4, 5, 6, 7, 8] (by kernel_rfl) (by kernel_rfl) (by kernel_rfl) (by kernel_rfl) (show Rg4.PB _ by repeat (first | with_reducible exact Rg4.pb_body | with_reducible exact Rg4.pb_bodyD rfl | with_reducible refine Rg4.pb_then ?_ | with_reducible refine Rg4.pb_inBlock ?_ | with_reducible refine Rg4.pb_noGoto ?_)) (trivial) ?_
        replace st := st.drew
        change Rg4.wp4 _ _ _ _ _ _ _ _ _ (World.drew _) _ _
        generalize World.drew _ = w at st ⊢
        (try clear hc); have hc := st.facts; (try simp only [nfl, nft, Nat.reduceAdd] at hc)
        iterate 3 (refine Rg4.w4_any (Rg4.want_none rfl) rfl ?_; apply Exists.intro; refine ⟨fun w' => ?_, ?_⟩; (focus (first | (go_simp; done) | (go_simp; first | rfl | (rw [if_neg] <;> first | rfl | omega) | (rw [if_pos] <;> first | rfl | omega)))); (try simp only [Rg4.nrm]))
        (refine Rg4.w4_read (Rg4.want_none rfl) rfl rfl ?_; apply Exists.intro; refine ⟨fun w' hw' hcl' => ?_, ?_⟩; focus (subst hw'; have r0 := st.oldCell (i := 0) get0 HC.out.1.1; have r1 := st.oldCell (i := 0) get0 HC.out.1.2; have r2 := st.oldCell (i := 0) get0 HC.out.2.1; have r3 := st.oldCell (i := 0) get0 HC.out.2.2; (focus (first | (go_simp; done) | (go_simp; first | rfl | (rw [if_neg] <;> first | rfl | omega) | (rw [if_pos] <;> first | rfl | omega))))); (try simp only [Rg4.nrm]))
        iterate 3 (refine Rg4.w4_any (Rg4.want_none rfl) rfl ?_; apply Exists.intro; refine ⟨fun w' => ?_, ?_⟩; (focus (first | (go_simp; done) | (go_simp; first | rfl | (rw [if_neg] <;> first | rfl | omega) | (rw [if_pos] <;> first | rfl | omega)))); (try simp only [Rg4.nrm]))
        (refine Rg4.w4_read (Rg4.want_none rfl) rfl rfl ?_; apply Exists.intro; refine ⟨fun w' hw' hcl' => ?_, ?_⟩; focus (subst hw'; have r0 := st.oldCell (i := 0) get0 HC.out.1.1; have r1 := st.oldCell (i := 0) get0 HC.out.1.2; have r2 := st.oldCell (i := 0) get0 HC.out.2.1; have r3 := st.oldCell (i := 0) get0 HC.out.2.2; (focus (first | (go_simp; done) | (go_simp; first | rfl | (rw [if_neg] <;> first | rfl | omega) | (rw [if_pos] <;> first | rfl | omega))))); (try simp only [Rg4.nrm]))
        (refine Rg4.w4_any (Rg4.want_none rfl) rfl ?_; apply Exists.intro; refine ⟨fun w' => ?_, ?_⟩; (focus (first | (go_simp; done) | (go_simp; first | rfl | (rw [if_neg] <;> first | rfl | omega) | (rw [if_pos] <;> first | rfl | omega)))); (try simp only [Rg4.nrm]))
        refine Rg4.w4_nil (fun w' hw' hcl' _ => ?_); subst hw'; clear hcl'
        cases hxy : roleEq (o, d) (o', d') with
        | true =>
          have hb : (!true) = false := rfl
          have HF : Hid (l.take (j + 1) = l'.take (j + 1)) := Lib.hid (by rw [roleEq_eq, decide_eq_true_eq] at hxy; rw [HX.out.1, HX.out.2.1, HT.out, hxy])
          clear hxy
          simp only [hb]
          go_wp2_with fail
          exact ⟨⟨j + 1, by omega, by go_num, HF, st⟩, by simp [intOf]; omega⟩
        | false =>
          have hb : (!false) = true := rfl
          have HF : Hid (l ≠ l') := Lib.hid (HX.out.2.2 (by rw [roleEq_eq, decide_eq_false_iff_not] at hxy; exact hxy))
          clear hxy
          simp only [hb]
          go_wp2_with fail
          go_ret
          exact ⟨by rw [decide_eq_false HF.out]; rfl, st.ext0⟩
      · obtain rfl : j = n := by omega
        have HF : Hid (l = l') := Lib.hid (by have := HT.out; rw [List.take_of_length_le (by have := HNL.out; omega), List.take_of_length_le (by have := HNL.out; omega)] at this; exact this)
        go_wp2_with fail
        go_ret
        exact ⟨by rw [decide_eq_true HF.out]; rfl, st.ext0⟩
  · have HF : Hid (l ≠ l') := Lib.hid (fun h => hnn (by rw [HNL.out.1, HNL.out.2, h]))
    go_enter Tryz.func17, Tryz.ntmps17
    go_wp2_with fail
    go_ret
    exact ⟨by rw [decide_eq_false HF.out]; rfl, st.ext0⟩
set_option maxRecDepth 100000 in
set_option maxHeartbeats 1000000 in
theorem roleIndex_any (a : Option Addr) (n c : Nat) (l : List Role) (y : Role) (W : World) (h : Fl W a n l) (hn : n ≤ 2000000) :
    Calls Tryz.prog 78 #[.slice a n c, rV y] W fun e w' => ∃ v : Int, e = .returned (.int .i64 v) ∧ (0 ≤ v ↔ y ∈ l) ∧ Ext W w' := by
  have H := Lib.hid h
  have HNL := Lib.hid h.1
  clear h
  obtain ⟨o, d⟩ := y
  have st := Own.startOld W
  unfold rV S
  (try simp only [nsl, Value.cells, unB] at st)
  (try clear hc); have hc := st.facts; (try simp only [nfl, nft, Nat.reduceAdd] at hc)
  go_enter Tryz.func78, Tryz.ntmps78
  go_wp2_with ((((with_reducible refine wl_box ?_ (fun K hK => ?_)); rfl; refine owp_box (o := ⟨some 3, _, _, _, _, _⟩) rfl st ?_; apply Exists.intro; refine ⟨?_, ?_⟩; (focus (go_simp; try rfl)); (clear st; intro b3 w hb st; clear hb))); (try simp only [nsl, Value.cells, unB] at st); (try clear hc); have hc := st.facts; (try simp only [nfl, nft, Nat.reduceAdd] at hc))
  go_loopg [8] n (fun k i wr => ∃ (j : Nat), j ≤ n ∧ k = n - j ∧ i = .int .i64 (j : Int) ∧ Hid ((o, d) ∉ l.take j) ∧ Own (fun _ => False) (fun _ => True) W [oldI W, blkI b3 [S o, S d]] wr)
  case atStart => exact ⟨0, by omega, by omega, rfl, Lib.hid (by simp), st⟩
  case round =>
    obtain ⟨j, hj, rfl, rfl, HT, st'⟩ := hrel
    clear st hc
    have st := st'
    clear st'
    unfold S at st
    (try simp only [nsl, Value.cells, unB] at st)
    (try clear hc); have hc := st.facts; (try simp only [nfl, nft, Nat.reduceAdd] at hc)
    by_cases hjn : j < n
    · obtain ⟨b, off, ha, hcell⟩ := H.out.role (by omega)
      have hjl : j < l.length := by have := HNL.out; omega
      have HC := Lib.hid (hcell j l[j] (List.getElem?_eq_getElem hjl))
      have hts : l.take (j + 1) = l.take j ++ [l[j]] := (List.take_append_getElem hjl).symm
      have hmem := List.getElem_mem hjl
      clear hcell
      generalize l[j] = x at *
      obtain ⟨o', d'⟩ := x
      have HX := Lib.hid (And.intro hts hmem)
      clear hts hmem
      subst ha
      simp only at HC
      unfold S at HC
      go_wp2_with ((((with_reducible refine wl_box ?_ (fun K hK => ?_)); rfl; refine owp_box (o := ⟨some 3, _, _, _, _, _⟩) rfl st ?_; apply Exists.intro; refine ⟨?_, ?_⟩; (focus (go_simp; try rfl)); (clear st; intro b3 w hb st; clear hb))); (try simp only [nsl, Value.cells, unB] at st); (try clear hc); have hc := st.facts; (try simp only [nfl, nft, Nat.reduceAdd] at hc))
      refine Rg4.wp_region4_eq #[0, 0, 0, 6, 14, 31] [] [0, 4] (fun _ => True) [0, 1, 2, 3, 4, 5] (by kernel_rfl) (by kernel_rfl) (by kernel_rfl) (by kernel_rfl) (show Rg4.PB _ by repeat (first | with_reducible exact Rg4.pb_body | with_reducible exact Rg4.pb_bodyD rfl | with_reducible refine Rg4.pb_then ?_ | with_reducible refine Rg4.pb_inBlock ?_ | with_reducible refine Rg4.pb_noGoto ?_)) (trivial) ?_
      replace st := st.drew
      change Rg4.wp4 _ _ _ _ _ _ _ _ _ (World.drew _) _ _
      generalize World.drew _ = w at st ⊢
      (try clear hc); have hc := st.facts; (try simp only [nfl, nft, Nat.reduceAdd] at hc)
      (refine Rg4.w4_read (Rg4.want_none rfl) rfl rfl ?_; apply Exists.intro; refine ⟨fun w' hw' hcl' => ?_, ?_⟩; focus (subst hw'; have r0 := st.oldCell (i := 0) get0 HC.out.1; have r1 := st.oldCell (i := 0) get0 HC.out.2; (focus (first | (go_simp; done) | (go_simp; first | rfl | (rw [if_neg] <;> first | rfl | omega) | (rw [if_pos] <;> first | rfl | omega))))); (try simp only [Rg4.nrm]))
      iterate 3 (refine Rg4.w4_any (Rg4.want_none rfl) rfl ?_; apply Exists.intro; refine ⟨fun w' => ?_, ?_⟩; (focus (first | (go_simp; done) | (go_simp; first | rfl | (rw [if_neg] <;> first | rfl | omega) | (rw [if_pos] <;> first | rfl | omega)))); (try simp only [Rg4.nrm]))
      (refine Rg4.w4_read (Rg4.want_none rfl) rfl rfl ?_; apply Exists.intro; refine ⟨fun w' hw' hcl' => ?_, ?_⟩; focus (subst hw'; have r0 := st.oldCell (i := 0) get0 HC.out.1; have r1 := st.oldCell (i := 0) get0 HC.out.2; (focus (first | (go_simp; done) | (go_simp; first | rfl | (rw [if_neg] <;> first | rfl | omega) | (rw [if_pos] <;> first | rfl | omega))))); (try simp only [Rg4.nrm]))
      (refine Rg4.w4_any (Rg4.want_none rfl) rfl ?_; apply Exists.intro; refine ⟨fun w' => ?_, ?_⟩; (focus (first | (go_simp; done) | (go_simp; first | rfl | (rw [if_neg] <;> first | rfl | omega) | (rw [if_pos] <;> first | rfl | omega)))); (try simp only [Rg4.nrm]))
      refine Rg4.w4_nil (fun w' hw' hcl' _ => ?_); subst hw'; clear hcl'
      cases hr : roleEq (o, d) (o', d') with
      | true =>
        have HF : Hid ((o, d) ∈ l) := Lib.hid (by rw [roleEq_eq, decide_eq_true_eq] at hr; rw [hr]; exact HX.out.2)
        clear hr
        go_wp2_with ((((with_reducible refine wl_box ?_ (fun K hK => ?_)); rfl; refine owp_box (o := ⟨some 3, _, _, _, _, _⟩) rfl st ?_; apply Exists.intro; refine ⟨?_, ?_⟩; (focus (go_simp; try rfl)); (clear st; intro b3 w hb st; clear hb))); (try simp only [nsl, Value.cells, unB] at st); (try clear hc); have hc := st.facts; (try simp only [nfl, nft, Nat.reduceAdd] at hc))
        go_ret
        exact ⟨_, rfl, ⟨fun _ => HF.out, fun _ => by omega⟩, st.ext0⟩
      | false =>
        have HF : Hid ((o, d) ∉ l.take (j + 1)) := Lib.hid (by
          rw [roleEq_eq, decide_eq_false_iff_not] at hr
          rw [HX.out.1]
          intro q
          rcases List.mem_append.1 q with q | q
          · exact HT.out q
          · exact hr (List.mem_singleton.1 q))
        clear hr
        go_wp2_with ((((with_reducible refine wl_box ?_ (fun K hK => ?_)); rfl; refine owp_box (o := ⟨some 3, _, _, _, _, _⟩) rfl st ?_; apply Exists.intro; refine ⟨?_, ?_⟩; (focus (go_simp; try rfl)); (clear st; intro b3 w hb st; clear hb))); (try simp only [nsl, Value.cells, unB] at st); (try clear hc); have hc := st.facts; (try simp only [nfl, nft, Nat.reduceAdd] at hc))
        go_roundg (n - (j + 1))
        case measure => omega
        case rel => exact ⟨j + 1, by omega, by omega, by first | rfl | trivial | go_num, HF, by simpa [S] using st⟩
    · obtain rfl : j = n := by omega
      have HF : Hid ((o, d) ∉ l) := Lib.hid (by have := HT.out; rwa [List.take_of_length_le (by have := HNL.out; omega)] at this)
      go_wp2_with ((((with_reducible refine wl_box ?_ (fun K hK => ?_)); rfl; refine owp_box (o := ⟨some 3, _, _, _, _, _⟩) rfl st ?_; apply Exists.intro; refine ⟨?_, ?_⟩; (focus (go_simp; try rfl)); (clear st; intro b3 w hb st; clear hb))); (try simp only [nsl, Value.cells, unB] at st); (try clear hc); have hc := st.facts; (try simp only [nfl, nft, Nat.reduceAdd] at hc))
      go_ret
      exact ⟨_, rfl, ⟨fun q => by omega, fun q => absurd q HF.out⟩, st.ext0⟩
set_option maxRecDepth 100000 in
set_option maxHeartbeats 1000000 in
theorem roleContains_any (a : Option Addr) (n c : Nat) (l : List Role) (y : Role) (W : World) (h : Fl W a n l) (hn : n ≤ 2000000) :
    Calls Tryz.prog 52 #[.slice a n c, rV y] W fun e w' => e = .returned (.bool (decide (y ∈ l))) ∧ Ext W w' := by
  have H := Lib.hid h
  clear h
  have HI := Lib.hid (roleIndex_any a n c l y)
  obtain ⟨o, d⟩ := y
  have st := Own.startOld W
  unfold rV S at *
  (try simp only [nsl, Value.cells, unB] at st)
  (try clear hc); have hc := st.facts; (try simp only [nfl, nft, Nat.reduceAdd] at hc)
  go_enter Tryz.func52, Tryz.ntmps52
  go_wp2_with ((((with_reducible refine wl_box ?_ (fun K hK => ?_)); rfl; refine owp_box (o := ⟨some 3, _, _, _, _, _⟩) rfl st ?_; apply Exists.intro; refine ⟨?_, ?_⟩; (focus (go_simp; try rfl)); (clear st; intro b3 w hb st; clear hb))); (try simp only [nsl, Value.cells, unB] at st); (try clear hc); have hc := st.facts; (try simp only [nfl, nft, Nat.reduceAdd] at hc))
  refine (HI.out _ (st.oldFl (i := 0) get0 H.out) hn).mono ?_
  rintro en w' ⟨v, rfl, hv, hx⟩
  replace st := st.ext hx
  clear hx
  by_cases h0 : 0 ≤ v
  · have HF : Hid ((o, d) ∈ l) := Lib.hid (hv.1 h0)
    clear hv
    go_wp2_with ((((with_reducible refine wl_box ?_ (fun K hK => ?_)); rfl; refine owp_box (o := ⟨some 3, _, _, _, _, _⟩) rfl st ?_; apply Exists.intro; refine ⟨?_, ?_⟩; (focus (go_simp; try rfl)); (clear st; intro b3 w hb st; clear hb))); (try simp only [nsl, Value.cells, unB] at st); (try clear hc); have hc := st.facts; (try simp only [nfl, nft, Nat.reduceAdd] at hc))
    go_ret
    exact ⟨by rw [decide_eq_true HF.out]; simp [h0], st.ext0⟩
  · have HF : Hid ((o, d) ∉ l) := Lib.hid (fun q => h0 (hv.2 q))
    clear hv
    go_wp2_with ((((with_reducible refine wl_box ?_ (fun K hK => ?_)); rfl; refine owp_box (o := ⟨some 3, _, _, _, _, _⟩) rfl st ?_; apply Exists.intro; refine ⟨?_, ?_⟩; (focus (go_simp; try rfl)); (clear st; intro b3 w hb st; clear hb))); (try simp only [nsl, Value.cells, unB] at st); (try clear hc); have hc := st.facts; (try simp only [nfl, nft, Nat.reduceAdd] at hc))
    go_ret
    exact ⟨by rw [decide_eq_false HF.out]; simp; omega, st.ext0⟩
end Go.Proofs.YtcihjohgmhebiaaGreat

namespace Go.Proofs.YtcihjohgmhebiaaGreat
set_option linter.unusedSimpArgs false
set_option linter.unusedVariables false
open Go Go.RowKit
set_option maxRecDepth 100000 in
set_option maxHeartbeats 1000000 in
theorem fmSize_any (f : Fm) (W : World) (h : FmOk W f) (hs : f.strip.nodes ≤ 1000000000) :
    Calls Tryz.prog 41 #[fmV f] W fun e w' => ∃ n d, e = .returned (.tuple #[.int .i64 ((n : Nat) : Int), .int .i64 ((d : Nat) : Int)]) ∧ ((f.strip.nodes ≤ 4096 → n = f.strip.nodes ∧ d = f.strip.deep) ∧ (4096 < f.strip.nodes → n = 0 ∧ d = 0)) ∧ Ext W w' := by
  have HC := Lib.hid (fun W' (hx : Ext W W') => fmCount_any f W' 4096 (h.ext hx) hs (by omega))
  obtain ⟨op, k, ⟨o, d⟩, a, n, c, kids⟩ := f
  generalize (Fm.mk op k (o, d) a n c kids).strip.nodes = N1 at *
  generalize (Fm.mk op k (o, d) a n c kids).strip.deep = D1 at *
  clear h hs
  have st := Own.startOld W
  unfold fmV S at HC ⊢
  simp only at HC ⊢
  rw [show ((4096 : Nat) : Int) = 4096 from rfl] at HC
  (try simp only [nsl, Value.cells, unB] at st)
  (try clear hc); have hc := st.facts; (try simp only [nfl, nft, Nat.reduceAdd] at hc)
  go_enter Tryz.func41, Tryz.ntmps41
  go_wp2_with ((((with_reducible refine wl_box ?_ (fun K hK => ?_)); rfl; refine owp_box (o := ⟨some 1, _, _, _, _, _⟩) rfl st ?_; apply Exists.intro; refine ⟨?_, ?_⟩; (focus (go_simp; try rfl)); (clear st; intro b1 w hb st; clear hb))); (try simp only [nsl, Value.cells, unB] at st); (try clear hc); have hc := st.facts; (try simp only [nfl, nft, Nat.reduceAdd] at hc))
  refine (HC.out _ st.ext0).mono ?_
  rintro en w ⟨n1, d1, rfl, hcn, hx⟩
  replace st := st.ext hx
  clear hx
  have HCN := Lib.hid hcn
  clear hcn
  by_cases hb : 4096 < n1
  · have hbi : (4096 : Int) < (n1 : Int) := by omega
    clear hb
    have HB := Lib.hid hbi
    (try simp only [nsl, Value.cells, unB] at st)
    (try clear hc); have hc := st.facts; (try simp only [nfl, nft, Nat.reduceAdd] at hc)
    go_wp2_with ((((with_reducible refine wl_box ?_ (fun K hK => ?_)); rfl; refine owp_box (o := ⟨some 1, _, _, _, _, _⟩) rfl st ?_; apply Exists.intro; refine ⟨?_, ?_⟩; (focus (go_simp; try rfl)); (clear st; intro b1 w hb st; clear hb))); (try simp only [nsl, Value.cells, unB] at st); (try clear hc); have hc := st.facts; (try simp only [nfl, nft, Nat.reduceAdd] at hc))
    go_ret2
    exact ⟨0, 0, rfl, by have h1 := HCN.out; have h2 := HB.out; unfold CntIs at h1; omega, st.ext0⟩
  · have hbi : ¬ (4096 : Int) < (n1 : Int) := by omega
    clear hb
    have HB := Lib.hid hbi
    (try simp only [nsl, Value.cells, unB] at st)
    (try clear hc); have hc := st.facts; (try simp only [nfl, nft, Nat.reduceAdd] at hc)
    go_wp2_with ((((with_reducible refine wl_box ?_ (fun K hK => ?_)); rfl; refine owp_box (o := ⟨some 1, _, _, _, _, _⟩) rfl st ?_; apply Exists.intro; refine ⟨?_, ?_⟩; (focus (go_simp; try rfl)); (clear st; intro b1 w hb st; clear hb))); (try simp only [nsl, Value.cells, unB] at st); (try clear hc); have hc := st.facts; (try simp only [nfl, nft, Nat.reduceAdd] at hc))
    go_ret2
    exact ⟨n1, d1, rfl, by have h1 := HCN.out; have h2 := HB.out; unfold CntIs at h1; omega, st.ext0⟩
set_option maxRecDepth 100000 in
set_option maxHeartbeats 2000000 in
theorem fmNode_any (op k : Int) (o d : List UInt8) (a : Option Addr) (n c : Nat) (W : World) (h1 : o.length ≤ 100000) (h2 : d.length ≤ 100000) :
    Calls Tryz.prog 57 #[.agg #[.int .i64 op, .int .i64 k, .string ⟨o.toArray⟩, .string ⟨d.toArray⟩, .slice a n c]] W fun e w' => e = .returned (.bool (nodeR op k (o, d) n)) ∧ Ext W w' := by
  have HRo := Lib.hid (fun W => roleRight_any (o, d) W h1 h2)
  unfold rV S at HRo
  simp only at HRo
  clear h1 h2
  have HV : Hid (nodeR op k (o, d) n = (if op = 1 then roleR (o, d) && decide (n = 0) && decide (k = 0) else if op = 2 ∨ op = 3 then roleEq (o, d) ([], []) && decide (k = 0) else decide (op = 4) && roleEq (o, d) ([], []) && decide (0 ≤ k) && decide (k ≤ (n : Int)) && decide (1 ≤ n))) := Lib.hid (by unfold nodeR; rw [roleEq_eq])
  obtain ⟨v, hv⟩ : ∃ v, nodeR op k (o, d) n = v := ⟨_, rfl⟩
  rw [hv] at HV ⊢
  clear hv
  obtain ⟨e, he⟩ : ∃ v, roleEq (o, d) ([], []) = v := ⟨_, rfl⟩
  have heq := eqRole o d [] []
  rw [he] at HV heq
  clear he
  have st := Own.startOld W
  by_cases o1 : op = 1
  · subst o1
    have HV2 := Lib.hid (HV.out.trans (if_pos rfl))
    clear HV heq
    have b1 : ((1 : Int) == 1) = true := rfl
    (try simp only [nsl, Value.cells, unB] at st)
    (try clear hc); have hc := st.facts; (try simp only [nfl, nft, Nat.reduceAdd] at hc)
    go_enter Tryz.func57, Tryz.ntmps57
    go_wp2_with ((first
          | ((with_reducible refine wl_box ?_ (fun K hK => ?_)); rfl; refine owp_box (o := ⟨some 1, _, _, _, _, _⟩) rfl st ?_; apply Exists.intro; refine ⟨?_, ?_⟩; (focus (go_simp; try rfl)); (clear st; intro b1 w hb st; clear hb))
          | ((with_reducible refine wl_alloc ?_ (fun K hK => ?_)); rfl; refine owp_alloc (o := ⟨some 3, _, _, _, _, _⟩) rfl st ?_; apply Exists.intro; apply Exists.intro; refine ⟨?_, ?_⟩; (focus (first | (go_simp; done) | (go_simp; rfl))); (clear st; intro b3 w hb st; clear hb))
          | ((with_reducible refine wl_store ?_ (fun K hK => ?_)); rfl; refine owp_store rfl st ?_; apply Exists.intro; apply Exists.intro; refine ⟨?_, ?_, ?_⟩; (focus (go_simp; try rfl)); (focus (go_simp; try rfl)); (first | (with_reducible refine ⟨0, _, _, _, _, get0, rfl, rfl, ?_, ?_, ?_, ?_⟩) | (with_reducible refine ⟨1, _, _, _, _, get1, rfl, rfl, ?_, ?_, ?_, ?_⟩) | (with_reducible refine ⟨2, _, _, _, _, get2, rfl, rfl, ?_, ?_, ?_, ?_⟩) | (with_reducible refine ⟨3, _, _, _, _, get3, rfl, rfl, ?_, ?_, ?_, ?_⟩)); (kernel_rfl); (simp [Value.cells]); (rfl); (clear st; intro w st))); (try simp only [nsl, Value.cells, unB] at st); (try clear hc); have hc := st.facts; (try simp only [nfl, nft, Nat.reduceAdd] at hc))
    refine (HRo.out _).mono ?_
    rintro en w ⟨rfl, hx⟩
    replace st := st.ext hx
    clear hx
    (try clear hc); have hc := st.facts; (try simp only [nfl, nft, Nat.reduceAdd] at hc)
    cases hr : roleR (o, d) with
    | false =>
      have H : Hid (v = false) := Lib.hid (by rw [HV2.out, hr]; rfl)
      clear hr
      go_wp2_with ((first
            | ((with_reducible refine wl_box ?_ (fun K hK => ?_)); rfl; refine owp_box (o := ⟨some 1, _, _, _, _, _⟩) rfl st ?_; apply Exists.intro; refine ⟨?_, ?_⟩; (focus (go_simp; try rfl)); (clear st; intro b1 w hb st; clear hb))
            | ((with_reducible refine wl_alloc ?_ (fun K hK => ?_)); rfl; refine owp_alloc (o := ⟨some 3, _, _, _, _, _⟩) rfl st ?_; apply Exists.intro; apply Exists.intro; refine ⟨?_, ?_⟩; (focus (first | (go_simp; done) | (go_simp; rfl))); (clear st; intro b3 w hb st; clear hb))
            | ((with_reducible refine wl_store ?_ (fun K hK => ?_)); rfl; refine owp_store rfl st ?_; apply Exists.intro; apply Exists.intro; refine ⟨?_, ?_, ?_⟩; (focus (go_simp; try rfl)); (focus (go_simp; try rfl)); (first | (with_reducible refine ⟨0, _, _, _, _, get0, rfl, rfl, ?_, ?_, ?_, ?_⟩) | (with_reducible refine ⟨1, _, _, _, _, get1, rfl, rfl, ?_, ?_, ?_, ?_⟩) | (with_reducible refine ⟨2, _, _, _, _, get2, rfl, rfl, ?_, ?_, ?_, ?_⟩) | (with_reducible refine ⟨3, _, _, _, _, get3, rfl, rfl, ?_, ?_, ?_, ?_⟩)); (kernel_rfl); (simp [Value.cells]); (rfl); (clear st; intro w st))); (try simp only [nsl, Value.cells, unB] at st); (try clear hc); have hc := st.facts; (try simp only [nfl, nft, Nat.reduceAdd] at hc))
      go_ret
      exact ⟨by rw [H.out] <;> rfl, st.ext0⟩
    | true =>
      by_cases n0 : n = 0
      · subst n0
        by_cases k0 : k = 0
        · subst k0
          have H : Hid (v = true) := Lib.hid (by rw [HV2.out, hr]; rfl)
          clear hr
          go_wp2_with ((first
                | ((with_reducible refine wl_box ?_ (fun K hK => ?_)); rfl; refine owp_box (o := ⟨some 1, _, _, _, _, _⟩) rfl st ?_; apply Exists.intro; refine ⟨?_, ?_⟩; (focus (go_simp; try rfl)); (clear st; intro b1 w hb st; clear hb))
                | ((with_reducible refine wl_alloc ?_ (fun K hK => ?_)); rfl; refine owp_alloc (o := ⟨some 3, _, _, _, _, _⟩) rfl st ?_; apply Exists.intro; apply Exists.intro; refine ⟨?_, ?_⟩; (focus (first | (go_simp; done) | (go_simp; rfl))); (clear st; intro b3 w hb st; clear hb))
                | ((with_reducible refine wl_store ?_ (fun K hK => ?_)); rfl; refine owp_store rfl st ?_; apply Exists.intro; apply Exists.intro; refine ⟨?_, ?_, ?_⟩; (focus (go_simp; try rfl)); (focus (go_simp; try rfl)); (first | (with_reducible refine ⟨0, _, _, _, _, get0, rfl, rfl, ?_, ?_, ?_, ?_⟩) | (with_reducible refine ⟨1, _, _, _, _, get1, rfl, rfl, ?_, ?_, ?_, ?_⟩) | (with_reducible refine ⟨2, _, _, _, _, get2, rfl, rfl, ?_, ?_, ?_, ?_⟩) | (with_reducible refine ⟨3, _, _, _, _, get3, rfl, rfl, ?_, ?_, ?_, ?_⟩)); (kernel_rfl); (simp [Value.cells]); (rfl); (clear st; intro w st))); (try simp only [nsl, Value.cells, unB] at st); (try clear hc); have hc := st.facts; (try simp only [nfl, nft, Nat.reduceAdd] at hc))
          go_ret
          exact ⟨by rw [H.out] <;> rfl, st.ext0⟩
        · have H : Hid (v = false) := Lib.hid (by rw [HV2.out, hr]; simp [k0])
          have hk0 : (k == 0) = false := by simpa using k0
          clear hr k0
          go_wp2_with ((first
                | ((with_reducible refine wl_box ?_ (fun K hK => ?_)); rfl; refine owp_box (o := ⟨some 1, _, _, _, _, _⟩) rfl st ?_; apply Exists.intro; refine ⟨?_, ?_⟩; (focus (go_simp; try rfl)); (clear st; intro b1 w hb st; clear hb))
                | ((with_reducible refine wl_alloc ?_ (fun K hK => ?_)); rfl; refine owp_alloc (o := ⟨some 3, _, _, _, _, _⟩) rfl st ?_; apply Exists.intro; apply Exists.intro; refine ⟨?_, ?_⟩; (focus (first | (go_simp; done) | (go_simp; rfl))); (clear st; intro b3 w hb st; clear hb))
                | ((with_reducible refine wl_store ?_ (fun K hK => ?_)); rfl; refine owp_store rfl st ?_; apply Exists.intro; apply Exists.intro; refine ⟨?_, ?_, ?_⟩; (focus (go_simp; try rfl)); (focus (go_simp; try rfl)); (first | (with_reducible refine ⟨0, _, _, _, _, get0, rfl, rfl, ?_, ?_, ?_, ?_⟩) | (with_reducible refine ⟨1, _, _, _, _, get1, rfl, rfl, ?_, ?_, ?_, ?_⟩) | (with_reducible refine ⟨2, _, _, _, _, get2, rfl, rfl, ?_, ?_, ?_, ?_⟩) | (with_reducible refine ⟨3, _, _, _, _, get3, rfl, rfl, ?_, ?_, ?_, ?_⟩)); (kernel_rfl); (simp [Value.cells]); (rfl); (clear st; intro w st))); (try simp only [nsl, Value.cells, unB] at st); (try clear hc); have hc := st.facts; (try simp only [nfl, nft, Nat.reduceAdd] at hc))
          go_ret
          exact ⟨by rw [H.out] <;> rfl, st.ext0⟩
      · have H : Hid (v = false) := Lib.hid (by rw [HV2.out, hr]; simp [n0])
        have hn0 : ((n : Int) == 0) = false := by simp; omega
        clear hr n0
        go_wp2_with ((first
              | ((with_reducible refine wl_box ?_ (fun K hK => ?_)); rfl; refine owp_box (o := ⟨some 1, _, _, _, _, _⟩) rfl st ?_; apply Exists.intro; refine ⟨?_, ?_⟩; (focus (go_simp; try rfl)); (clear st; intro b1 w hb st; clear hb))
              | ((with_reducible refine wl_alloc ?_ (fun K hK => ?_)); rfl; refine owp_alloc (o := ⟨some 3, _, _, _, _, _⟩) rfl st ?_; apply Exists.intro; apply Exists.intro; refine ⟨?_, ?_⟩; (focus (first | (go_simp; done) | (go_simp; rfl))); (clear st; intro b3 w hb st; clear hb))
              | ((with_reducible refine wl_store ?_ (fun K hK => ?_)); rfl; refine owp_store rfl st ?_; apply Exists.intro; apply Exists.intro; refine ⟨?_, ?_, ?_⟩; (focus (go_simp; try rfl)); (focus (go_simp; try rfl)); (first | (with_reducible refine ⟨0, _, _, _, _, get0, rfl, rfl, ?_, ?_, ?_, ?_⟩) | (with_reducible refine ⟨1, _, _, _, _, get1, rfl, rfl, ?_, ?_, ?_, ?_⟩) | (with_reducible refine ⟨2, _, _, _, _, get2, rfl, rfl, ?_, ?_, ?_, ?_⟩) | (with_reducible refine ⟨3, _, _, _, _, get3, rfl, rfl, ?_, ?_, ?_, ?_⟩)); (kernel_rfl); (simp [Value.cells]); (rfl); (clear st; intro w st))); (try simp only [nsl, Value.cells, unB] at st); (try clear hc); have hc := st.facts; (try simp only [nfl, nft, Nat.reduceAdd] at hc))
        go_ret
        exact ⟨by rw [H.out] <;> rfl, st.ext0⟩
  · by_cases o2 : op = 2 ∨ op = 3
    · have HV2 := Lib.hid (HV.out.trans ((if_neg o1).trans (if_pos o2)))
      clear HV HRo
      have hkb : (k == 0) = decide (k = 0) := by by_cases q : k = 0 <;> simp [q]
      obtain ⟨kb, hkb2⟩ : ∃ b, decide (k = 0) = b := ⟨_, rfl⟩
      rw [hkb2] at hkb
      have H : Hid (v = (e && kb)) := Lib.hid (by rw [HV2.out, hkb2])
      clear hkb2 HV2
      rcases o2 with rfl | rfl
      · cases e with
        | false =>
          (try simp only [nsl, Value.cells, unB] at st)
          (try clear hc); have hc := st.facts; (try simp only [nfl, nft, Nat.reduceAdd] at hc)
          go_enter Tryz.func57, Tryz.ntmps57
          go_wp2_with ((first
                | ((with_reducible refine wl_box ?_ (fun K hK => ?_)); rfl; refine owp_box (o := ⟨some 1, _, _, _, _, _⟩) rfl st ?_; apply Exists.intro; refine ⟨?_, ?_⟩; (focus (go_simp; try rfl)); (clear st; intro b1 w hb st; clear hb))
                | ((with_reducible refine wl_alloc ?_ (fun K hK => ?_)); rfl; refine owp_alloc (o := ⟨some 3, _, _, _, _, _⟩) rfl st ?_; apply Exists.intro; apply Exists.intro; refine ⟨?_, ?_⟩; (focus (first | (go_simp; done) | (go_simp; rfl))); (clear st; intro b3 w hb st; clear hb))
                | ((with_reducible refine wl_store ?_ (fun K hK => ?_)); rfl; refine owp_store rfl st ?_; apply Exists.intro; apply Exists.intro; refine ⟨?_, ?_, ?_⟩; (focus (go_simp; try rfl)); (focus (go_simp; try rfl)); (first | (with_reducible refine ⟨0, _, _, _, _, get0, rfl, rfl, ?_, ?_, ?_, ?_⟩) | (with_reducible refine ⟨1, _, _, _, _, get1, rfl, rfl, ?_, ?_, ?_, ?_⟩) | (with_reducible refine ⟨2, _, _, _, _, get2, rfl, rfl, ?_, ?_, ?_, ?_⟩) | (with_reducible refine ⟨3, _, _, _, _, get3, rfl, rfl, ?_, ?_, ?_, ?_⟩)); (kernel_rfl); (simp [Value.cells]); (rfl); (clear st; intro w st))); (try simp only [nsl, Value.cells, unB] at st); (try clear hc); have hc := st.facts; (try simp only [nfl, nft, Nat.reduceAdd] at hc))
          go_ret
          exact ⟨by rw [H.out] <;> rfl, st.ext0⟩
        | true =>
          (try simp only [nsl, Value.cells, unB] at st)
          (try clear hc); have hc := st.facts; (try simp only [nfl, nft, Nat.reduceAdd] at hc)
          go_enter Tryz.func57, Tryz.ntmps57
          go_wp2_with ((first
                | ((with_reducible refine wl_box ?_ (fun K hK => ?_)); rfl; refine owp_box (o := ⟨some 1, _, _, _, _, _⟩) rfl st ?_; apply Exists.intro; refine ⟨?_, ?_⟩; (focus (go_simp; try rfl)); (clear st; intro b1 w hb st; clear hb))
                | ((with_reducible refine wl_alloc ?_ (fun K hK => ?_)); rfl; refine owp_alloc (o := ⟨some 3, _, _, _, _, _⟩) rfl st ?_; apply Exists.intro; apply Exists.intro; refine ⟨?_, ?_⟩; (focus (first | (go_simp; done) | (go_simp; rfl))); (clear st; intro b3 w hb st; clear hb))
                | ((with_reducible refine wl_store ?_ (fun K hK => ?_)); rfl; refine owp_store rfl st ?_; apply Exists.intro; apply Exists.intro; refine ⟨?_, ?_, ?_⟩; (focus (go_simp; try rfl)); (focus (go_simp; try rfl)); (first | (with_reducible refine ⟨0, _, _, _, _, get0, rfl, rfl, ?_, ?_, ?_, ?_⟩) | (with_reducible refine ⟨1, _, _, _, _, get1, rfl, rfl, ?_, ?_, ?_, ?_⟩) | (with_reducible refine ⟨2, _, _, _, _, get2, rfl, rfl, ?_, ?_, ?_, ?_⟩) | (with_reducible refine ⟨3, _, _, _, _, get3, rfl, rfl, ?_, ?_, ?_, ?_⟩)); (kernel_rfl); (simp [Value.cells]); (rfl); (clear st; intro w st))); (try simp only [nsl, Value.cells, unB] at st); (try clear hc); have hc := st.facts; (try simp only [nfl, nft, Nat.reduceAdd] at hc))
          go_ret
          exact ⟨by rw [H.out] <;> rfl, st.ext0⟩
      · cases e with
        | false =>
          (try simp only [nsl, Value.cells, unB] at st)
          (try clear hc); have hc := st.facts; (try simp only [nfl, nft, Nat.reduceAdd] at hc)
          go_enter Tryz.func57, Tryz.ntmps57
          go_wp2_with ((first
                | ((with_reducible refine wl_box ?_ (fun K hK => ?_)); rfl; refine owp_box (o := ⟨some 1, _, _, _, _, _⟩) rfl st ?_; apply Exists.intro; refine ⟨?_, ?_⟩; (focus (go_simp; try rfl)); (clear st; intro b1 w hb st; clear hb))
                | ((with_reducible refine wl_alloc ?_ (fun K hK => ?_)); rfl; refine owp_alloc (o := ⟨some 3, _, _, _, _, _⟩) rfl st ?_; apply Exists.intro; apply Exists.intro; refine ⟨?_, ?_⟩; (focus (first | (go_simp; done) | (go_simp; rfl))); (clear st; intro b3 w hb st; clear hb))
                | ((with_reducible refine wl_store ?_ (fun K hK => ?_)); rfl; refine owp_store rfl st ?_; apply Exists.intro; apply Exists.intro; refine ⟨?_, ?_, ?_⟩; (focus (go_simp; try rfl)); (focus (go_simp; try rfl)); (first | (with_reducible refine ⟨0, _, _, _, _, get0, rfl, rfl, ?_, ?_, ?_, ?_⟩) | (with_reducible refine ⟨1, _, _, _, _, get1, rfl, rfl, ?_, ?_, ?_, ?_⟩) | (with_reducible refine ⟨2, _, _, _, _, get2, rfl, rfl, ?_, ?_, ?_, ?_⟩) | (with_reducible refine ⟨3, _, _, _, _, get3, rfl, rfl, ?_, ?_, ?_, ?_⟩)); (kernel_rfl); (simp [Value.cells]); (rfl); (clear st; intro w st))); (try simp only [nsl, Value.cells, unB] at st); (try clear hc); have hc := st.facts; (try simp only [nfl, nft, Nat.reduceAdd] at hc))
          go_ret
          exact ⟨by rw [H.out] <;> rfl, st.ext0⟩
        | true =>
          (try simp only [nsl, Value.cells, unB] at st)
          (try clear hc); have hc := st.facts; (try simp only [nfl, nft, Nat.reduceAdd] at hc)
          go_enter Tryz.func57, Tryz.ntmps57
          go_wp2_with ((first
                | ((with_reducible refine wl_box ?_ (fun K hK => ?_)); rfl; refine owp_box (o := ⟨some 1, _, _, _, _, _⟩) rfl st ?_; apply Exists.intro; refine ⟨?_, ?_⟩; (focus (go_simp; try rfl)); (clear st; intro b1 w hb st; clear hb))
                | ((with_reducible refine wl_alloc ?_ (fun K hK => ?_)); rfl; refine owp_alloc (o := ⟨some 3, _, _, _, _, _⟩) rfl st ?_; apply Exists.intro; apply Exists.intro; refine ⟨?_, ?_⟩; (focus (first | (go_simp; done) | (go_simp; rfl))); (clear st; intro b3 w hb st; clear hb))
                | ((with_reducible refine wl_store ?_ (fun K hK => ?_)); rfl; refine owp_store rfl st ?_; apply Exists.intro; apply Exists.intro; refine ⟨?_, ?_, ?_⟩; (focus (go_simp; try rfl)); (focus (go_simp; try rfl)); (first | (with_reducible refine ⟨0, _, _, _, _, get0, rfl, rfl, ?_, ?_, ?_, ?_⟩) | (with_reducible refine ⟨1, _, _, _, _, get1, rfl, rfl, ?_, ?_, ?_, ?_⟩) | (with_reducible refine ⟨2, _, _, _, _, get2, rfl, rfl, ?_, ?_, ?_, ?_⟩) | (with_reducible refine ⟨3, _, _, _, _, get3, rfl, rfl, ?_, ?_, ?_, ?_⟩)); (kernel_rfl); (simp [Value.cells]); (rfl); (clear st; intro w st))); (try simp only [nsl, Value.cells, unB] at st); (try clear hc); have hc := st.facts; (try simp only [nfl, nft, Nat.reduceAdd] at hc))
          go_ret
          exact ⟨by rw [H.out] <;> rfl, st.ext0⟩
    · have HV2 := Lib.hid (HV.out.trans ((if_neg o1).trans (if_neg o2)))
      clear HV HRo
      have b1 : (op == 1) = false := by simpa using o1
      have b2 : (op == 2) = false := by simp; omega
      have b3 : (op == 3) = false := by simp; omega
      by_cases o4 : op = 4
      · subst o4
        clear b1 b2 b3 o1 o2
        cases e with
        | false =>
          have H : Hid (v = false) := Lib.hid (by rw [HV2.out]; rfl)
          (try simp only [nsl, Value.cells, unB] at st)
          (try clear hc); have hc := st.facts; (try simp only [nfl, nft, Nat.reduceAdd] at hc)
          go_enter Tryz.func57, Tryz.ntmps57
          go_wp2_with ((first
                | ((with_reducible refine wl_box ?_ (fun K hK => ?_)); rfl; refine owp_box (o := ⟨some 1, _, _, _, _, _⟩) rfl st ?_; apply Exists.intro; refine ⟨?_, ?_⟩; (focus (go_simp; try rfl)); (clear st; intro b1 w hb st; clear hb))
                | ((with_reducible refine wl_alloc ?_ (fun K hK => ?_)); rfl; refine owp_alloc (o := ⟨some 3, _, _, _, _, _⟩) rfl st ?_; apply Exists.intro; apply Exists.intro; refine ⟨?_, ?_⟩; (focus (first | (go_simp; done) | (go_simp; rfl))); (clear st; intro b3 w hb st; clear hb))
                | ((with_reducible refine wl_store ?_ (fun K hK => ?_)); rfl; refine owp_store rfl st ?_; apply Exists.intro; apply Exists.intro; refine ⟨?_, ?_, ?_⟩; (focus (go_simp; try rfl)); (focus (go_simp; try rfl)); (first | (with_reducible refine ⟨0, _, _, _, _, get0, rfl, rfl, ?_, ?_, ?_, ?_⟩) | (with_reducible refine ⟨1, _, _, _, _, get1, rfl, rfl, ?_, ?_, ?_, ?_⟩) | (with_reducible refine ⟨2, _, _, _, _, get2, rfl, rfl, ?_, ?_, ?_, ?_⟩) | (with_reducible refine ⟨3, _, _, _, _, get3, rfl, rfl, ?_, ?_, ?_, ?_⟩)); (kernel_rfl); (simp [Value.cells]); (rfl); (clear st; intro w st))); (try simp only [nsl, Value.cells, unB] at st); (try clear hc); have hc := st.facts; (try simp only [nfl, nft, Nat.reduceAdd] at hc))
          go_ret
          exact ⟨by rw [H.out] <;> rfl, st.ext0⟩
        | true =>
          by_cases k0 : 0 ≤ k
          · by_cases kn : k ≤ (n : Int)
            · by_cases n1 : 1 ≤ n
              · have H : Hid (v = true) := Lib.hid (by rw [HV2.out]; simp [k0, kn, n1])
                have n1i : (1 : Int) ≤ (n : Int) := by omega
                (try simp only [nsl, Value.cells, unB] at st)
                (try clear hc); have hc := st.facts; (try simp only [nfl, nft, Nat.reduceAdd] at hc)
                go_enter Tryz.func57, Tryz.ntmps57
                go_wp2_with ((first
                      | ((with_reducible refine wl_box ?_ (fun K hK => ?_)); rfl; refine owp_box (o := ⟨some 1, _, _, _, _, _⟩) rfl st ?_; apply Exists.intro; refine ⟨?_, ?_⟩; (focus (go_simp; try rfl)); (clear st; intro b1 w hb st; clear hb))
                      | ((with_reducible refine wl_alloc ?_ (fun K hK => ?_)); rfl; refine owp_alloc (o := ⟨some 3, _, _, _, _, _⟩) rfl st ?_; apply Exists.intro; apply Exists.intro; refine ⟨?_, ?_⟩; (focus (first | (go_simp; done) | (go_simp; rfl))); (clear st; intro b3 w hb st; clear hb))
                      | ((with_reducible refine wl_store ?_ (fun K hK => ?_)); rfl; refine owp_store rfl st ?_; apply Exists.intro; apply Exists.intro; refine ⟨?_, ?_, ?_⟩; (focus (go_simp; try rfl)); (focus (go_simp; try rfl)); (first | (with_reducible refine ⟨0, _, _, _, _, get0, rfl, rfl, ?_, ?_, ?_, ?_⟩) | (with_reducible refine ⟨1, _, _, _, _, get1, rfl, rfl, ?_, ?_, ?_, ?_⟩) | (with_reducible refine ⟨2, _, _, _, _, get2, rfl, rfl, ?_, ?_, ?_, ?_⟩) | (with_reducible refine ⟨3, _, _, _, _, get3, rfl, rfl, ?_, ?_, ?_, ?_⟩)); (kernel_rfl); (simp [Value.cells]); (rfl); (clear st; intro w st))); (try simp only [nsl, Value.cells, unB] at st); (try clear hc); have hc := st.facts; (try simp only [nfl, nft, Nat.reduceAdd] at hc))
                go_ret
                exact ⟨by rw [H.out] <;> rfl, st.ext0⟩
              · have H : Hid (v = false) := Lib.hid (by rw [HV2.out]; simp [n1])
                have n1i : ¬ (1 : Int) ≤ (n : Int) := by omega
                clear n1
                (try simp only [nsl, Value.cells, unB] at st)
                (try clear hc); have hc := st.facts; (try simp only [nfl, nft, Nat.reduceAdd] at hc)
                go_enter Tryz.func57, Tryz.ntmps57
                go_wp2_with ((first
                      | ((with_reducible refine wl_box ?_ (fun K hK => ?_)); rfl; refine owp_box (o := ⟨some 1, _, _, _, _, _⟩) rfl st ?_; apply Exists.intro; refine ⟨?_, ?_⟩; (focus (go_simp; try rfl)); (clear st; intro b1 w hb st; clear hb))
                      | ((with_reducible refine wl_alloc ?_ (fun K hK => ?_)); rfl; refine owp_alloc (o := ⟨some 3, _, _, _, _, _⟩) rfl st ?_; apply Exists.intro; apply Exists.intro; refine ⟨?_, ?_⟩; (focus (first | (go_simp; done) | (go_simp; rfl))); (clear st; intro b3 w hb st; clear hb))
                      | ((with_reducible refine wl_store ?_ (fun K hK => ?_)); rfl; refine owp_store rfl st ?_; apply Exists.intro; apply Exists.intro; refine ⟨?_, ?_, ?_⟩; (focus (go_simp; try rfl)); (focus (go_simp; try rfl)); (first | (with_reducible refine ⟨0, _, _, _, _, get0, rfl, rfl, ?_, ?_, ?_, ?_⟩) | (with_reducible refine ⟨1, _, _, _, _, get1, rfl, rfl, ?_, ?_, ?_, ?_⟩) | (with_reducible refine ⟨2, _, _, _, _, get2, rfl, rfl, ?_, ?_, ?_, ?_⟩) | (with_reducible refine ⟨3, _, _, _, _, get3, rfl, rfl, ?_, ?_, ?_, ?_⟩)); (kernel_rfl); (simp [Value.cells]); (rfl); (clear st; intro w st))); (try simp only [nsl, Value.cells, unB] at st); (try clear hc); have hc := st.facts; (try simp only [nfl, nft, Nat.reduceAdd] at hc))
                go_ret
                exact ⟨by rw [H.out] <;> rfl, st.ext0⟩
            · have H : Hid (v = false) := Lib.hid (by rw [HV2.out]; simp [kn])
              (try simp only [nsl, Value.cells, unB] at st)
              (try clear hc); have hc := st.facts; (try simp only [nfl, nft, Nat.reduceAdd] at hc)
              go_enter Tryz.func57, Tryz.ntmps57
              go_wp2_with ((first
                    | ((with_reducible refine wl_box ?_ (fun K hK => ?_)); rfl; refine owp_box (o := ⟨some 1, _, _, _, _, _⟩) rfl st ?_; apply Exists.intro; refine ⟨?_, ?_⟩; (focus (go_simp; try rfl)); (clear st; intro b1 w hb st; clear hb))
                    | ((with_reducible refine wl_alloc ?_ (fun K hK => ?_)); rfl; refine owp_alloc (o := ⟨some 3, _, _, _, _, _⟩) rfl st ?_; apply Exists.intro; apply Exists.intro; refine ⟨?_, ?_⟩; (focus (first | (go_simp; done) | (go_simp; rfl))); (clear st; intro b3 w hb st; clear hb))
                    | ((with_reducible refine wl_store ?_ (fun K hK => ?_)); rfl; refine owp_store rfl st ?_; apply Exists.intro; apply Exists.intro; refine ⟨?_, ?_, ?_⟩; (focus (go_simp; try rfl)); (focus (go_simp; try rfl)); (first | (with_reducible refine ⟨0, _, _, _, _, get0, rfl, rfl, ?_, ?_, ?_, ?_⟩) | (with_reducible refine ⟨1, _, _, _, _, get1, rfl, rfl, ?_, ?_, ?_, ?_⟩) | (with_reducible refine ⟨2, _, _, _, _, get2, rfl, rfl, ?_, ?_, ?_, ?_⟩) | (with_reducible refine ⟨3, _, _, _, _, get3, rfl, rfl, ?_, ?_, ?_, ?_⟩)); (kernel_rfl); (simp [Value.cells]); (rfl); (clear st; intro w st))); (try simp only [nsl, Value.cells, unB] at st); (try clear hc); have hc := st.facts; (try simp only [nfl, nft, Nat.reduceAdd] at hc))
              go_ret
              exact ⟨by rw [H.out] <;> rfl, st.ext0⟩
          · have H : Hid (v = false) := Lib.hid (by rw [HV2.out]; simp [k0])
            (try simp only [nsl, Value.cells, unB] at st)
            (try clear hc); have hc := st.facts; (try simp only [nfl, nft, Nat.reduceAdd] at hc)
            go_enter Tryz.func57, Tryz.ntmps57
            go_wp2_with ((first
                  | ((with_reducible refine wl_box ?_ (fun K hK => ?_)); rfl; refine owp_box (o := ⟨some 1, _, _, _, _, _⟩) rfl st ?_; apply Exists.intro; refine ⟨?_, ?_⟩; (focus (go_simp; try rfl)); (clear st; intro b1 w hb st; clear hb))
                  | ((with_reducible refine wl_alloc ?_ (fun K hK => ?_)); rfl; refine owp_alloc (o := ⟨some 3, _, _, _, _, _⟩) rfl st ?_; apply Exists.intro; apply Exists.intro; refine ⟨?_, ?_⟩; (focus (first | (go_simp; done) | (go_simp; rfl))); (clear st; intro b3 w hb st; clear hb))
                  | ((with_reducible refine wl_store ?_ (fun K hK => ?_)); rfl; refine owp_store rfl st ?_; apply Exists.intro; apply Exists.intro; refine ⟨?_, ?_, ?_⟩; (focus (go_simp; try rfl)); (focus (go_simp; try rfl)); (first | (with_reducible refine ⟨0, _, _, _, _, get0, rfl, rfl, ?_, ?_, ?_, ?_⟩) | (with_reducible refine ⟨1, _, _, _, _, get1, rfl, rfl, ?_, ?_, ?_, ?_⟩) | (with_reducible refine ⟨2, _, _, _, _, get2, rfl, rfl, ?_, ?_, ?_, ?_⟩) | (with_reducible refine ⟨3, _, _, _, _, get3, rfl, rfl, ?_, ?_, ?_, ?_⟩)); (kernel_rfl); (simp [Value.cells]); (rfl); (clear st; intro w st))); (try simp only [nsl, Value.cells, unB] at st); (try clear hc); have hc := st.facts; (try simp only [nfl, nft, Nat.reduceAdd] at hc))
            go_ret
            exact ⟨by rw [H.out] <;> rfl, st.ext0⟩
      · have H : Hid (v = false) := Lib.hid (by rw [HV2.out]; simp [o4])
        have b4 : (op == 4) = false := by simpa using o4
        clear o1 o2 o4
        (try simp only [nsl, Value.cells, unB] at st)
        (try clear hc); have hc := st.facts; (try simp only [nfl, nft, Nat.reduceAdd] at hc)
        go_enter Tryz.func57, Tryz.ntmps57
        go_wp2_with ((first
              | ((with_reducible refine wl_box ?_ (fun K hK => ?_)); rfl; refine owp_box (o := ⟨some 1, _, _, _, _, _⟩) rfl st ?_; apply Exists.intro; refine ⟨?_, ?_⟩; (focus (go_simp; try rfl)); (clear st; intro b1 w hb st; clear hb))
              | ((with_reducible refine wl_alloc ?_ (fun K hK => ?_)); rfl; refine owp_alloc (o := ⟨some 3, _, _, _, _, _⟩) rfl st ?_; apply Exists.intro; apply Exists.intro; refine ⟨?_, ?_⟩; (focus (first | (go_simp; done) | (go_simp; rfl))); (clear st; intro b3 w hb st; clear hb))
              | ((with_reducible refine wl_store ?_ (fun K hK => ?_)); rfl; refine owp_store rfl st ?_; apply Exists.intro; apply Exists.intro; refine ⟨?_, ?_, ?_⟩; (focus (go_simp; try rfl)); (focus (go_simp; try rfl)); (first | (with_reducible refine ⟨0, _, _, _, _, get0, rfl, rfl, ?_, ?_, ?_, ?_⟩) | (with_reducible refine ⟨1, _, _, _, _, get1, rfl, rfl, ?_, ?_, ?_, ?_⟩) | (with_reducible refine ⟨2, _, _, _, _, get2, rfl, rfl, ?_, ?_, ?_, ?_⟩) | (with_reducible refine ⟨3, _, _, _, _, get3, rfl, rfl, ?_, ?_, ?_, ?_⟩)); (kernel_rfl); (simp [Value.cells]); (rfl); (clear st; intro w st))); (try simp only [nsl, Value.cells, unB] at st); (try clear hc); have hc := st.facts; (try simp only [nfl, nft, Nat.reduceAdd] at hc))
        go_ret
        exact ⟨by rw [H.out] <;> rfl, st.ext0⟩
set_option maxRecDepth 100000 in
set_option maxHeartbeats 1000000 in
theorem fmIndexFunc_any (a : Option Addr) (n c : Nat) (xs : List Fm) (W : World) (h : Fl W a n xs) (hn : n ≤ 2000000) (F : FuncId) (cap : Array Value) (p : Fm → Bool)
    (hi : ∀ w x, (callFunc F (#[x] ++ cap)).run Tryz.prog w = .ok (.enter F (#[x] ++ cap)) w)
    (hp : ∀ x ∈ xs, ∀ w, Ext W w → Calls Tryz.prog F (#[fmV x] ++ cap) w fun e w' => e = .returned (.bool (p x)) ∧ Ext w w') :
    Calls Tryz.prog 80 #[.slice a n c, .func (.func F) #[] cap] W fun e w' => ∃ v : Int, e = .returned (.int .i64 v) ∧ (0 ≤ v ↔ xs.any p = true) ∧ Ext W w' := by
  have HP := Lib.hid hp
  have H := Lib.hid h
  have HN := Lib.hid h.1
  have st := Own.startOld W
  clear hp h
  (try simp only [nsl, Value.cells, unB] at st)
  (try clear hc); have hc := st.facts; (try simp only [nfl, nft, Nat.reduceAdd] at hc)
  go_enter Tryz.func80, Tryz.ntmps80
  go_wp2_with fail
  go_loopg [8] n (fun k i wr => ∃ (j : Nat), j ≤ n ∧ k = n - j ∧ i = .int .i64 (j : Int) ∧ Hid (∀ x ∈ xs.take j, p x = false) ∧ Own (fun _ => False) (fun _ => True) W [oldI W] wr)
  case atStart => exact ⟨0, by omega, by omega, rfl, Lib.hid (by simp), st⟩
  case round =>
    obtain ⟨j, hj, rfl, rfl, HT, st'⟩ := hrel
    clear st hc
    have st := st'
    clear st'
    (try simp only [nsl, Value.cells, unB] at st)
    (try clear hc); have hc := st.facts; (try simp only [nfl, nft, Nat.reduceAdd] at hc)
    by_cases hjn : j < n
    · obtain ⟨b, off, ha, hcell⟩ := (st.oldFl (i := 0) get0 H.out).fm (by omega)
      have hjl : j < xs.length := by have := HN.out; omega
      have hgt := List.getElem?_eq_getElem hjl
      have hts : xs.take (j + 1) = xs.take j ++ [xs[j]] := (List.take_append_getElem hjl).symm
      have hx := HP.out xs[j] (List.getElem_mem hjl)
      have hmem := List.getElem_mem hjl
      generalize xs[j] = x at *
      have HX := Lib.hid (And.intro hts hmem)
      clear hts hmem hjl
      obtain ⟨pv, hpv⟩ : ∃ v, p x = v := ⟨_, rfl⟩
      rw [hpv] at hx
      have HPV := Lib.hid hpv
      clear hpv
      obtain ⟨op, k, ⟨o, d⟩, a', n', c', kids⟩ := x
      obtain ⟨r0, r1, r2, r3, r4⟩ := hcell j op k (o, d) a' n' c' kids hgt
      clear hcell hgt
      subst ha
      unfold fmV S at hx
      unfold S at r2 r3
      simp only at hx r2 r3
      have HQ := Lib.hid hx
      clear hx
      go_wp2_with fail
      refine (HQ.out _ st.ext0).mono ?_
      rintro en w ⟨rfl, hx⟩
      replace st := st.ext hx
      clear hx r0 r1 r2 r3 r4
      cases pv with
      | true =>
        have HF : Hid (xs.any p = true) := Lib.hid (List.any_eq_true.2 ⟨_, HX.out.2, HPV.out⟩)
        go_wp2_with fail
        go_ret
        exact ⟨_, rfl, ⟨fun _ => HF.out, fun _ => by omega⟩, st.ext0⟩
      | false =>
        have HF : Hid (∀ x ∈ xs.take (j + 1), p x = false) := Lib.hid (fun x hx => by
          rw [HX.out.1] at hx
          rcases List.mem_append.1 hx with q | q
          · exact HT.out x q
          · rw [List.mem_singleton.1 q]; exact HPV.out)
        go_wp2_with fail
        go_roundg (n - (j + 1))
        case measure => omega
        case rel => exact ⟨j + 1, by omega, by omega, by go_num, HF, st⟩
    · obtain rfl : j = n := by omega
      have HF : Hid (xs.any p = false) := Lib.hid (by
        rw [List.any_eq_false]
        intro x hx
        have := HT.out x (by rw [List.take_of_length_le (by have := HN.out; omega)]; exact hx)
        simp [this])
      go_wp2_with fail
      go_ret
      exact ⟨_, rfl, ⟨fun q => by omega, fun q => by rw [HF.out] at q; cases q⟩, st.ext0⟩
set_option maxRecDepth 100000 in
set_option maxHeartbeats 1000000 in
theorem fmContainsFunc_any (a : Option Addr) (n c : Nat) (xs : List Fm) (W : World) (h : Fl W a n xs) (hn : n ≤ 2000000) (F : FuncId) (cap : Array Value) (p : Fm → Bool)
    (hi : ∀ w x, (callFunc F (#[x] ++ cap)).run Tryz.prog w = .ok (.enter F (#[x] ++ cap)) w)
    (hp : ∀ x ∈ xs, ∀ w, Ext W w → Calls Tryz.prog F (#[fmV x] ++ cap) w fun e w' => e = .returned (.bool (p x)) ∧ Ext w w') :
    Calls Tryz.prog 58 #[.slice a n c, .func (.func F) #[] cap] W fun e w' => e = .returned (.bool (xs.any p)) ∧ Ext W w' := by
  have HI := Lib.hid (fmIndexFunc_any a n c xs W h hn F cap p hi hp)
  obtain ⟨r, hr⟩ : ∃ r, xs.any p = r := ⟨_, rfl⟩
  rw [hr] at HI ⊢
  clear hp h hi hr
  go_enter Tryz.func58, Tryz.ntmps58
  go_wp2_with fail
  refine HI.out.mono ?_
  rintro en w' ⟨v, rfl, hv, hx⟩
  by_cases h0 : 0 ≤ v
  · have hr : r = true := hv.1 h0
    subst hr
    clear hv
    go_wp2_with fail
    go_ret
    exact ⟨by simp [h0], hx⟩
  · have hr : r = false := by cases r with | false => rfl | true => exact absurd (hv.2 rfl) h0
    subst hr
    clear hv
    go_wp2_with fail
    go_ret
    exact ⟨by simp; omega, hx⟩
set_option maxRecDepth 100000 in
set_option maxHeartbeats 1000000 in
theorem fmNodes1_any (f : Fm) (W : World) (v : Bool) (hf : ∀ W', Ext W W' → Calls Tryz.prog 42 #[fmV f] W' fun e w' => e = .returned (.bool v) ∧ Ext W' w') :
    Calls Tryz.prog 59 #[fmV f] W fun e w' => e = .returned (.bool (!v)) ∧ Ext W w' := by
  have HF := Lib.hid hf
  obtain ⟨op, k, ⟨o, d⟩, a, n, c, kids⟩ := f
  clear hf
  have st := Own.startOld W
  unfold fmV S at HF ⊢
  simp only at HF ⊢
  (try simp only [nsl, Value.cells, unB] at st)
  (try clear hc); have hc := st.facts; (try simp only [nfl, nft, Nat.reduceAdd] at hc)
  go_enter Tryz.func59, Tryz.ntmps59
  go_wp2_with ((((with_reducible refine wl_box ?_ (fun K hK => ?_)); rfl; refine owp_box (o := ⟨some 1, _, _, _, _, _⟩) rfl st ?_; apply Exists.intro; refine ⟨?_, ?_⟩; (focus (go_simp; try rfl)); (clear st; intro b1 w hb st; clear hb))); (try simp only [nsl, Value.cells, unB] at st); (try clear hc); have hc := st.facts; (try simp only [nfl, nft, Nat.reduceAdd] at hc))
  refine (HF.out _ st.ext0).mono ?_
  rintro en w ⟨rfl, hx⟩
  replace st := st.ext hx
  clear hx
  (try clear hc); have hc := st.facts; (try simp only [nfl, nft, Nat.reduceAdd] at hc)
  go_wp2_with fail
  go_ret
  exact ⟨by simp, st.ext0⟩
set_option maxRecDepth 100000 in
set_option maxHeartbeats 1000000 in
theorem fmNodes_any (f : Fm) : ∀ (W : World), FmOk W f → FoL 100000 f.strip →
    Calls Tryz.prog 42 #[fmV f] W fun e w' => e = .returned (.bool f.strip.well) ∧ Ext W w' := by
  induction f using Fm.ind
  rename_i op k r a n c kids ih
  intro W hok hl
  obtain ⟨o, d⟩ := r
  rw [strip_mk] at *
  have HNO := Lib.hid (fun W => fmNode_any op k o d a n c W hl.role.1 hl.role.2)
  have hnl : n = kids.length := hok.fl.1
  have HV : Hid ((Fo.mk op k (o, d) (kids.map Fm.strip)).well = (nodeR op k (o, d) n && decide (n ≤ 8) && !(kids.any fun x => !x.strip.well))) := Lib.hid (by
    rw [Fo.well, wellL_all, List.length_map, ← hnl, ← List.not_all_eq_any_not, Bool.not_not, List.all_map]; rfl)
  obtain ⟨v, hv⟩ : ∃ v, (Fo.mk op k (o, d) (kids.map Fm.strip)).well = v := ⟨_, rfl⟩
  rw [hv] at HV ⊢
  clear hv
  obtain ⟨nr, hnr⟩ : ∃ v, nodeR op k (o, d) n = v := ⟨_, rfl⟩
  rw [hnr] at HV HNO
  clear hnr
  obtain ⟨an, han⟩ : ∃ v, (kids.any fun x => !x.strip.well) = v := ⟨_, rfl⟩
  have HCF := Lib.hid (fun W' (hx : Ext W W') (h8 : n ≤ 8) => han ▸ fmContainsFunc_any a n c kids W' (Arr.ext hok.fl hx) (by omega) 59 #[] (fun x => !x.strip.well) (fun _ _ => by kernel_rfl) (fun x hxm w hw => fmNodes1_any x w x.strip.well (fun W2 hx2 => ih x hxm W2 (((hok.kids x hxm).ext hx).ext (hw.trans hx2)) (hl.kids _ (List.mem_map.2 ⟨x, hxm, rfl⟩)))))
  rw [han] at HV
  clear han hok ih hl hnl
  have st := Own.startOld W
  unfold fmV S
  simp only
  (try simp only [nsl, Value.cells, unB] at st)
  (try clear hc); have hc := st.facts; (try simp only [nfl, nft, Nat.reduceAdd] at hc)
  go_enter Tryz.func42, Tryz.ntmps42
  go_wp2_with ((((with_reducible refine wl_box ?_ (fun K hK => ?_)); rfl; refine owp_box (o := ⟨some 1, _, _, _, _, _⟩) rfl st ?_; apply Exists.intro; refine ⟨?_, ?_⟩; (focus (go_simp; try rfl)); (clear st; intro b1 w hb st; clear hb))); (try simp only [nsl, Value.cells, unB] at st); (try clear hc); have hc := st.facts; (try simp only [nfl, nft, Nat.reduceAdd] at hc))
  refine (HNO.out _).mono ?_
  rintro en w ⟨rfl, hx⟩
  replace st := st.ext hx
  clear hx
  (try clear hc); have hc := st.facts; (try simp only [nfl, nft, Nat.reduceAdd] at hc)
  cases nr with
  | false =>
    have H : Hid (v = false) := Lib.hid (by rw [HV.out]; rfl)
    go_wp2_with ((((with_reducible refine wl_box ?_ (fun K hK => ?_)); rfl; refine owp_box (o := ⟨some 1, _, _, _, _, _⟩) rfl st ?_; apply Exists.intro; refine ⟨?_, ?_⟩; (focus (go_simp; try rfl)); (clear st; intro b1 w hb st; clear hb))); (try simp only [nsl, Value.cells, unB] at st); (try clear hc); have hc := st.facts; (try simp only [nfl, nft, Nat.reduceAdd] at hc))
    go_ret
    exact ⟨by rw [H.out] <;> rfl, st.ext0⟩
  | true =>
    by_cases h8 : n ≤ 8
    · have H : Hid (v = !an) := Lib.hid (by rw [HV.out]; simp [h8])
      have h8i : (n : Int) ≤ 8 := by omega
      go_wp2_with ((((with_reducible refine wl_box ?_ (fun K hK => ?_)); rfl; refine owp_box (o := ⟨some 1, _, _, _, _, _⟩) rfl st ?_; apply Exists.intro; refine ⟨?_, ?_⟩; (focus (go_simp; try rfl)); (clear st; intro b1 w hb st; clear hb))); (try simp only [nsl, Value.cells, unB] at st); (try clear hc); have hc := st.facts; (try simp only [nfl, nft, Nat.reduceAdd] at hc))
      refine (HCF.out _ st.ext0 h8).mono ?_
      rintro en w ⟨rfl, hx⟩
      replace st := st.ext hx
      clear hx
      (try clear hc); have hc := st.facts; (try simp only [nfl, nft, Nat.reduceAdd] at hc)
      go_wp2_with fail
      go_ret
      exact ⟨by rw [H.out] <;> rfl, st.ext0⟩
    · have H : Hid (v = false) := Lib.hid (by rw [HV.out]; simp [h8])
      have h8i : ¬ (n : Int) ≤ 8 := by omega
      clear h8
      go_wp2_with ((((with_reducible refine wl_box ?_ (fun K hK => ?_)); rfl; refine owp_box (o := ⟨some 1, _, _, _, _, _⟩) rfl st ?_; apply Exists.intro; refine ⟨?_, ?_⟩; (focus (go_simp; try rfl)); (clear st; intro b1 w hb st; clear hb))); (try simp only [nsl, Value.cells, unB] at st); (try clear hc); have hc := st.facts; (try simp only [nfl, nft, Nat.reduceAdd] at hc))
      go_ret
      exact ⟨by rw [H.out] <;> rfl, st.ext0⟩
set_option maxRecDepth 100000 in
set_option maxHeartbeats 1000000 in
theorem fmRight_any (f : Fm) (W : World) (h : FmOk W f) (hs : f.strip.nodes ≤ 1000000000) (hl : FoL 100000 f.strip) :
    Calls Tryz.prog 22 #[fmV f] W fun e w' => e = .returned (.bool (foR f.strip)) ∧ Ext W w' := by
  have HS := Lib.hid (fun W' (hx : Ext W W') => fmSize_any f W' (h.ext hx) hs)
  have HW := Lib.hid (fun W' (hx : Ext W W') => fmNodes_any f W' (h.ext hx) hl)
  have hnp := nodes_pos f.strip
  have HV : Hid (foR f.strip = (decide (f.strip.nodes ≤ 64) && decide (f.strip.deep ≤ 6) && f.strip.well)) := Lib.hid rfl
  obtain ⟨op, k, ⟨o, d⟩, a, n, c, kids⟩ := f
  generalize foR (Fm.mk op k (o, d) a n c kids).strip = v at *
  generalize (Fm.mk op k (o, d) a n c kids).strip.nodes = N1 at *
  generalize (Fm.mk op k (o, d) a n c kids).strip.deep = D1 at *
  generalize (Fm.mk op k (o, d) a n c kids).strip.well = wv at *
  clear h hs hl
  have st := Own.startOld W
  unfold fmV S at HS HW ⊢
  simp only at HS HW ⊢
  (try simp only [nsl, Value.cells, unB] at st)
  (try clear hc); have hc := st.facts; (try simp only [nfl, nft, Nat.reduceAdd] at hc)
  go_enter Tryz.func22, Tryz.ntmps22
  go_wp2_with ((((with_reducible refine wl_box ?_ (fun K hK => ?_)); rfl; refine owp_box (o := ⟨some 1, _, _, _, _, _⟩) rfl st ?_; apply Exists.intro; refine ⟨?_, ?_⟩; (focus (go_simp; try rfl)); (clear st; intro b1 w hb st; clear hb))); (try simp only [nsl, Value.cells, unB] at st); (try clear hc); have hc := st.facts; (try simp only [nfl, nft, Nat.reduceAdd] at hc))
  refine (HS.out _ st.ext0).mono ?_
  rintro en w ⟨n1, d1, rfl, hcn, hx⟩
  replace st := st.ext hx
  clear hx
  by_cases h4 : N1 ≤ 4096
  · obtain ⟨rfl, rfl⟩ := hcn.1 h4
    clear hcn
    have np : (1 : Int) ≤ (n1 : Int) := by omega
    by_cases h64 : n1 ≤ 64
    · have h64i : (n1 : Int) ≤ 64 := by omega
      by_cases h6 : d1 ≤ 6
      · have h6i : (d1 : Int) ≤ 6 := by omega
        have H : Hid (v = wv) := Lib.hid (by rw [HV.out]; simp [h64, h6])
        clear h64 h6 h4 hnp
        (try simp only [nsl, Value.cells, unB] at st)
        (try clear hc); have hc := st.facts; (try simp only [nfl, nft, Nat.reduceAdd] at hc)
        go_wp2_with ((((with_reducible refine wl_box ?_ (fun K hK => ?_)); rfl; refine owp_box (o := ⟨some 1, _, _, _, _, _⟩) rfl st ?_; apply Exists.intro; refine ⟨?_, ?_⟩; (focus (go_simp; try rfl)); (clear st; intro b1 w hb st; clear hb))); (try simp only [nsl, Value.cells, unB] at st); (try clear hc); have hc := st.facts; (try simp only [nfl, nft, Nat.reduceAdd] at hc))
        refine (HW.out _ st.ext0).mono ?_
        rintro en w ⟨rfl, hx⟩
        replace st := st.ext hx
        clear hx
        (try clear hc); have hc := st.facts; (try simp only [nfl, nft, Nat.reduceAdd] at hc)
        go_wp2_with fail
        go_ret
        exact ⟨by rw [H.out] <;> rfl, st.ext0⟩
      · have h6i : ¬ (d1 : Int) ≤ 6 := by omega
        have H : Hid (v = false) := Lib.hid (by rw [HV.out]; simp [h6])
        clear h64 h6 h4 hnp
        (try simp only [nsl, Value.cells, unB] at st)
        (try clear hc); have hc := st.facts; (try simp only [nfl, nft, Nat.reduceAdd] at hc)
        go_wp2_with ((((with_reducible refine wl_box ?_ (fun K hK => ?_)); rfl; refine owp_box (o := ⟨some 1, _, _, _, _, _⟩) rfl st ?_; apply Exists.intro; refine ⟨?_, ?_⟩; (focus (go_simp; try rfl)); (clear st; intro b1 w hb st; clear hb))); (try simp only [nsl, Value.cells, unB] at st); (try clear hc); have hc := st.facts; (try simp only [nfl, nft, Nat.reduceAdd] at hc))
        go_ret
        exact ⟨by rw [H.out] <;> rfl, st.ext0⟩
    · have h64i : ¬ (n1 : Int) ≤ 64 := by omega
      have H : Hid (v = false) := Lib.hid (by rw [HV.out]; simp [h64])
      clear h64 h4 hnp
      (try simp only [nsl, Value.cells, unB] at st)
      (try clear hc); have hc := st.facts; (try simp only [nfl, nft, Nat.reduceAdd] at hc)
      go_wp2_with ((((with_reducible refine wl_box ?_ (fun K hK => ?_)); rfl; refine owp_box (o := ⟨some 1, _, _, _, _, _⟩) rfl st ?_; apply Exists.intro; refine ⟨?_, ?_⟩; (focus (go_simp; try rfl)); (clear st; intro b1 w hb st; clear hb))); (try simp only [nsl, Value.cells, unB] at st); (try clear hc); have hc := st.facts; (try simp only [nfl, nft, Nat.reduceAdd] at hc))
      go_ret
      exact ⟨by rw [H.out] <;> rfl, st.ext0⟩
  · obtain ⟨rfl, rfl⟩ := hcn.2 (by omega)
    have H : Hid (v = false) := Lib.hid (by rw [HV.out, decide_eq_false (by omega)]; rfl)
    clear hcn h4 hnp
    (try simp only [nsl, Value.cells, unB] at st)
    (try clear hc); have hc := st.facts; (try simp only [nfl, nft, Nat.reduceAdd] at hc)
    go_wp2_with ((((with_reducible refine wl_box ?_ (fun K hK => ?_)); rfl; refine owp_box (o := ⟨some 1, _, _, _, _, _⟩) rfl st ?_; apply Exists.intro; refine ⟨?_, ?_⟩; (focus (go_simp; try rfl)); (clear st; intro b1 w hb st; clear hb))); (try simp only [nsl, Value.cells, unB] at st); (try clear hc); have hc := st.facts; (try simp only [nfl, nft, Nat.reduceAdd] at hc))
    go_ret
    exact ⟨by rw [H.out] <;> rfl, st.ext0⟩
end Go.Proofs.YtcihjohgmhebiaaGreat

namespace Go.Proofs.YtcihjohgmhebiaaGreat
set_option linter.unusedSimpArgs false
set_option linter.unusedVariables false
open Go Go.RowKit
theorem Own.weak {fr fr' al al' : Nat → Prop} {w0 w : World} {L : List It} (h : Own fr al w0 L w) (hf : ∀ b, fr b → fr' b) (ha : ∀ b, al b → al' b) : Own fr' al' w0 L w :=
  let ⟨hm, e, s, F⟩ := h
  ⟨hm.mono hf, e, s, F.holds, F.lo, fun i b hi he hb => hf _ (F.fr i b hi he hb), fun i b hi hb hl => ha _ (F.al i b hi hb hl), F.ee, F.es⟩
/-- What a call has laid anew comes beside what there was. -/
theorem Own.join {fr al : Nat → Prop} {w0 w w' : World} {L M : List It} (st : Own fr al w0 L w) (h : Own (fun _ => False) (fun _ => False) w M w') : Own fr al w0 (L ++ M) w' := by
  obtain ⟨fr', al', st', back⟩ := st.sub [] (by simp) (by simp)
  have := back M w' (by simp) (h.weak (fun _ q => q.elim) (fun _ q => q.elim))
  simpa [putIt] using this
section
variable {fr al : Nat → Prop} {w0 w : World} {L : List It}
/-- A new item of what two others share. -/
theorem Own.share2 (st : Own fr al w0 L w) {i i2 : Nat} {I I2 I' : It} (hi : L[i]? = some I) (hi2 : L[i2]? = some I2) (h : ∀ e s e2 s2, I.P e s w → I2.P e2 s2 w → I'.P (fun _ => False) (fun b => s b ∨ s2 b) w) : Own fr al w0 (L ++ [I']) w := by
  obtain ⟨hm, e, s, F⟩ := st
  have hil := get_lt hi
  have hil2 := get_lt hi2
  have h1 := h _ _ _ _ (F.holds i I hi) (F.holds i2 I2 hi2)
  have hlen : ∀ {j}, j < (L ++ [I']).length → j < L.length ∨ j = L.length := fun {j} h => by simp at h; omega
  refine ⟨hm, fun j => if j < L.length then e j else fun _ => False, fun j => if j < L.length then s j else fun b => s i b ∨ s i2 b, ?_, ?_, ?_, ?_, ?_, ?_⟩
  · intro j J hj
    have hjl := get_lt hj
    rcases hlen hjl with h | h
    · rw [List.getElem?_append_left h] at hj
      simp only [h, if_true]
      exact F.holds j J hj
    · subst h
      simp at hj
      subst hj
      simp only [Nat.lt_irrefl, if_false]
      exact h1
  · intro j b hj hb
    rcases hlen hj with h | h
    · simp only [h, if_true] at hb
      exact F.lo j b h hb
    · subst h
      simp only [Nat.lt_irrefl, if_false, false_or] at hb
      rcases hb with hb | hb
      · exact F.lo i b hil (.inr hb)
      · exact F.lo i2 b hil2 (.inr hb)
  · intro j b hj hb hb0
    rcases hlen hj with h | h
    · simp only [h, if_true] at hb
      exact F.fr j b h hb hb0
    · subst h
      simp only [Nat.lt_irrefl, if_false] at hb
  · intro j b hj hb hb0
    rcases hlen hj with h | h
    · simp only [h, if_true] at hb
      exact F.al j b h hb hb0
    · subst h
      simp only [Nat.lt_irrefl, if_false, false_or] at hb
      rcases hb with hb | hb
      · exact F.al i b hil (.inr hb) hb0
      · exact F.al i2 b hil2 (.inr hb) hb0
  · intro j k b hj hk hjk hb hb'
    rcases hlen hj with h | h
    · rcases hlen hk with h' | h'
      · simp only [h, h', if_true] at hb hb'
        exact F.ee j k b h h' hjk hb hb'
      · subst h'
        simp only [Nat.lt_irrefl, if_false] at hb'
    · subst h
      simp only [Nat.lt_irrefl, if_false] at hb
  · intro j k b hj hk hb hb'
    rcases hlen hj with h | h
    · rcases hlen hk with h' | h'
      · simp only [h, h', if_true] at hb hb'
        exact F.es j k b h h' hb hb'
      · subst h'
        simp only [h, if_true, Nat.lt_irrefl, if_false] at hb hb'
        rcases hb' with hb' | hb'
        · exact F.es j i b h hil hb hb'
        · exact F.es j i2 b h hil2 hb hb'
    · subst h
      simp only [Nat.lt_irrefl, if_false] at hb
end
end Go.Proofs.YtcihjohgmhebiaaGreat

namespace Go.Proofs.YtcihjohgmhebiaaGreat
set_option linter.unusedSimpArgs false
set_option linter.unusedVariables false
open Go Go.RowKit
theorem roleInfo : ∃ i, Tryz.prog.info? 23 = some i ∧ i.zero = some (rV ([], [])) ∧ i.size = 2 ∧ i.bytes = 32 := info_parts (by kernel_rfl)
theorem roleLen {w : World} {n : Nat} {v : Value} {E : TypeId} {xs : List Role} (h : w.ownsRow 0 E 2 v n (cellsL xs)) : n = xs.length := by
  have := h.1
  rw [cellsL_len, fltRole_k] at this
  omega
theorem role_get {xs : List Role} {j : Nat} {x : Role} (h : xs[j]? = some x) : (cellsL xs)[j * 2]? = some (S x.1) ∧ (cellsL xs)[j * 2 + 1]? = some (S x.2) :=
  ⟨cellsL_get (i := j) (j := 0) h (by decide), cellsL_get (i := j) (j := 1) h (by decide)⟩
set_option maxRecDepth 100000 in
set_option maxHeartbeats 1000000 in
theorem indexFuncRole_c {fr al : Nat → Prop} {w0 w : World} {n c : Nat} {a : Option Addr} {xs : List Role} (st : Own fr al w0 [rowI 23 2 (.slice a n c) n (cellsL xs)] w) (hn : n ≤ 2000000) (F : FuncId) (cap : Array Value) (p : Role → Bool)
    (hi : ∀ w x, (callFunc F (#[x] ++ cap)).run Tryz.prog w = .ok (.enter F (#[x] ++ cap)) w)
    (hp : ∀ x ∈ xs, ∀ w, Calls Tryz.prog F (#[rV x] ++ cap) w fun e w' => e = .returned (.bool (p x)) ∧ Ext w w') :
    Calls Tryz.prog 51 #[.slice a n c, .func (.func F) #[] cap] w fun e w' => ∃ v, e = .returned (.int .i64 v) ∧ IxIs p xs v ∧ Own fr al w0 [rowI 23 2 (.slice a n c) n (cellsL xs)] w' := by
  have HP := Lib.hid hp
  have HN : Hid (n = xs.length) := Lib.hid (roleLen (st.row (i := 0) get0))
  clear hp
  (try simp only [nsl, Value.cells, unB] at st)
  (try clear hc); have hc := st.facts; (try simp only [nfl, nft, Nat.reduceAdd] at hc)
  go_enter Tryz.func51, Tryz.ntmps51
  go_wp2_with fail
  go_loopg [8] n (fun k i wr => ∃ (j : Nat), j ≤ n ∧ k = n - j ∧ i = .int .i64 (j : Int) ∧ Hid (∀ x ∈ xs.take j, p x = false) ∧ Own fr al w0 [rowI 23 2 (.slice a n c) n (cellsL xs)] wr)
  case atStart => exact ⟨0, by omega, by omega, rfl, Lib.hid (by simp), st⟩
  case round =>
    obtain ⟨j, hj, rfl, rfl, HT, st'⟩ := hrel
    clear st hc
    have st := st'
    clear st'
    (try simp only [nsl, Value.cells, unB] at st)
    (try clear hc); have hc := st.facts; (try simp only [nfl, nft, Nat.reduceAdd] at hc)
    by_cases hjn : j < n
    · obtain ⟨g, cap', hv, hcap, hrow⟩ := st.rowAt (i := 0) get0 (by omega)
      injection hv with hv1 hv2 hv3
      subst hv1 hv3
      have hjl : j < xs.length := by have := HN.out; omega
      have r0 := hrow (j * 2) (S xs[j].1) (role_get (List.getElem?_eq_getElem hjl)).1
      have r1 := hrow (j * 2 + 1) (S xs[j].2) (role_get (List.getElem?_eq_getElem hjl)).2
      have hts : xs.take (j + 1) = xs.take j ++ [xs[j]] := (List.take_append_getElem hjl).symm
      have hx := HP.out xs[j] (List.getElem_mem hjl)
      have hge := List.getElem?_eq_getElem hjl
      clear hrow
      generalize xs[j] = x at *
      obtain ⟨o, d⟩ := x
      have HX := Lib.hid (And.intro hts (And.intro hjl hge))
      clear hts hge hjl
      simp only at r0 r1
      unfold S at r0 r1
      unfold rV S at hx
      have HQ := Lib.hid hx
      clear hx
      go_wp2_with fail
      refine (HQ.out _).mono ?_
      rintro en w ⟨rfl, hx⟩
      replace st := st.ext hx
      clear hx r0 r1
      by_cases hpx : p (o, d) = true
      · rw [hpx]
        have HF : Hid (IxIs p xs (j : Int)) := Lib.hid (.inr ⟨j, (o, d), rfl, HX.out.2.1, HX.out.2.2, hpx, HT.out⟩)
        clear hpx
        go_wp2_with fail
        go_ret
        exact ⟨_, rfl, HF.out, st⟩
      · have hpx' : p (o, d) = false := by simpa using hpx
        rw [hpx']
        have HF : Hid (∀ y ∈ xs.take (j + 1), p y = false) := Lib.hid (fun y hy => by
          rw [HX.out.1] at hy
          rcases List.mem_append.1 hy with q | q
          · exact HT.out y q
          · rw [List.mem_singleton.1 q]; exact hpx')
        clear hpx hpx'
        go_wp2_with fail
        go_roundg (n - (j + 1))
        case measure => omega
        case rel => exact ⟨j + 1, by omega, rfl, by go_num, HF, st⟩
    · obtain rfl : j = n := by omega
      have HF : Hid (IxIs p xs (-1)) := Lib.hid (.inl ⟨rfl, by have := HT.out; rwa [List.take_of_length_le (by have := HN.out; omega)] at this⟩)
      go_wp2_with fail
      go_ret
      exact ⟨_, rfl, HF.out, st⟩
set_option maxRecDepth 100000 in
set_option maxHeartbeats 2000000 in
theorem deleteFuncRole_c {fr al : Nat → Prop} {w0 w : World} {n c : Nat} {a : Option Addr} {xs : List Role} (st : Own fr al w0 [rowI 23 2 (.slice a n c) n (cellsL xs)] w) (hn : n ≤ 2000000) (F : FuncId) (cap : Array Value) (p : Role → Bool)
    (hi : ∀ w x, (callFunc F (#[x] ++ cap)).run Tryz.prog w = .ok (.enter F (#[x] ++ cap)) w)
    (hp : ∀ x ∈ xs, ∀ w, Calls Tryz.prog F (#[rV x] ++ cap) w fun e w' => e = .returned (.bool (p x)) ∧ Ext w w') :
    Calls Tryz.prog 60 #[.slice a n c, .func (.func F) #[] cap] w fun e w' => ∃ m, e = .returned (.slice a m c) ∧ Own fr al w0 [rowI 23 2 (.slice a m c) m (cellsL (xs.filter fun x => !p x))] w' := by
  have HP := Lib.hid hp
  have HN : Hid (n = xs.length) := Lib.hid (roleLen (st.row (i := 0) get0))
  clear hp
  (try simp only [nsl, Value.cells, unB] at st)
  (try clear hc); have hc := st.facts; (try simp only [nfl, nft, Nat.reduceAdd] at hc)
  go_enter Tryz.func60, Tryz.ntmps60
  go_wp2_with fail
  refine (indexFuncRole_c st hn F cap p hi HP.out).mono ?_
  clear st
  rintro en w ⟨v, rfl, hix, st⟩
  rcases hix with ⟨rfl, hall⟩ | ⟨i0, y, rfl, hil, hiy, hpy, hpre⟩
  · have HF : Hid (xs.filter (fun x => !p x) = xs) := Lib.hid (List.filter_eq_self.2 fun x hx => by simp [hall x hx])
    clear hall
    go_wp2_with fail
    go_ret
    exact ⟨n, rfl, by rw [HF.out]; exact st⟩
  · obtain ⟨g, cap', hv, hcap, hrow⟩ := st.rowAt (i := 0) get0 (by have := HN.out; omega)
    injection hv with hv1 hv2 hv3
    subst hv1 hv3
    clear hrow
    have hi0 : i0 < n := by have := HN.out; omega
    have HS : Hid (xs.take i0 = (xs.take (i0 + 1)).filter (fun x => !p x)) := Lib.hid (by
      have e1 : xs[i0] = y := by rw [List.getElem?_eq_getElem hil] at hiy; injection hiy
      rw [← List.take_append_getElem hil, List.filter_append, e1]
      simp only [List.filter_cons, hpy]
      simp
      exact (List.filter_eq_self.2 fun x hx => by simp [hpre x hx]).symm)
    have hcap2 : c ≤ 9223372036854775807 := by have := hcap.2; simpa [maxLen] using this
    have hcap1 := hcap.1
    clear hil hiy hpy hpre hcap
    have hb1 : ((i0 : Int) == -1) = false := by simp
    go_wp2_with fail
    go_loopg [5, 6] (n - (i0 + 1)) (fun k vi vj wr => ∃ (i j : Nat) (zs : List Role), j ≤ n ∧ k = n - j ∧ i < j ∧ vi = .int .i64 (i : Int) ∧ vj = .int .i64 (j : Int) ∧ Hid (zs.length = n ∧ zs.take i = (xs.take j).filter (fun x => !p x) ∧ zs.drop j = xs.drop j) ∧ Own fr al w0 [rowI 23 2 (.slice (some ⟨g, 0, none⟩) n c) n (cellsL zs)] wr)
    case atStart => exact ⟨i0, i0 + 1, xs, by omega, by omega, by omega, rfl, by go_num, Lib.hid ⟨HN.out.symm, HS.out, rfl⟩, st⟩
    case round =>
      obtain ⟨i, j, zs, hj, rfl, hij, rfl, rfl, HZ, st'⟩ := hrel
      clear st
      have st := st'
      clear st'
      (try simp only [nsl, Value.cells, unB] at st)
      (try clear hc); have hc := st.facts; (try simp only [nfl, nft, Nat.reduceAdd] at hc)
      by_cases hjn : j < n
      · obtain ⟨g', cap', hv, hcap, hrow⟩ := st.rowAt (i := 0) get0 (by omega)
        injection hv with hv1 hv2 hv3
        injection hv1 with hv1
        injection hv1 with hv1 _ _
        subst hv1 hv3
        have hjz : j < zs.length := by have := HZ.out.1; omega
        have hjx : j < xs.length := by have := HN.out; omega
        have hzx : zs[j] = xs[j] := by
          have e1 := congrArg (fun l => l[0]?) HZ.out.2.2
          simp only [List.getElem?_drop, Nat.add_zero, List.getElem?_eq_getElem hjz, List.getElem?_eq_getElem hjx] at e1
          injection e1
        have r0 := hrow (j * 2) (S xs[j].1) (by rw [← hzx]; exact (role_get (List.getElem?_eq_getElem hjz)).1)
        have r1 := hrow (j * 2 + 1) (S xs[j].2) (by rw [← hzx]; exact (role_get (List.getElem?_eq_getElem hjz)).2)
        have hts : xs.take (j + 1) = xs.take j ++ [xs[j]] := (List.take_append_getElem hjx).symm
        have hx := HP.out xs[j] (List.getElem_mem hjx)
        clear hrow hzx
        generalize xs[j] = x at *
        obtain ⟨o, d⟩ := x
        have HX := Lib.hid hts
        clear hts hjz hjx
        simp only at r0 r1
        unfold S at r0 r1
        unfold rV S at hx
        have HQ := Lib.hid hx
        clear hx
        go_wp2_with ((first
              | ((with_reducible refine wl_alloc ?_ (fun K hK => ?_)); rfl; refine owp_alloc (o := ⟨some 7, _, _, _, _, _⟩) rfl st ?_; apply Exists.intro; apply Exists.intro; refine ⟨?_, ?_⟩; (focus (first | (go_simp; done) | (go_simp; rfl))); (clear st; intro b7 w hb st; clear hb))
              | ((with_reducible refine wl_store ?_ (fun K hK => ?_)); rfl; refine owp_store rfl st ?_; apply Exists.intro; apply Exists.intro; refine ⟨?_, ?_, ?_⟩; (focus (go_simp; try rfl)); (focus (go_simp; try rfl)); (first | (with_reducible refine ⟨0, _, _, _, _, get0, rfl, rfl, ?_, ?_, ?_, ?_⟩) | (with_reducible refine ⟨1, _, _, _, _, get1, rfl, rfl, ?_, ?_, ?_, ?_⟩) | (with_reducible refine ⟨2, _, _, _, _, get2, rfl, rfl, ?_, ?_, ?_, ?_⟩) | (with_reducible refine ⟨3, _, _, _, _, get3, rfl, rfl, ?_, ?_, ?_, ?_⟩)); (kernel_rfl); (simp [Value.cells]); (rfl); (clear st; intro w st))); (try simp only [nsl, Value.cells, unB] at st); (try clear hc); have hc := st.facts; (try simp only [nfl, nft, Nat.reduceAdd] at hc))
        clear r0 r1
        refine (HQ.out _).mono ?_
        rintro en w ⟨rfl, hx⟩
        replace st := st.ext hx
        clear hx
        (try clear hc); have hc := st.facts; (try simp only [nfl, nft, Nat.reduceAdd] at hc)
        by_cases hpx : p (o, d) = true
        · rw [hpx]
          have HF : Hid ((xs.take (j + 1)).filter (fun x => !p x) = (xs.take j).filter (fun x => !p x) ∧ zs.drop (j + 1) = xs.drop (j + 1)) := Lib.hid ⟨by rw [HX.out, List.filter_append]; simp [hpx], by
            have := congrArg (List.drop 1) HZ.out.2.2; simpa [List.drop_drop] using this⟩
          clear hpx
          go_wp2_with ((first
                | ((with_reducible refine wl_alloc ?_ (fun K hK => ?_)); rfl; refine owp_alloc (o := ⟨some 7, _, _, _, _, _⟩) rfl st ?_; apply Exists.intro; apply Exists.intro; refine ⟨?_, ?_⟩; (focus (first | (go_simp; done) | (go_simp; rfl))); (clear st; intro b7 w hb st; clear hb))
                | ((with_reducible refine wl_store ?_ (fun K hK => ?_)); rfl; refine owp_store rfl st ?_; apply Exists.intro; apply Exists.intro; refine ⟨?_, ?_, ?_⟩; (focus (go_simp; try rfl)); (focus (go_simp; try rfl)); (first | (with_reducible refine ⟨0, _, _, _, _, get0, rfl, rfl, ?_, ?_, ?_, ?_⟩) | (with_reducible refine ⟨1, _, _, _, _, get1, rfl, rfl, ?_, ?_, ?_, ?_⟩) | (with_reducible refine ⟨2, _, _, _, _, get2, rfl, rfl, ?_, ?_, ?_, ?_⟩) | (with_reducible refine ⟨3, _, _, _, _, get3, rfl, rfl, ?_, ?_, ?_, ?_⟩)); (kernel_rfl); (simp [Value.cells]); (rfl); (clear st; intro w st))); (try simp only [nsl, Value.cells, unB] at st); (try clear hc); have hc := st.facts; (try simp only [nfl, nft, Nat.reduceAdd] at hc))
          have st' := st.keep [0] (by decide) (by simp)
          go_roundg (n - (j + 1))
          case measure => omega
          case rel => exact ⟨i, j + 1, zs, by omega, rfl, by omega, rfl, by go_num, Lib.hid ⟨HZ.out.1, by rw [HF.out.1]; exact HZ.out.2.1, HF.out.2⟩, by simpa [pick] using st'⟩
        · have hpx' : p (o, d) = false := by simpa using hpx
          rw [hpx']
          have hiz : i < zs.length := by have := HZ.out.1; omega
          have hset := cellsL_set zs i ((o, d) : Role) hiz
          rw [fltRole_k, role_cells] at hset
          have HF : Hid ((zs.set i (o, d)).length = n ∧ (zs.set i (o, d)).take (i + 1) = (xs.take (j + 1)).filter (fun x => !p x) ∧ (zs.set i (o, d)).drop (j + 1) = xs.drop (j + 1)) := Lib.hid ⟨by simp [HZ.out.1], by
              rw [HX.out, List.filter_append, ← HZ.out.2.1]
              have : (zs.set i (o, d))[i]'(by simpa using hiz) = (o, d) := by simp
              rw [← List.take_append_getElem (l := zs.set i (o, d)) (by simpa using hiz), this]
              rw [List.take_set, List.set_eq_of_length_le (by rw [List.length_take]; omega)]; simp [hpx'], by
              rw [List.drop_set_of_lt (by omega)]
              have := congrArg (List.drop 1) HZ.out.2.2; simpa [List.drop_drop] using this⟩
          have HSET := Lib.hid hset
          clear hpx hpx' hset hiz
          go_wp2_with ((with_reducible refine wl_store ?_ (fun K hK => ?_)); (rfl); (refine owp_storeRow' rfl st ?_; apply Exists.intro; apply Exists.intro; refine ⟨?_, ?_, ?_⟩; (focus (go_simp; try rfl)); (focus (go_simp; try rfl)); refine ⟨0, _, _, _, _, _, _, _, _, get0, rfl, rfl, ?_, ?_, ?_, ?_⟩; (kernel_rfl); (simp [Value.cells]; omega); (rfl); (clear st; intro w st)))
          simp only [List.set_cons_zero] at st
          have st' := st.keep [0] (by decide) (by simp)
          go_roundg (n - (j + 1))
          case measure => omega
          case rel => exact ⟨i + 1, j + 1, zs.set i (o, d), by omega, rfl, by omega, by go_num, by go_num, HF, by rw [← HSET.out]; simpa [pick, Value.cells] using st'⟩
      · obtain rfl : j = n := by omega
        obtain ⟨inf, hinf, hz0, hz1, hz2⟩ := roleInfo
        have HF : Hid (zs.take i = xs.filter (fun x => !p x)) := Lib.hid (by rw [HZ.out.2.1, List.take_of_length_le (by have := HN.out; omega)])
        go_wp2_with ((with_reducible refine wl_clear ?_ (fun K hK => ?_)); (rfl); (refine owp_clearRow' rfl st Tryz.underlying27 ?_; apply Exists.intro; apply Exists.intro; apply Exists.intro; refine ⟨?_, ?_⟩; (focus (go_simp; exact ⟨rfl, rfl, rfl⟩)); refine ⟨0, _, _, _, _, i, _, inf, rV ([], []), get0, hinf, hz0, by decide, rfl, rfl, by omega, by simp, rfl, ?_⟩; (clear st; intro w ys hy1 hy2 st)))
        simp only [List.set_cons_zero] at st
        have st2 := st.rowCut (i := 0) (k := 2) (n := j) (c := c) (g := g) (E := 23) (xs := ys) get0 i (by omega)
        have hct := cellsL_take zs i
        rw [fltRole_k] at hct
        rw [hy1, hct, HF.out, List.set_cons_zero] at st2
        go_ret
        exact ⟨i, rfl, st2⟩
end Go.Proofs.YtcihjohgmhebiaaGreat

namespace Go.Proofs.YtcihjohgmhebiaaGreat
set_option linter.unusedSimpArgs false
set_option linter.unusedVariables false
open Go Go.RowKit
section
variable {α : Type} [Inhabited α] [DecidableEq α]
def cup (xs : List α) (m : Nat) : List α := Lib.compactUpTo xs.toArray m
theorem cup_all (xs : List α) : cup xs xs.length = Lib.compact xs := rfl
theorem cup_step {xs : List α} {j q : Nat} {x y : α} (hq : j = q + 1) (hx : xs[j]? = some x) (hy : xs[q]? = some y) : cup xs (j + 1) = cup xs j ++ if x = y then [] else [x] := by
  unfold cup
  rw [Lib.compactUpTo_succ]
  have e1 : xs.toArray[j]! = x := by
    obtain ⟨h1, h2⟩ := List.getElem?_eq_some_iff.1 hx
    simp [h1, h2]
  have e2 : xs.toArray[j - 1]! = y := by
    obtain ⟨h1, h2⟩ := List.getElem?_eq_some_iff.1 hy
    subst hq; simp [h1, h2]
  by_cases h : x = y
  · rw [if_pos h, if_neg]; simp [Lib.keeps, e1, e2, h]; omega
  · rw [if_neg h, if_pos, e1]; simp [Lib.keeps, e1, e2, h]
theorem cup_one {xs : List α} (h : 0 < xs.length) : cup xs 1 = xs.take 1 := by
  cases xs with
  | nil => simp at h
  | cons x xs => simp [cup, Lib.compactUpTo, Lib.keeps, List.range_succ]
end
theorem Own.rowC {fr al : Nat → Prop} {w0 w : World} {L : List It} (st : Own fr al w0 L w) {i n size g c : Nat} {E : TypeId} {xs : List Value} (hi : L[i]? = some (rowI E size (.slice (some ⟨g, 0, none⟩) n c) n xs)) (j : Nat) (u : Value) (hj : xs[j]? = some u) : w.cell? ⟨g, j, none⟩ = some u := by
  have := (st.row hi).cells (g := g) rfl j u hj
  rwa [addr_add, Nat.zero_add] at this
set_option maxRecDepth 100000 in
set_option maxHeartbeats 2000000 in
theorem compactRole_c {fr al : Nat → Prop} {w0 w : World} {n c : Nat} {a : Option Addr} {xs : List Role} (st : Own fr al w0 [rowI 23 2 (.slice a n c) n (cellsL xs)] w) (hn : n ≤ 2000000) :
    Calls Tryz.prog 65 #[.slice a n c] w fun e w' => ∃ m, e = .returned (.slice a m c) ∧ Own fr al w0 [rowI 23 2 (.slice a m c) m (cellsL (Lib.compact xs))] w' := by
  have HN : Hid (n = xs.length) := Lib.hid (roleLen (st.row (i := 0) get0))
  (try simp only [nsl, Value.cells, unB] at st)
  (try clear hc); have hc := st.facts; (try simp only [nfl, nft, Nat.reduceAdd] at hc)
  by_cases hn2 : n < 2
  · have HC : Hid (Lib.compact xs = xs) := Lib.hid (by
      rw [← cup_all, ← HN.out]
      match n, hn2, HN.out with
      | 0, _, h => rw [List.eq_nil_of_length_eq_zero h.symm]; rfl
      | 1, _, h => rw [cup_one (by omega), List.take_of_length_le (by omega)])
    go_enter Tryz.func65, Tryz.ntmps65
    go_wp2_with fail
    go_ret
    exact ⟨n, rfl, by rw [HC.out]; exact st⟩
  obtain ⟨g, cap', hv, hcap, hrow⟩ := st.rowAt (i := 0) get0 (by omega)
  injection hv with hv1 hv2 hv3
  subst hv1 hv3
  clear hrow
  have hcap2 : c ≤ 9223372036854775807 := by have := hcap.2; simpa [maxLen] using this
  have hcap1 := hcap.1
  clear hcap
  go_enter Tryz.func65, Tryz.ntmps65
  go_wp2_with fail
  go_loopg [3] (n - 1) (fun k vi wr => ∃ (j : Nat), 1 ≤ j ∧ j ≤ n ∧ k = n - j ∧ vi = .int .i64 (j : Int) ∧ Hid (cup xs j = xs.take j) ∧ Own fr al w0 [rowI 23 2 (.slice (some ⟨g, 0, none⟩) n c) n (cellsL xs)] wr)
  case atStart => exact ⟨1, by omega, by omega, by omega, rfl, Lib.hid (cup_one (by have := HN.out; omega)), st⟩
  case round =>
    obtain ⟨j, hj1, hj, rfl, rfl, HT, st'⟩ := hrel
    clear st hc
    have st := st'
    clear st'
    (try simp only [nsl, Value.cells, unB] at st)
    (try clear hc); have hc := st.facts; (try simp only [nfl, nft, Nat.reduceAdd] at hc)
    by_cases hjn : j < n
    · obtain ⟨q, hq⟩ : ∃ q, j = q + 1 := ⟨j - 1, by omega⟩
      have hw : IntKind.i64.wrap ((j : Int) - 1) = (q : Int) := by rw [IntWalk.i64_in _ ⟨by omega, by omega⟩]; omega
      have hjl : j < xs.length := by have := HN.out; omega
      have hql : q < xs.length := by omega
      obtain ⟨x, hx⟩ : ∃ x, xs[j]? = some x := ⟨_, List.getElem?_eq_getElem hjl⟩
      obtain ⟨y, hy⟩ : ∃ y, xs[q]? = some y := ⟨_, List.getElem?_eq_getElem hql⟩
      have HR := Lib.hid (And.intro (role_get hx) (role_get hy))
      have HST := Lib.hid (cup_step hq hx hy)
      have HTK : Hid (xs.take (j + 1) = xs.take j ++ [x]) := Lib.hid (by rw [List.take_add_one, hx]; rfl)
      clear hx hy hjl
      obtain ⟨o, d⟩ := x
      obtain ⟨o', d'⟩ := y
      simp only at HR
      unfold S at HR
      have hql2 : q < n := by omega
      have HQ := Lib.hid hq
      clear hq hql
      go_wp2_with fail
      refine Rg4.wp_region4_eq #[0, 0, 3, 7, 0, 0, 32, 112, 240, 511] [] [3, 8] (fun _ => True) [0, 1, 2, 3, 4, 5, 6, 7, 8, 9] (by kernel_rfl) (by kernel_rfl) (by kernel_rfl) (by kernel_rfl) (show Rg4.PB _ by repeat (first | with_reducible exact Rg4.pb_body | with_reducible exact Rg4.pb_bodyD rfl | with_reducible refine Rg4.pb_then ?_ | with_reducible refine Rg4.pb_inBlock ?_ | with_reducible refine Rg4.pb_noGoto ?_)) (trivial) ?_
      replace st := st.drew
      change Rg4.wp4 _ _ _ _ _ _ _ _ _ (World.drew _) _ _
      generalize World.drew _ = w at st ⊢
      (try clear hc); have hc := st.facts; (try simp only [nfl, nft, Nat.reduceAdd] at hc)
      iterate 3 (refine Rg4.w4_any (Rg4.want_none rfl) rfl ?_; apply Exists.intro; refine ⟨fun w' => ?_, ?_⟩; (focus (first | (go_simp; done) | (go_simp; first | rfl | (rw [if_neg] <;> first | rfl | omega) | (rw [if_pos] <;> first | rfl | omega)))); (try simp only [Rg4.nrm]))
      (refine Rg4.w4_read (Rg4.want_none rfl) rfl rfl ?_; apply Exists.intro; refine ⟨fun w' hw' hcl' => ?_, ?_⟩; focus (subst hw'; have r0 := st.rowC (i := 0) get0 _ _ HR.out.1.1; have r1 := st.rowC (i := 0) get0 _ _ HR.out.1.2; have r2 := st.rowC (i := 0) get0 _ _ HR.out.2.1; have r3 := st.rowC (i := 0) get0 _ _ HR.out.2.2; (focus (first | (go_simp; done) | (go_simp; first | rfl | (rw [if_neg] <;> first | rfl | omega) | (rw [if_pos] <;> first | rfl | omega))))); (try simp only [Rg4.nrm]))
      iterate 4 (refine Rg4.w4_any (Rg4.want_none rfl) rfl ?_; apply Exists.intro; refine ⟨fun w' => ?_, ?_⟩; (focus (first | (go_simp; done) | (go_simp; first | rfl | (rw [if_neg] <;> first | rfl | omega) | (rw [if_pos] <;> first | rfl | omega)))); (try simp only [Rg4.nrm]))
      (refine Rg4.w4_read (Rg4.want_none rfl) rfl rfl ?_; apply Exists.intro; refine ⟨fun w' hw' hcl' => ?_, ?_⟩; focus (subst hw'; have r0 := st.rowC (i := 0) get0 _ _ HR.out.1.1; have r1 := st.rowC (i := 0) get0 _ _ HR.out.1.2; have r2 := st.rowC (i := 0) get0 _ _ HR.out.2.1; have r3 := st.rowC (i := 0) get0 _ _ HR.out.2.2; (focus (first | (go_simp; done) | (go_simp; first | rfl | (rw [if_neg] <;> first | rfl | omega) | (rw [if_pos] <;> first | rfl | omega))))); (try simp only [Rg4.nrm]))
      (refine Rg4.w4_any (Rg4.want_none rfl) rfl ?_; apply Exists.intro; refine ⟨fun w' => ?_, ?_⟩; (focus (first | (go_simp; done) | (go_simp; first | rfl | (rw [if_neg] <;> first | rfl | omega) | (rw [if_pos] <;> first | rfl | omega)))); (try simp only [Rg4.nrm]))
      refine Rg4.w4_nil (fun w' hw' hcl' _ => ?_); subst hw'; clear hcl'
      cases hxy : roleEq (o, d) (o', d') with
      | false =>
        have HF : Hid (cup xs (j + 1) = xs.take (j + 1)) := Lib.hid (by rw [roleEq_eq, decide_eq_false_iff_not] at hxy; rw [HST.out, if_neg hxy, HT.out, HTK.out])
        clear hxy
        go_wp2_with fail
        go_roundg (n - (j + 1))
        case measure => omega
        case rel => exact ⟨j + 1, by omega, by omega, by omega, by go_num, HF, st⟩
      | true =>
        have HF : Hid (cup xs (j + 1) = xs.take j) := Lib.hid (by rw [roleEq_eq, decide_eq_true_eq] at hxy; rw [HST.out, if_pos hxy, HT.out, List.append_nil])
        clear hxy hw
        go_wp2_with fail
        go_loopg [3, 5] (n - j - 1) (fun k vi vr wr => ∃ (i r : Nat) (zs : List Role), 1 ≤ r ∧ j + r ≤ n ∧ k = n - j - r ∧ i < j + r ∧ vi = .int .i64 (i : Int) ∧ vr = .int .i64 (r : Int) ∧ Hid (zs.length = n ∧ zs.take i = cup xs (j + r) ∧ ∀ q, j + r ≤ q + 1 → zs[q]? = xs[q]?) ∧ Own fr al w0 [rowI 23 2 (.slice (some ⟨g, 0, none⟩) n c) n (cellsL zs)] wr)
        case atStart => exact ⟨j, 1, xs, by omega, by omega, by omega, by omega, rfl, rfl, Lib.hid ⟨HN.out.symm, HF.out.symm, fun _ _ => rfl⟩, st⟩
        case round =>
          obtain ⟨i, r, zs, hr1, hrj, rfl, hir, rfl, rfl, HZ, st'⟩ := hrel
          clear st hc HR HST HTK HF
          have st := st'
          clear st'
          (try simp only [nsl, Value.cells, unB] at st)
          (try clear hc); have hc := st.facts; (try simp only [nfl, nft, Nat.reduceAdd] at hc)
          by_cases hrn : r < n - j
          · obtain ⟨s, hs⟩ : ∃ s, r = s + 1 := ⟨r - 1, by omega⟩
            have hw : IntKind.i64.wrap ((r : Int) - 1) = (s : Int) := by rw [IntWalk.i64_in _ ⟨by omega, by omega⟩]; omega
            have hjl : j + r < xs.length := by have := HN.out; omega
            have hql : j + s < xs.length := by omega
            obtain ⟨x, hx⟩ : ∃ x, xs[j + r]? = some x := ⟨_, List.getElem?_eq_getElem hjl⟩
            obtain ⟨y, hy⟩ : ∃ y, xs[j + s]? = some y := ⟨_, List.getElem?_eq_getElem hql⟩
            have hzx := (HZ.out.2.2 (j + r) (by omega)).trans hx
            have hzy := (HZ.out.2.2 (j + s) (by omega)).trans hy
            have HR := Lib.hid (And.intro (role_get hzx) (role_get hzy))
            have HST := Lib.hid (cup_step (by omega : j + r = j + s + 1) hx hy)
            clear hx hy hzx hzy hjl
            obtain ⟨o, d⟩ := x
            obtain ⟨o', d'⟩ := y
            simp only [Nat.add_mul] at HR
            unfold S at HR
            have hql2 : s < n - j := by omega
            have HS := Lib.hid hs
            clear hs hql
            go_wp2_with fail
            refine Rg4.wp_region4_eq #[0, 0, 3, 7, 0, 0, 32, 112, 240, 511] [] [3, 8] (fun _ => True) [0, 1, 2, 3, 4, 5, 6, 7, 8, 9] (by kernel_rfl) (by kernel_rfl) (by kernel_rfl) (by kernel_rfl) (show Rg4.PB _ by repeat (first | with_reducible exact Rg4.pb_body | with_reducible exact Rg4.pb_bodyD rfl | with_reducible refine Rg4.pb_then ?_ | with_reducible refine Rg4.pb_inBlock ?_ | with_reducible refine Rg4.pb_noGoto ?_)) (trivial) ?_
            replace st := st.drew
            change Rg4.wp4 _ _ _ _ _ _ _ _ _ (World.drew _) _ _
            generalize World.drew _ = w at st ⊢
            (try clear hc); have hc := st.facts; (try simp only [nfl, nft, Nat.reduceAdd] at hc)
            iterate 3 (refine Rg4.w4_any (Rg4.want_none rfl) rfl ?_; apply Exists.intro; refine ⟨fun w' => ?_, ?_⟩; (focus (first | (go_simp; done) | (go_simp; first | rfl | (rw [if_neg] <;> first | rfl | omega) | (rw [if_pos] <;> first | rfl | omega)))); (try simp only [Rg4.nrm]))
            (refine Rg4.w4_read (Rg4.want_none rfl) rfl rfl ?_; apply Exists.intro; refine ⟨fun w' hw' hcl' => ?_, ?_⟩; focus (subst hw'; have r0 := st.rowC (i := 0) get0 _ _ HR.out.1.1; have r1 := st.rowC (i := 0) get0 _ _ HR.out.1.2; have r2 := st.rowC (i := 0) get0 _ _ HR.out.2.1; have r3 := st.rowC (i := 0) get0 _ _ HR.out.2.2; (focus (first | (go_simp; done) | (go_simp; first | rfl | (rw [if_neg] <;> first | rfl | omega) | (rw [if_pos] <;> first | rfl | omega))))); (try simp only [Rg4.nrm]))
            iterate 4 (refine Rg4.w4_any (Rg4.want_none rfl) rfl ?_; apply Exists.intro; refine ⟨fun w' => ?_, ?_⟩; (focus (first | (go_simp; done) | (go_simp; first | rfl | (rw [if_neg] <;> first | rfl | omega) | (rw [if_pos] <;> first | rfl | omega)))); (try simp only [Rg4.nrm]))
            (refine Rg4.w4_read (Rg4.want_none rfl) rfl rfl ?_; apply Exists.intro; refine ⟨fun w' hw' hcl' => ?_, ?_⟩; focus (subst hw'; have r0 := st.rowC (i := 0) get0 _ _ HR.out.1.1; have r1 := st.rowC (i := 0) get0 _ _ HR.out.1.2; have r2 := st.rowC (i := 0) get0 _ _ HR.out.2.1; have r3 := st.rowC (i := 0) get0 _ _ HR.out.2.2; (focus (first | (go_simp; done) | (go_simp; first | rfl | (rw [if_neg] <;> first | rfl | omega) | (rw [if_pos] <;> first | rfl | omega))))); (try simp only [Rg4.nrm]))
            (refine Rg4.w4_any (Rg4.want_none rfl) rfl ?_; apply Exists.intro; refine ⟨fun w' => ?_, ?_⟩; (focus (first | (go_simp; done) | (go_simp; first | rfl | (rw [if_neg] <;> first | rfl | omega) | (rw [if_pos] <;> first | rfl | omega)))); (try simp only [Rg4.nrm]))
            refine Rg4.w4_nil (fun w' hw' hcl' _ => ?_); subst hw'; clear hcl'
            cases hxy : roleEq (o, d) (o', d') with
            | true =>
              have hb : (!true) = false := rfl
              have HF : Hid (cup xs (j + (r + 1)) = cup xs (j + r)) := Lib.hid (by rw [roleEq_eq, decide_eq_true_eq] at hxy; rw [← Nat.add_assoc, HST.out, if_pos hxy, List.append_nil])
              clear hxy
              simp only [hb]
              go_wp2_with fail
              go_roundg (n - j - (r + 1))
              case measure => omega
              case rel => exact ⟨i, r + 1, zs, by omega, by omega, rfl, by omega, rfl, by go_num, Lib.hid ⟨HZ.out.1, by rw [HF.out]; exact HZ.out.2.1, fun q hq => HZ.out.2.2 q (by omega)⟩, st⟩
            | false =>
              have hb : (!false) = true := rfl
              have HF : Hid (cup xs (j + (r + 1)) = cup xs (j + r) ++ [(o, d)]) := Lib.hid (by rw [roleEq_eq, decide_eq_false_iff_not] at hxy; rw [← Nat.add_assoc, HST.out, if_neg hxy])
              clear hxy
              simp only [hb]
              have r0 := st.rowC (i := 0) get0 _ _ HR.out.1.1
              have r1 := st.rowC (i := 0) get0 _ _ HR.out.1.2
              have hiz : i < zs.length := by have := HZ.out.1; omega
              have hset := cellsL_set zs i ((o, d) : Role) hiz
              rw [fltRole_k, role_cells] at hset
              have HZ2 : Hid ((zs.set i (o, d)).length = n ∧ (zs.set i (o, d)).take (i + 1) = cup xs (j + (r + 1)) ∧ ∀ q, j + (r + 1) ≤ q + 1 → (zs.set i (o, d))[q]? = xs[q]?) := Lib.hid ⟨by simp [HZ.out.1], by
                  rw [HF.out, ← HZ.out.2.1]
                  have : (zs.set i (o, d))[i]'(by simpa using hiz) = (o, d) := by simp
                  rw [← List.take_append_getElem (l := zs.set i (o, d)) (by simpa using hiz), this]
                  rw [List.take_set, List.set_eq_of_length_le (by rw [List.length_take]; omega)], fun q hq => by
                  rw [List.getElem?_set_ne (by omega)]; exact HZ.out.2.2 q (by omega)⟩
              have HSET := Lib.hid hset
              clear hset hiz
              go_wp2_with ((with_reducible refine wl_store ?_ (fun K hK => ?_)); (rfl); (refine owp_storeRow' rfl st ?_; apply Exists.intro; apply Exists.intro; refine ⟨?_, ?_, ?_⟩; (focus (go_simp; try rfl)); (focus (go_simp; try rfl)); refine ⟨0, _, _, _, _, _, _, _, _, get0, rfl, rfl, ?_, ?_, ?_, ?_⟩; (kernel_rfl); (simp [Value.cells]; omega); (rfl); (clear st; intro w st)))
              simp only [List.set_cons_zero] at st
              go_roundg (n - j - (r + 1))
              case measure => omega
              case rel => exact ⟨i + 1, r + 1, zs.set i (o, d), by omega, by omega, rfl, by omega, by go_num, by go_num, HZ2, by rw [← HSET.out]; simpa [Value.cells] using st⟩
          · obtain ⟨inf, hinf, hz0, hz1, hz2⟩ := roleInfo
            have HF : Hid (zs.take i = Lib.compact xs) := Lib.hid (by rw [HZ.out.2.1, ← cup_all, ← HN.out]; congr 1; omega)
            have hin : i ≤ n := by omega
            go_wp2_with ((with_reducible refine wl_clear ?_ (fun K hK => ?_)); (rfl); (refine owp_clearRow' rfl st Tryz.underlying27 ?_; apply Exists.intro; apply Exists.intro; apply Exists.intro; refine ⟨?_, ?_⟩; (focus (go_simp; exact ⟨rfl, rfl, rfl⟩)); refine ⟨0, _, _, _, _, i, _, inf, rV ([], []), get0, hinf, hz0, by decide, rfl, rfl, by omega, by simp, rfl, ?_⟩; (clear st; intro w ys hy1 hy2 st)))
            simp only [List.set_cons_zero] at st
            have st2 := st.rowCut (i := 0) (k := 2) (n := n) (c := c) (g := g) (E := 23) (xs := ys) get0 i (by omega)
            have hct := cellsL_take zs i
            rw [fltRole_k] at hct
            rw [hy1, hct, HF.out, List.set_cons_zero] at st2
            go_ret
            exact ⟨i, rfl, st2⟩
    · obtain rfl : j = n := by omega
      have HF : Hid (Lib.compact xs = xs) := Lib.hid (by rw [← cup_all, ← HN.out, HT.out, List.take_of_length_le (by have := HN.out; omega)])
      go_wp2_with fail
      go_ret
      exact ⟨j, rfl, by rw [HF.out]; exact st⟩
end Go.Proofs.YtcihjohgmhebiaaGreat

namespace Go.Proofs.YtcihjohgmhebiaaGreat
set_option linter.unusedSimpArgs false
set_option linter.unusedVariables false
open Go Go.RowKit
@[go_sem] theorem eqNilRole (a : Option Addr) (n c : Nat) (w : World) : (binOp .eql 27 (.slice a n c) (.slice none 0 0)).run Tryz.prog w = .ok (.bool a.isNone) w := by
  have h := run_equal_slice_nil w _ _ a n c Tryz.underlying27
  simp only [binOp]
  simp [h]
set_option maxRecDepth 100000 in
set_option maxHeartbeats 1000000 in
theorem roleClone_any (a : Option Addr) (n c : Nat) (l : List Role) (W : World) (h : Fl W a n l) (hn : n ≤ 2000000) :
    Calls Tryz.prog 61 #[.slice a n c] W fun e w' => ∃ va vc, e = .returned (.slice va n vc) ∧ FreshI W w' (rowI 23 2 (.slice va n vc) n (cellsL l)) := by
  have H := Lib.hid h
  clear h
  have st := Own.startOld W
  (try simp only [nsl, Value.cells, unB] at st)
  (try clear hc); have hc := st.facts; (try simp only [nfl, nft, Nat.reduceAdd] at hc)
  cases a with
  | none =>
    have h0 : n = 0 := by
      rcases Nat.eq_zero_or_pos n with q | q
      · exact q
      · obtain ⟨b, off, e, _⟩ := H.out.2 q; cases e
    subst h0
    have hl : l = [] := List.eq_nil_of_length_eq_zero H.out.1.symm
    subst hl
    go_enter Tryz.func61, Tryz.ntmps61
    go_wp2_with fail
    go_ret
    exact ⟨none, 0, rfl, FreshI.post (FreshI.pre (FreshI.nilRow W _ _) (Ext.refl _)) st.ext0⟩
  | some ad =>
    go_enter Tryz.func61, Tryz.ntmps61
    go_wp2_with (first
        | ((with_reducible refine wl_append ?_ (fun K hK => ?_)); (rfl); (obtain ⟨inf, hinf, hz0, hz1, hz2⟩ := roleInfo); (refine owp_append rfl st 1 get1 Tryz.underlying27 hinf hz0 hz1 hz2 rfl (by decide) rfl rfl ((st.oldFl (i := 0) get0 H.out).flat) (by first | exact cellsL_all _ | simp [Value.oneCell']) (by simp only [maxLen]; omega) (by omega) ?_); (clear hinf hz0 hz1 hz2 inf); (clear st; intro v' w st); (obtain ⟨va', vc', rfl⟩ := own_slice (st.row (i := 1) get1)); (try simp only [nsl, Value.cells, unB] at st); (try simp only [Nat.zero_add] at st); (try clear hc); have hc := st.facts; (try simp only [nfl, nft, Nat.reduceAdd] at hc))
        | ((with_reducible refine wl_buildSlice ?_ (fun K hK => ?_)); (rfl); (refine owp_buildRow (o := ⟨some 5, _, _, _, _, _⟩) rfl st 23 2 ?_; refine ⟨0, #[], ?_, by simp, by simp [maxLen], ?_⟩; (focus (go_simp; (first | done | rfl))); (clear st; intro b5 w hb st; clear hb)); (try simp only [nsl, Value.cells, unB] at st); (try clear hc); have hc := st.facts; (try simp only [nfl, nft, Nat.reduceAdd] at hc))
        | ((((with_reducible refine wl_buildSlice ?_ (fun K hK => ?_)); rfl; refine owp_buildSlice (o := ⟨some 5, _, _, _, _, _⟩) rfl st ?_; apply Exists.intro; apply Exists.intro; apply Exists.intro; apply Exists.intro; refine ⟨?_, ?_⟩; (focus (go_simp; (first | done | exact ⟨⟨rfl, rfl⟩, rfl⟩ | rfl))); (clear st; intro b5 w hb st; clear hb))); (try simp only [nsl, Value.cells, unB] at st); (try clear hc); have hc := st.facts; (try simp only [nfl, nft, Nat.reduceAdd] at hc)))
    go_ret
    have hf := st.toFresh (i := 1) get1
    exact ⟨_, _, rfl, hf⟩
set_option maxRecDepth 100000 in
set_option maxHeartbeats 1000000 in
theorem roleSet1_any (x : Role) (W : World) (h1 : x.1.length ≤ 100000) (h2 : x.2.length ≤ 100000) : Calls Tryz.prog 62 #[rV x] W fun e w' => e = .returned (.bool (!roleR x)) ∧ Ext W w' := by
  have HR := Lib.hid (roleRight_any x)
  obtain ⟨o, d⟩ := x
  simp only at h1 h2
  have st := Own.startOld W
  unfold rV S at *
  (try simp only [nsl, Value.cells, unB] at st)
  (try clear hc); have hc := st.facts; (try simp only [nfl, nft, Nat.reduceAdd] at hc)
  go_enter Tryz.func62, Tryz.ntmps62
  go_wp2_with ((((with_reducible refine wl_box ?_ (fun K hK => ?_)); rfl; refine owp_box (o := ⟨some 1, _, _, _, _, _⟩) rfl st ?_; apply Exists.intro; refine ⟨?_, ?_⟩; (focus (go_simp; try rfl)); (clear st; intro b1 w hb st; clear hb))); (try simp only [nsl, Value.cells, unB] at st); (try clear hc); have hc := st.facts; (try simp only [nfl, nft, Nat.reduceAdd] at hc))
  refine (HR.out _ h1 h2).mono ?_
  rintro en w ⟨rfl, hx⟩
  replace st := st.ext hx
  clear hx
  (try clear hc); have hc := st.facts; (try simp only [nfl, nft, Nat.reduceAdd] at hc)
  go_wp2_with ((((with_reducible refine wl_box ?_ (fun K hK => ?_)); rfl; refine owp_box (o := ⟨some 1, _, _, _, _, _⟩) rfl st ?_; apply Exists.intro; refine ⟨?_, ?_⟩; (focus (go_simp; try rfl)); (clear st; intro b1 w hb st; clear hb))); (try simp only [nsl, Value.cells, unB] at st); (try clear hc); have hc := st.facts; (try simp only [nfl, nft, Nat.reduceAdd] at hc))
  go_ret
  exact ⟨rfl, st.ext0⟩
end Go.Proofs.YtcihjohgmhebiaaGreat

namespace Go.Proofs.YtcihjohgmhebiaaGreat
set_option linter.unusedSimpArgs false
set_option linter.unusedVariables false
open Go Go.RowKit Go.Sort Go.Lib Go.Shelf
theorem Ext.grow {w w' : World} (h : Ext w w') : ∃ q os, w' = grow (w.drewN q) os := by
  refine ⟨w'.drawn - w.drawn, w'.heap.extract w.heap.size w'.heap.size, ?_⟩
  have hh : w'.heap = w.heap ++ w'.heap.extract w.heap.size w'.heap.size := by
    apply Array.ext_getElem?
    intro k
    rw [Array.getElem?_append]
    split
    · exact h.bel.block k (by assumption)
    · rw [Array.getElem?_extract]
      split
      · congr 1; omega
      · rw [Array.getElem?_eq_none]; have := h.le; omega
  have hd := h.drawn
  cases w' with
  | mk a b c d e =>
    have h1 := h.bel.os; have h2 := h.bel.tape; have h3 := h.bel.output
    simp only at h1 h2 h3 hd hh
    unfold Go.Sort.grow World.drewN
    simp only [World.mk.injEq]
    exact ⟨hh, h2, by omega, h1, h3⟩
section
variable {α : Type} [Flt α] [Inhabited α]
theorem flat_eq (xs : List α) : (flatK Flt.cells (Flt.k α) xs.toArray).toList = cellsL xs := by
  have hk := Flt.pos (α := α)
  apply List.ext_getElem?
  intro t
  by_cases ht : t < xs.length * Flt.k α
  · have hi : t / Flt.k α < xs.length := (Nat.div_lt_iff_lt_mul hk).2 ht
    have hr : t % Flt.k α < Flt.k α := Nat.mod_lt _ hk
    have e : t / Flt.k α * Flt.k α + t % Flt.k α = t := by rw [Nat.mul_comm]; exact Nat.div_add_mod _ _
    have h1 := cellsL_get (List.getElem?_eq_getElem hi) hr
    rw [e] at h1
    rw [h1, Array.getElem?_toList]
    have hrl : t % Flt.k α < (Flt.cells xs[t / Flt.k α]).length := by rw [Flt.len]; exact hr
    simp [flatK, ht, hi, hrl]
  · rw [List.getElem?_eq_none (by simp; omega), List.getElem?_eq_none (by rw [cellsL_len]; omega)]
theorem flat_eq' (xs : List α) : flatK Flt.cells (Flt.k α) xs.toArray = (cellsL xs).toArray := by
  rw [← flat_eq]
theorem heap_sortedK {w : World} {g n : Nat} {os : Array Obj} {cur : Array Value} {e : TypeId} {f : Nat × Nat} (d : Array Value) (hb : w.heap[g]? = some (.cells cur e f)) :
    (grow (putRow id (Sort.ahead w n) g 0 d) os).heap[g]? = some (.cells (putCells id 0 d cur) e f) := by
  have hg : g < w.heap.size := (Array.getElem?_eq_some_iff.1 hb).1
  rw [heap_grow_old _ _ (by simpa using hg)]
  simp [putRow, mapBlock, Sort.ahead, Array.getElem?_modify, hb, onCells]
theorem grownBy_sortedK {w : World} {g n : Nat} {os : Array Obj} (d : Array Value) : w.grownBy (grow (putRow id (Sort.ahead w n) g 0 d) os) (some g) := by
  refine ⟨rfl, rfl, rfl, by simp, fun k hk hne => ?_⟩
  rw [heap_grow_old _ _ (by simpa using hk)]
  have : g ≠ k := fun e => hne (by rw [e])
  simp [putRow, mapBlock, Sort.ahead, Array.getElem?_modify, this]
theorem take_putCellsK (cur : Array Value) (ts : List Value) (h : ts.length ≤ cur.size) : (putCells id 0 ts.toArray cur).toList.take ts.length = ts := by
  apply List.ext_getElem?
  intro j
  by_cases hj : j < ts.length
  · rw [List.getElem?_take_of_lt hj, Array.getElem?_toList]
    simp [putCells, hj, show j < cur.size by omega]
  · rw [List.getElem?_take_eq_none (by omega), List.getElem?_eq_none (by omega)]
variable {fr al : Nat → Prop} {w0 w : World} {L : List It}
theorem Own.holdsK (st : Own fr al w0 L w) {i n c g : Nat} {E : TypeId} {xs : List α} (hi : L[i]? = some (rowI E (Flt.k α) (.slice (some ⟨g, 0, none⟩) n c) n (cellsL xs))) : HoldsK Flt.cells (Flt.k α) w g 0 xs.toArray ∧ g < w.heap.size := by
  have hrow := st.row hi
  rcases hrow.2 with ⟨h1, h2⟩ | ⟨g', cap, cur, h1, hb, hg, hcap, hm, hs, ht⟩
  · cases h1
  · cases h1
    refine ⟨?_, (Array.getElem?_eq_some_iff.1 hg).1⟩
    unfold HoldsK
    rw [flat_eq']
    intro j hj
    have hj' : j < (cellsL xs).length := by simpa using hj
    refine ⟨?_, by simp [World.frozen?, hg]⟩
    have hn : n * Flt.k α = (cellsL xs).length := hrow.1.symm
    have h1 : (cur.toList.take (n * Flt.k α))[j]? = (cellsL xs)[j]? := by rw [ht]
    rw [List.getElem?_take_of_lt (by omega)] at h1
    simp only [World.cell?, hg, Nat.zero_add]
    simp only [Option.isSome_none, Bool.false_eq_true, if_false]
    rw [← Array.getElem?_toList, h1]
    simp [hj']
theorem Own.sortedK (st : Own fr al w0 L w) {i n c g : Nat} {E : TypeId} {xs ys : List α} (hi : L[i]? = some (rowI E (Flt.k α) (.slice (some ⟨g, 0, none⟩) n c) n (cellsL xs))) (hl : ys.length = xs.length) (m : Nat) (os : Array Obj) :
    Own fr al w0 (L.set i (rowI E (Flt.k α) (.slice (some ⟨g, 0, none⟩) n c) n (cellsL ys))) (sortWorldK Flt.cells (Flt.k α) w g 0 m ys.toArray os) := by
  have hrow := st.row hi
  rcases hrow.2 with ⟨h1, h2⟩ | ⟨g', cap, cur, h1, hb, hg, hcap, hm, hs, ht⟩
  · cases h1
  · cases h1
    have hn : n * Flt.k α = (cellsL xs).length := hrow.1.symm
    have hy : (cellsL ys).length = n * Flt.k α := by rw [cellsL_len, hl, hn, cellsL_len]
    have hle : n * Flt.k α ≤ cur.size := by rw [hs]; exact Nat.mul_le_mul_right _ hcap
    have e : sortWorldK Flt.cells (Flt.k α) w g 0 m ys.toArray os = grow (putRow id (Sort.ahead w m) g 0 (cellsL ys).toArray) os := by unfold sortWorldK putRowK; rw [flat_eq']
    rw [e]
    refine st.upd hi fun e s ⟨q1, q2⟩ q3 q4 => ⟨e, s, ⟨?_, q2⟩, fun b hb => ⟨Nat.lt_of_lt_of_le (q3 b (.inl hb)) (grownBy_sortedK _).size, .inl hb⟩, fun b hb => ⟨Nat.lt_of_lt_of_le (q3 b (.inr hb)) (grownBy_sortedK _).size, .inr (.inl hb)⟩, q4, MutO.grown (MutO.refl _ _) ⟨grownBy_sortedK _, Nat.le_add_right _ _⟩ fun k hk _ => ?_⟩
    · exact ⟨hy, .inr ⟨g, c, _, rfl, hb, heap_sortedK _ hg, hcap, hm, by simp [putCells, hs], by rw [← hy]; exact take_putCellsK cur (cellsL ys) (by omega)⟩⟩
    · cases hk; exact q2 g rfl
end
end Go.Proofs.YtcihjohgmhebiaaGreat

namespace Go.Proofs.YtcihjohgmhebiaaGreat
set_option linter.unusedSimpArgs false
set_option linter.unusedVariables false
open Go Go.RowKit Go.Sort Go.Lib
theorem roleCmp_lt (x y : Role) : ltOf roleCmp x y = roleLt x y := by
  unfold ltOf roleCmp
  cases h : roleLt x y with
  | true => simp
  | false => cases h2 : roleLt y x <;> simp
theorem roleSwo : SWO (ltOf roleCmp) where
  irrefl x := by rw [roleCmp_lt]; exact (roleOrd (fun _ => true)).irr x
  trans x y z h1 h2 := by rw [roleCmp_lt] at *; exact (roleOrd (fun _ => true)).tr x y z h1 h2
  ntrans x y z h1 h2 := by
    rw [roleCmp_lt] at *
    have o := roleOrd (fun _ => true)
    cases h : roleLt x z with
    | false => rfl
    | true =>
      rcases o.tri x y rfl rfl with q | q | q
      · rw [q] at h1; cases h1
      · rw [q] at h; rw [h] at h2; cases h2
      · have := o.tr _ _ _ q h; rw [this] at h2; cases h2
theorem roleTot (x y : Role) (h1 : ltOf roleCmp x y = false) (h2 : ltOf roleCmp y x = false) : x = y := by
  rw [roleCmp_lt] at h1 h2
  rcases (roleOrd (fun _ => true)).tri x y rfl rfl with q | q | q
  · rw [q] at h1; cases h1
  · exact q
  · rw [q] at h2; cases h2
def roleSort (xs : List Role) : List Role := xs.mergeSort fun x y => !(ltOf roleCmp) y x
theorem roleSort_mem (xs : List Role) (x : Role) : x ∈ roleSort xs ↔ x ∈ xs := by unfold roleSort; exact List.mem_mergeSort
theorem roleSort_pw (xs : List Role) : (roleSort xs).Pairwise (fun x y => roleLt y x = false) := by
  have o := roleOrd (fun _ => true)
  have h1 := List.pairwise_mergeSort (le := fun x y : Role => !(ltOf roleCmp) y x) (fun a b c h1 h2 => by
    simp only [Bool.not_eq_true'] at *; exact roleSwo.ntrans _ _ _ h2 h1) (fun a b => by
    cases h : ltOf roleCmp b a with
    | false => rfl
    | true => cases h2 : ltOf roleCmp a b with
      | false => rfl
      | true => have := roleSwo.trans _ _ _ h h2; rw [roleSwo.irrefl] at this; cases this) xs
  refine h1.imp fun {a b} h => ?_
  simpa [roleCmp_lt] using h
/-- The set of the right roles of a list. -/
@[irreducible] def roleSet (l : List Role) : List Role := Lib.compact (roleSort (l.filter roleR))
theorem roleSet_eq (l : List Role) : roleSet l = Lib.compact (roleSort (l.filter roleR)) := by unfold roleSet; rfl
theorem roleSet_set (l : List Role) : SSet roleLt roleR l (roleSet l) := by
  rw [roleSet_eq]
  exact compact_set (roleOrd roleR) _ l (fun x => by rw [roleSort_mem, List.mem_filter]) (roleSort_pw _)
theorem role55 (args : Array Value) (w : World) : (callFunc 50 args).run Tryz.prog w = .ok (.enter 50 args) w := enters_of Tryz.func50 (by kernel_rfl) rfl args w
section
variable {fr al : Nat → Prop} {w0 w : World} {L : List It}
theorem sortRole_c (st : Own fr al w0 L w) (i : Nat) {n c : Nat} {a : Option Addr} {xs : List Role} (hi : L[i]? = some (rowI 23 2 (.slice a n c) n (cellsL xs))) (hn : n ≤ 2000000) :
    Calls Tryz.prog 64 #[.slice a n c, .func (.func 50) #[] #[]] w fun e w' => e = .returned (.tuple #[]) ∧ Own fr al w0 (L.set i (rowI 23 2 (.slice a n c) n (cellsL (roleSort xs)))) w' := by
  have hrow := st.row hi
  have hnx := roleLen hrow
  rcases Nat.eq_zero_or_pos n with h0 | h0
  · subst h0
    have hx : xs = [] := List.eq_nil_of_length_eq_zero hnx.symm
    subst hx
    refine (AnyF.slices_SortFunc_none Tryz.sortRole a c _ w).mono ?_
    rintro e w' ⟨rfl, rfl⟩
    refine ⟨rfl, ?_⟩
    have : L.set i (rowI 23 2 (.slice a 0 c) 0 (cellsL (roleSort []))) = L := by
      apply List.ext_getElem?
      intro q
      rw [List.getElem?_set]
      split
      · rename_i h; subst h; rw [hi, if_pos (get_lt hi)]; unfold roleSort; rw [List.mergeSort_nil]
      · rfl
    rw [this]; exact st
  · obtain ⟨g, cap', hv, hcap, _⟩ := st.rowAt hi h0
    injection hv with hv1 hv2 hv3
    subst hv1 hv3
    have hH := st.holdsK (α := Role) (xs := xs) hi
    have hcon := AnyQ.slices_SortFunc_total Tryz.sortRole 2 Tryz.isAgg23 Tryz.sizeOf23 (Flt.cells : Role → List Value) (fun x => Flt.len x) (fun x v hv => Flt.one x v hv) roleCmp roleSwo 50 #[] g 0 c xs.toArray w role55
      (fun m os dk _ x y => (roleCompare_any x y _).mono fun e w' h => ⟨h.1, h.2.grow⟩) hH.1 hH.2 (by simp; omega) roleTot
    change Calls Tryz.prog 64 _ _ _ at hcon
    rw [show xs.toArray.size = n by simp [hnx]] at hcon
    refine hcon.mono ?_
    rintro e w' ⟨rfl, m, os, rfl⟩
    exact ⟨rfl, st.sortedK (α := Role) hi (by unfold roleSort; simp) m os⟩
end
set_option maxRecDepth 100000 in
set_option maxHeartbeats 1000000 in
theorem roleSet_any (a : Option Addr) (n c : Nat) (l : List Role) (W : World) (h : Fl W a n l) (hn : n ≤ 2000000) (hs : ∀ x ∈ l, x.1.length ≤ 100000 ∧ x.2.length ≤ 100000) :
    Calls Tryz.prog 43 #[.slice a n c] W fun e w' => ∃ va vc, e = .returned (.slice va (roleSet l).length vc) ∧ FreshI W w' (rowI 23 2 (.slice va (roleSet l).length vc) (roleSet l).length (cellsL (roleSet l))) := by
  have H := Lib.hid (And.intro h hs)
  have st := Own.startOld W
  clear h hs
  (try simp only [nsl, Value.cells, unB] at st)
  (try clear hc); have hc := st.facts; (try simp only [nfl, nft, Nat.reduceAdd] at hc)
  go_enter Tryz.func43, Tryz.ntmps43
  go_wp2_with fail
  refine (roleClone_any a n c l _ (st.oldFl (i := 0) get0 H.out.1) hn).mono ?_
  rintro en w ⟨va, vc, rfl, hnew⟩
  replace st := st.fresh hnew
  clear hnew
  (try simp only [nsl, Value.cells, unB] at st)
  (try clear hc); have hc := st.facts; (try simp only [nfl, nft, Nat.reduceAdd] at hc)
  go_wp2_with fail
  obtain ⟨fr', al', st', back⟩ := st.sub [1] (by decide) (by simp)
  (try simp only [nsl, Value.cells, unB] at st')
  refine (deleteFuncRole_c st' hn 62 #[] (fun x => !roleR x) (fun _ _ => by kernel_rfl) (fun x hx w => roleSet1_any x w (H.out.2 x hx).1 (H.out.2 x hx).2)).mono ?_
  clear st'
  rintro en w ⟨m, rfl, st'⟩
  replace st := back _ _ (by simp) st'
  clear back st'
  (try simp only [nsl, Value.cells, unB] at st)
  (try clear hc); have hc := st.facts; (try simp only [nfl, nft, Nat.reduceAdd] at hc)
  simp only [Bool.not_not] at st
  have hm : m ≤ n := by
    have h1 := roleLen (st.row (i := 1) get1)
    have h2 := List.length_filter_le (fun x => roleR x) l
    have h3 := H.out.1.1
    omega
  go_wp2_with fail
  refine (sortRole_c st 1 get1 (by omega)).mono ?_
  rintro en w ⟨rfl, st'⟩
  clear st
  have st := st'
  clear st'
  (try simp only [nsl, Value.cells, unB] at st)
  (try clear hc); have hc := st.facts; (try simp only [nfl, nft, Nat.reduceAdd] at hc)
  go_wp2_with fail
  obtain ⟨fr', al', st', back⟩ := st.sub [1] (by decide) (by simp)
  (try simp only [nsl, Value.cells, unB] at st')
  refine (compactRole_c st' (by omega)).mono ?_
  clear st'
  rintro en w ⟨m2, rfl, st'⟩
  replace st := back _ _ (by simp) st'
  clear back st'
  (try simp only [nsl, Value.cells, unB] at st)
  (try clear hc); have hc := st.facts; (try simp only [nfl, nft, Nat.reduceAdd] at hc)
  rw [← roleSet_eq l] at st
  have hm2 := roleLen (st.row (i := 1) get1)
  subst hm2
  have hfin := st.toFresh (i := 1) get1
  have HF := Lib.hid hfin
  clear hfin st
  go_wp2_with fail
  go_ret
  exact ⟨va, vc, rfl, HF.out⟩
set_option maxRecDepth 100000 in
set_option maxHeartbeats 1000000 in
theorem roleHas_any (a : Option Addr) (n c : Nat) (l : List Role) (y : Role) (W : World) (h : Fl W a n l) (hn : n ≤ 2000000) :
    Calls Tryz.prog 31 #[.slice a n c, rV y] W fun e w' => e = .returned (.bool (decide (y ∈ l))) ∧ Ext W w' := by
  have H := Lib.hid h
  clear h
  have HI := Lib.hid (roleContains_any a n c l y)
  obtain ⟨o, d⟩ := y
  have st := Own.startOld W
  unfold rV S at *
  (try simp only [nsl, Value.cells, unB] at st)
  (try clear hc); have hc := st.facts; (try simp only [nfl, nft, Nat.reduceAdd] at hc)
  go_enter Tryz.func31, Tryz.ntmps31
  go_wp2_with ((((with_reducible refine wl_box ?_ (fun K hK => ?_)); rfl; refine owp_box (o := ⟨some 3, _, _, _, _, _⟩) rfl st ?_; apply Exists.intro; refine ⟨?_, ?_⟩; (focus (go_simp; try rfl)); (clear st; intro b3 w hb st; clear hb))); (try simp only [nsl, Value.cells, unB] at st); (try clear hc); have hc := st.facts; (try simp only [nfl, nft, Nat.reduceAdd] at hc))
  refine (HI.out _ (st.oldFl (i := 0) get0 H.out) hn).mono ?_
  rintro en w ⟨rfl, hx⟩
  replace st := st.ext hx
  clear hx
  (try clear hc); have hc := st.facts; (try simp only [nfl, nft, Nat.reduceAdd] at hc)
  go_wp2_with ((((with_reducible refine wl_box ?_ (fun K hK => ?_)); rfl; refine owp_box (o := ⟨some 3, _, _, _, _, _⟩) rfl st ?_; apply Exists.intro; refine ⟨?_, ?_⟩; (focus (go_simp; try rfl)); (clear st; intro b3 w hb st; clear hb))); (try simp only [nsl, Value.cells, unB] at st); (try clear hc); have hc := st.facts; (try simp only [nfl, nft, Nat.reduceAdd] at hc))
  go_ret
  exact ⟨rfl, st.ext0⟩
end Go.Proofs.YtcihjohgmhebiaaGreat

namespace Go.Proofs.YtcihjohgmhebiaaGreat
set_option linter.unusedSimpArgs false
set_option linter.unusedVariables false
open Go Go.RowKit
def okB (ok : Bool) (b : Role) : Option Role := if ok then some b else none
theorem okB_t (b : Role) : okB true b = some b := rfl
theorem okB_f (b : Role) : okB false b = none := rfl
set_option maxRecDepth 100000 in
set_option maxHeartbeats 2000000 in
theorem refRoleSet_any (a : Option Addr) (n c : Nat) (l : List Role) (W : World) (h : Fl W a n l) (hn : n ≤ 2000000) (hs : ∀ x ∈ l, x.1.length ≤ 1000000000 ∧ x.2.length ≤ 1000000000) :
    Calls Tryz.prog 37 #[.slice a n c] W fun e w' => ∃ out va vc, e = .returned (.slice va out.length vc) ∧ SSet roleLt roleR l out ∧ FreshI W w' (rowI 23 2 (.slice va out.length vc) out.length (cellsL out)) := by
  have H := Lib.hid h
  have HNL := Lib.hid (And.intro h.1 hs)
  clear h hs
  have st := (Own.startOld W).row_nil 23 2
  (try simp only [nsl, Value.cells, unB] at st)
  (try clear hc); have hc := st.facts; (try simp only [nfl, nft, Nat.reduceAdd] at hc)
  go_enter Tryz.func37, Tryz.ntmps37
  go_wp2_with fail
  go_loopg [3] (left roleLt roleR l []) (fun k v wr => ∃ (out : List Role) (m : Nat) (va : Option Addr) (vc : Nat), v = .slice va m vc ∧ m ≤ 2000000 ∧ Hid (GInv roleLt roleR l out ∧ left roleLt roleR l out ≤ k ∧ m = out.length) ∧ Own (fun _ => False) (fun _ => True) W [oldI W, rowI 23 2 (.slice va m vc) m (cellsL out)] wr)
  case atStart => exact ⟨[], 0, none, 0, rfl, by omega, Lib.hid ⟨GInv.nil _, Nat.le_refl _, rfl⟩, st⟩
  case round =>
    obtain ⟨out, m, va, vc, rfl, hm2, HG, st'⟩ := hrel
    clear st hc
    have st := st'
    clear st'
    (try simp only [nsl, Value.cells, unB] at st)
    (try clear hc); have hc := st.facts; (try simp only [nfl, nft, Nat.reduceAdd] at hc)
    go_wp2_with ((((with_reducible refine wl_alloc ?_ (fun K hK => ?_)); rfl; refine owp_alloc (o := ⟨some 4, _, _, _, _, _⟩) rfl st ?_; apply Exists.intro; apply Exists.intro; refine ⟨?_, ?_⟩; (focus (first | (go_simp; done) | (go_simp; rfl))); (clear st; intro b4 w hb st; clear hb))); (try simp only [nsl, Value.cells, unB] at st); (try clear hc); have hc := st.facts; (try simp only [nfl, nft, Nat.reduceAdd] at hc))
    go_loopg [5, 10] n (fun k vok i wr => ∃ (j : Nat) (ok : Bool) (best : Role), j ≤ n ∧ k = n - j ∧ i = .int .i64 (j : Int) ∧ vok = .bool ok ∧ Hid (pickMin roleLt (cnd roleLt roleR out) (l.take j) = okB ok best) ∧ Own (fun _ => False) (fun _ => True) W [oldI W, rowI 23 2 (.slice va m vc) m (cellsL out), blkI b4 [S best.1, S best.2]] wr)
    case atStart => exact ⟨0, false, ([], []), by omega, by omega, rfl, rfl, Lib.hid (by simp [pickMin, okB]), by first | exact st | simpa [S] using st⟩
    case round =>
      obtain ⟨j, ok, best, hj, rfl, rfl, rfl, HP, st'⟩ := hrel
      clear st hc
      have st := st'
      clear st'
      obtain ⟨bo, bd⟩ := best
      simp only at st
      unfold S at st
      (try simp only [nsl, Value.cells, unB] at st)
      (try clear hc); have hc := st.facts; (try simp only [nfl, nft, Nat.reduceAdd] at hc)
      by_cases hjn : j < n
      · obtain ⟨b, off, ha, hcell⟩ := H.out.role (by omega)
        have hjl : j < l.length := by have := HNL.out.1; omega
        have r0 := st.oldCell (i := 0) get0 (hcell j l[j] (List.getElem?_eq_getElem hjl)).1
        have r1 := st.oldCell (i := 0) get0 (hcell j l[j] (List.getElem?_eq_getElem hjl)).2
        have hts := pickMin_take (lt := roleLt) (cnd roleLt roleR out) l j hjl
        have hxl := HNL.out.2 l[j] (List.getElem_mem hjl)
        have hrr := refRoleRight_any l[j]
        have hlb := refRoleLess_any l[j] (bo, bd)
        clear hcell
        generalize l[j] = x at *
        obtain ⟨o, d⟩ := x
        have HX := Lib.hid hts
        clear hts
        subst ha
        simp only at r0 r1 hxl
        unfold S at r0 r1
        unfold rV S at hrr hlb
        have HLB := Lib.hid hlb
        clear hlb
        go_wp2_with ((first
              | ((with_reducible refine wl_alloc ?_ (fun K hK => ?_)); rfl; refine owp_alloc (o := ⟨some 7, _, _, _, _, _⟩) rfl st ?_; apply Exists.intro; apply Exists.intro; refine ⟨?_, ?_⟩; (focus (first | (go_simp; done) | (go_simp; rfl))); (clear st; intro b7 w hb st; clear hb))
              | ((with_reducible refine wl_store ?_ (fun K hK => ?_)); rfl; refine owp_store rfl st ?_; apply Exists.intro; apply Exists.intro; refine ⟨?_, ?_, ?_⟩; (focus (go_simp; try rfl)); (focus (go_simp; try rfl)); (with_reducible refine ⟨3, _, _, _, _, get3, rfl, rfl, ?_, ?_, ?_, ?_⟩); (kernel_rfl); (simp [Value.cells]); (rfl); (clear st; intro w st))); (try simp only [nsl, Value.cells, unB] at st); (try clear hc); have hc := st.facts; (try simp only [nfl, nft, Nat.reduceAdd] at hc))
        clear r0 r1
        cases hr : roleR (o, d) with
        | false =>
          have HR := Lib.hid (And.intro (And.intro hr hxl) hrr)
          clear hr hrr hxl
          refine Rg4.wp_region4 (Rel := Ext) #[0, 1, 3, 7, 15, 31, 63, 127, 127, 383, 895, 2047, 4095, 127, 16383, 32767, 65535, 131071, 262143, 524287, 1048575, 2097151, 2097151, 8388607, 16777215, 33554431]
            [(1, .val (.bool false)), (14, .val (.bool false)), (23, .val (.bool false))] [] [0, 12, 13, 21, 22] (fun _ => True) [0, 1, 2, 3, 4, 5, 6, 7, 8, 9, 10, 11, 12, 13, 14, 15, 16, 17, 18, 19, 20, 21, 22, 23, 24, 25] (by kernel_rfl) (by kernel_rfl) (by kernel_rfl) (by kernel_rfl) Ext.refl (fun _ _ _ => Ext.trans) (show Rg4.PB _ by repeat (first | with_reducible exact Rg4.pb_body | with_reducible exact Rg4.pb_bodyD rfl | with_reducible refine Rg4.pb_then ?_ | with_reducible refine Rg4.pb_inBlock ?_ | with_reducible refine Rg4.pb_noGoto ?_)) (trivial) ?_
          replace st := st.drew
          change Rg4.wp4 _ _ _ _ _ _ _ _ _ (World.drew _) _ _
          generalize World.drew _ = w at st ⊢
          (try clear hc); have hc := st.facts; (try simp only [nfl, nft, Nat.reduceAdd] at hc)
          (refine Rg4.w4_read (Rg4.want_none rfl) rfl rfl ?_; apply Exists.intro; refine ⟨fun w' hw' hcl' => ?_, ?_⟩; focus (have st' := st.ext hw'; have hc' := st'.facts; (try simp only [nfl, nft, Nat.reduceAdd] at hc'); (focus (first | (go_simp; done) | (go_simp; first | rfl | (rw [if_neg] <;> first | rfl | omega) | (rw [if_pos] <;> first | rfl | omega))))); (try simp only [Rg4.nrm]))
          refine Rg4.w4_some (Rg4.want_none rfl) rfl (fun w' hw' hcl' _ => ?_) ?_
          · refine Rg.relAt_call (by go_simp; exact ⟨rfl, rfl⟩) ?_
            refine (HR.out.2 _ (by have := HR.out.1.2; omega) (by have := HR.out.1.2; omega)).mono ?_
            rintro en w'' ⟨rfl, hx⟩
            exact ⟨_, by rw [HR.out.1.1], hx, trivial, rfl⟩
          rintro v ⟨_, _, _, rfl⟩
          (try simp only [Rg4.nrm])
          (refine Rg4.w4_any (Rg4.want_none rfl) rfl ?_; apply Exists.intro; refine ⟨fun w' => ?_, ?_⟩; (focus (first | (go_simp; done) | (go_simp; first | rfl | (rw [if_neg] <;> first | rfl | omega) | (rw [if_pos] <;> first | rfl | omega)))); (try simp only [Rg4.nrm]))
          iterate 9 (first | (refine Rg4.w4_any (Rg4.wt rfl rfl rfl) rfl ?_; apply Exists.intro; refine ⟨fun w' => ?_, ?_⟩; (focus (first | (go_simp; done) | (go_simp; first | rfl | (rw [if_neg] <;> first | rfl | omega) | (rw [if_pos] <;> first | rfl | omega)))); (try simp only [Rg4.nrm])) | (refine Rg4.w4_skip (Rg4.uw rfl rfl rfl) ?_; (try simp only [Rg4.nrm])) | (refine Rg4.w4_skip (Rg4.un rfl rfl rfl) ?_; (try simp only [Rg4.nrm])))
          iterate 2 (first | (refine Rg4.w4_read (Rg4.wt rfl rfl rfl) rfl rfl ?_; apply Exists.intro; refine ⟨fun w' hw' hcl' => ?_, ?_⟩; focus (have st' := st.ext hw'; have hc' := st'.facts; (try simp only [nfl, nft, Nat.reduceAdd] at hc'); (focus (first | (go_simp; done) | (go_simp; first | rfl | (rw [if_neg] <;> first | rfl | omega) | (rw [if_pos] <;> first | rfl | omega))))); (try simp only [Rg4.nrm])) | (refine Rg4.w4_skip (Rg4.uw rfl rfl rfl) ?_; (try simp only [Rg4.nrm])) | (refine Rg4.w4_skip (Rg4.un rfl rfl rfl) ?_; (try simp only [Rg4.nrm])))
          first | refine Rg4.w4_skip (Rg4.uw rfl rfl rfl) ?_ | refine Rg4.w4_skip (Rg4.un rfl rfl rfl) ?_
          (try simp only [Rg4.nrm])
          (first | (refine Rg4.w4_any (Rg4.wt rfl rfl rfl) rfl ?_; apply Exists.intro; refine ⟨fun w' => ?_, ?_⟩; (focus (first | (go_simp; done) | (go_simp; first | rfl | (rw [if_neg] <;> first | rfl | omega) | (rw [if_pos] <;> first | rfl | omega)))); (try simp only [Rg4.nrm])) | (refine Rg4.w4_skip (Rg4.uw rfl rfl rfl) ?_; (try simp only [Rg4.nrm])) | (refine Rg4.w4_skip (Rg4.un rfl rfl rfl) ?_; (try simp only [Rg4.nrm])))
          iterate 2 (refine Rg4.w4_any (Rg4.want_none rfl) rfl ?_; apply Exists.intro; refine ⟨fun w' => ?_, ?_⟩; (focus (first | (go_simp; done) | (go_simp; first | rfl | (rw [if_neg] <;> first | rfl | omega) | (rw [if_pos] <;> first | rfl | omega)))); (try simp only [Rg4.nrm]))
          iterate 3 (first | (refine Rg4.w4_any (Rg4.wt rfl rfl rfl) rfl ?_; apply Exists.intro; refine ⟨fun w' => ?_, ?_⟩; (focus (first | (go_simp; done) | (go_simp; first | rfl | (rw [if_neg] <;> first | rfl | omega) | (rw [if_pos] <;> first | rfl | omega)))); (try simp only [Rg4.nrm])) | (refine Rg4.w4_skip (Rg4.uw rfl rfl rfl) ?_; (try simp only [Rg4.nrm])) | (refine Rg4.w4_skip (Rg4.un rfl rfl rfl) ?_; (try simp only [Rg4.nrm])))
          iterate 2 (first | (refine Rg4.w4_read (Rg4.wt rfl rfl rfl) rfl rfl ?_; apply Exists.intro; refine ⟨fun w' hw' hcl' => ?_, ?_⟩; focus (have st' := st.ext hw'; have hc' := st'.facts; (try simp only [nfl, nft, Nat.reduceAdd] at hc'); (focus (first | (go_simp; done) | (go_simp; first | rfl | (rw [if_neg] <;> first | rfl | omega) | (rw [if_pos] <;> first | rfl | omega))))); (try simp only [Rg4.nrm])) | (refine Rg4.w4_skip (Rg4.uw rfl rfl rfl) ?_; (try simp only [Rg4.nrm])) | (refine Rg4.w4_skip (Rg4.un rfl rfl rfl) ?_; (try simp only [Rg4.nrm])))
          first | refine Rg4.w4_skip (Rg4.uw rfl rfl rfl) ?_ | refine Rg4.w4_skip (Rg4.un rfl rfl rfl) ?_
          (try simp only [Rg4.nrm])
          (first | (refine Rg4.w4_any (Rg4.wt rfl rfl rfl) rfl ?_; apply Exists.intro; refine ⟨fun w' => ?_, ?_⟩; (focus (first | (go_simp; done) | (go_simp; first | rfl | (rw [if_neg] <;> first | rfl | omega) | (rw [if_pos] <;> first | rfl | omega)))); (try simp only [Rg4.nrm])) | (refine Rg4.w4_skip (Rg4.uw rfl rfl rfl) ?_; (try simp only [Rg4.nrm])) | (refine Rg4.w4_skip (Rg4.un rfl rfl rfl) ?_; (try simp only [Rg4.nrm])))
          (refine Rg4.w4_any (Rg4.want_none rfl) rfl ?_; apply Exists.intro; refine ⟨fun w' => ?_, ?_⟩; (focus (first | (go_simp; done) | (go_simp; first | rfl | (rw [if_neg] <;> first | rfl | omega) | (rw [if_pos] <;> first | rfl | omega)))); (try simp only [Rg4.nrm]))
          refine Rg4.w4_nil (fun w' hw' hcl' _ => ?_); replace st := st.ext hw'; clear hw' hcl'; (try clear hc); have hc := st.facts; (try simp only [nfl, nft, Nat.reduceAdd] at hc)
          have HB : Hid (pickMin roleLt (cnd roleLt roleR out) (l.take (j + 1)) = pickMin roleLt (cnd roleLt roleR out) (l.take j)) := Lib.hid (by rw [HX.out]; simp [cnd, HR.out.1.1])
          go_wp2_with fail
          have st' := st.keep [0, 1, 2] (by decide) (by simp)
          go_roundg (n - (j + 1))
          case measure => omega
          case rel => exact ⟨j + 1, ok, (bo, bd), by omega, by omega, by first | rfl | trivial | go_num, rfl, Lib.hid (by rw [HB.out]; exact HP.out), by simpa [pick, S] using st'⟩
        | true =>
          have HR := Lib.hid (And.intro (And.intro hr hxl) hrr)
          clear hr hrr hxl
          rcases List.eq_nil_or_concat out with ho | ⟨pre, z, ho⟩
          · subst ho
            have hm0 : m = 0 := HG.out.2.2
            subst hm0
            cases ok with
            | false =>
              refine Rg4.wp_region4 (Rel := Ext) #[0, 1, 3, 7, 15, 31, 63, 127, 127, 383, 895, 2047, 4095, 127, 16383, 32767, 65535, 131071, 262143, 524287, 1048575, 2097151, 2097151, 8388607, 16777215, 33554431]
                [(1, .val (.bool true)), (14, .val (.bool false)), (23, .val (.bool false))] [] [0, 12, 13, 21, 22] (fun _ => True) [0, 1, 2, 3, 4, 5, 6, 7, 8, 9, 10, 11, 12, 13, 14, 15, 16, 17, 18, 19, 20, 21, 22, 23, 24, 25] (by kernel_rfl) (by kernel_rfl) (by kernel_rfl) (by kernel_rfl) Ext.refl (fun _ _ _ => Ext.trans) (show Rg4.PB _ by repeat (first | with_reducible exact Rg4.pb_body | with_reducible exact Rg4.pb_bodyD rfl | with_reducible refine Rg4.pb_then ?_ | with_reducible refine Rg4.pb_inBlock ?_ | with_reducible refine Rg4.pb_noGoto ?_)) (trivial) ?_
              replace st := st.drew
              change Rg4.wp4 _ _ _ _ _ _ _ _ _ (World.drew _) _ _
              generalize World.drew _ = w at st ⊢
              (try clear hc); have hc := st.facts; (try simp only [nfl, nft, Nat.reduceAdd] at hc)
              (refine Rg4.w4_read (Rg4.want_none rfl) rfl rfl ?_; apply Exists.intro; refine ⟨fun w' hw' hcl' => ?_, ?_⟩; focus (have st' := st.ext hw'; have hc' := st'.facts; (try simp only [nfl, nft, Nat.reduceAdd] at hc'); (focus (first | (go_simp; done) | (go_simp; first | rfl | (rw [if_neg] <;> first | rfl | omega) | (rw [if_pos] <;> first | rfl | omega))))); (try simp only [Rg4.nrm]))
              refine Rg4.w4_some (Rg4.want_none rfl) rfl (fun w' hw' hcl' _ => ?_) ?_
              · refine Rg.relAt_call (by go_simp; exact ⟨rfl, rfl⟩) ?_
                refine (HR.out.2 _ (by have := HR.out.1.2; omega) (by have := HR.out.1.2; omega)).mono ?_
                rintro en w'' ⟨rfl, hx⟩
                exact ⟨_, by rw [HR.out.1.1], hx, trivial, rfl⟩
              rintro v ⟨_, _, _, rfl⟩
              (try simp only [Rg4.nrm])
              (refine Rg4.w4_any (Rg4.want_none rfl) rfl ?_; apply Exists.intro; refine ⟨fun w' => ?_, ?_⟩; (focus (first | (go_simp; done) | (go_simp; first | rfl | (rw [if_neg] <;> first | rfl | omega) | (rw [if_pos] <;> first | rfl | omega)))); (try simp only [Rg4.nrm]))
              iterate 9 (first | (refine Rg4.w4_any (Rg4.wt rfl rfl rfl) rfl ?_; apply Exists.intro; refine ⟨fun w' => ?_, ?_⟩; (focus (first | (go_simp; done) | (go_simp; first | rfl | (rw [if_neg] <;> first | rfl | omega) | (rw [if_pos] <;> first | rfl | omega)))); (try simp only [Rg4.nrm])) | (refine Rg4.w4_skip (Rg4.uw rfl rfl rfl) ?_; (try simp only [Rg4.nrm])) | (refine Rg4.w4_skip (Rg4.un rfl rfl rfl) ?_; (try simp only [Rg4.nrm])))
              iterate 2 (first | (refine Rg4.w4_read (Rg4.wt rfl rfl rfl) rfl rfl ?_; apply Exists.intro; refine ⟨fun w' hw' hcl' => ?_, ?_⟩; focus (have st' := st.ext hw'; have hc' := st'.facts; (try simp only [nfl, nft, Nat.reduceAdd] at hc'); (focus (first | (go_simp; done) | (go_simp; first | rfl | (rw [if_neg] <;> first | rfl | omega) | (rw [if_pos] <;> first | rfl | omega))))); (try simp only [Rg4.nrm])) | (refine Rg4.w4_skip (Rg4.uw rfl rfl rfl) ?_; (try simp only [Rg4.nrm])) | (refine Rg4.w4_skip (Rg4.un rfl rfl rfl) ?_; (try simp only [Rg4.nrm])))
              first | refine Rg4.w4_skip (Rg4.uw rfl rfl rfl) ?_ | refine Rg4.w4_skip (Rg4.un rfl rfl rfl) ?_
              (try simp only [Rg4.nrm])
              (first | (refine Rg4.w4_any (Rg4.wt rfl rfl rfl) rfl ?_; apply Exists.intro; refine ⟨fun w' => ?_, ?_⟩; (focus (first | (go_simp; done) | (go_simp; first | rfl | (rw [if_neg] <;> first | rfl | omega) | (rw [if_pos] <;> first | rfl | omega)))); (try simp only [Rg4.nrm])) | (refine Rg4.w4_skip (Rg4.uw rfl rfl rfl) ?_; (try simp only [Rg4.nrm])) | (refine Rg4.w4_skip (Rg4.un rfl rfl rfl) ?_; (try simp only [Rg4.nrm])))
              iterate 2 (refine Rg4.w4_any (Rg4.want_none rfl) rfl ?_; apply Exists.intro; refine ⟨fun w' => ?_, ?_⟩; (focus (first | (go_simp; done) | (go_simp; first | rfl | (rw [if_neg] <;> first | rfl | omega) | (rw [if_pos] <;> first | rfl | omega)))); (try simp only [Rg4.nrm]))
              iterate 3 (first | (refine Rg4.w4_any (Rg4.wt rfl rfl rfl) rfl ?_; apply Exists.intro; refine ⟨fun w' => ?_, ?_⟩; (focus (first | (go_simp; done) | (go_simp; first | rfl | (rw [if_neg] <;> first | rfl | omega) | (rw [if_pos] <;> first | rfl | omega)))); (try simp only [Rg4.nrm])) | (refine Rg4.w4_skip (Rg4.uw rfl rfl rfl) ?_; (try simp only [Rg4.nrm])) | (refine Rg4.w4_skip (Rg4.un rfl rfl rfl) ?_; (try simp only [Rg4.nrm])))
              iterate 2 (first | (refine Rg4.w4_read (Rg4.wt rfl rfl rfl) rfl rfl ?_; apply Exists.intro; refine ⟨fun w' hw' hcl' => ?_, ?_⟩; focus (have st' := st.ext hw'; have hc' := st'.facts; (try simp only [nfl, nft, Nat.reduceAdd] at hc'); (focus (first | (go_simp; done) | (go_simp; first | rfl | (rw [if_neg] <;> first | rfl | omega) | (rw [if_pos] <;> first | rfl | omega))))); (try simp only [Rg4.nrm])) | (refine Rg4.w4_skip (Rg4.uw rfl rfl rfl) ?_; (try simp only [Rg4.nrm])) | (refine Rg4.w4_skip (Rg4.un rfl rfl rfl) ?_; (try simp only [Rg4.nrm])))
              first | refine Rg4.w4_skip (Rg4.uw rfl rfl rfl) ?_ | refine Rg4.w4_skip (Rg4.un rfl rfl rfl) ?_
              (try simp only [Rg4.nrm])
              (first | (refine Rg4.w4_any (Rg4.wt rfl rfl rfl) rfl ?_; apply Exists.intro; refine ⟨fun w' => ?_, ?_⟩; (focus (first | (go_simp; done) | (go_simp; first | rfl | (rw [if_neg] <;> first | rfl | omega) | (rw [if_pos] <;> first | rfl | omega)))); (try simp only [Rg4.nrm])) | (refine Rg4.w4_skip (Rg4.uw rfl rfl rfl) ?_; (try simp only [Rg4.nrm])) | (refine Rg4.w4_skip (Rg4.un rfl rfl rfl) ?_; (try simp only [Rg4.nrm])))
              (refine Rg4.w4_any (Rg4.want_none rfl) rfl ?_; apply Exists.intro; refine ⟨fun w' => ?_, ?_⟩; (focus (first | (go_simp; done) | (go_simp; first | rfl | (rw [if_neg] <;> first | rfl | omega) | (rw [if_pos] <;> first | rfl | omega)))); (try simp only [Rg4.nrm]))
              refine Rg4.w4_nil (fun w' hw' hcl' _ => ?_); replace st := st.ext hw'; clear hw' hcl'; (try clear hc); have hc := st.facts; (try simp only [nfl, nft, Nat.reduceAdd] at hc)
              have HB : Hid (pickMin roleLt (cnd roleLt roleR []) (l.take (j + 1)) = some (o, d)) := Lib.hid (by rw [HX.out]; simp [cnd, HR.out.1.1, HP.out, okB_f])
              go_wp2_with ((((with_reducible refine wl_store ?_ (fun K hK => ?_)); rfl; refine owp_store rfl st ?_; apply Exists.intro; apply Exists.intro; refine ⟨?_, ?_, ?_⟩; (focus (go_simp; try rfl)); (focus (go_simp; try rfl)); (with_reducible refine ⟨2, _, _, _, _, get2, rfl, rfl, ?_, ?_, ?_, ?_⟩); (kernel_rfl); (simp [Value.cells]); (rfl); (clear st; intro w st))); (try simp only [nsl, Value.cells, unB] at st); (try clear hc); have hc := st.facts; (try simp only [nfl, nft, Nat.reduceAdd] at hc))
              have st' := st.keep [0, 1, 2] (by decide) (by simp)
              go_roundg (n - (j + 1))
              case measure => omega
              case rel => exact ⟨j + 1, true, (o, d), by omega, by omega, by first | rfl | trivial | go_num, rfl, Lib.hid (by rw [HB.out]; rfl), by simpa [pick, S] using st'⟩
            | true =>
              cases hlt : roleLt (o, d) (bo, bd) with
              | true =>
                have HLT := Lib.hid hlt
                clear hlt
                refine Rg4.wp_region4 (Rel := Ext) #[0, 1, 3, 7, 15, 31, 63, 127, 127, 383, 895, 2047, 4095, 127, 16383, 32767, 65535, 131071, 262143, 524287, 1048575, 2097151, 2097151, 8388607, 16777215, 33554431]
                  [(1, .val (.bool true)), (14, .val (.bool false)), (23, .val (.bool true))] [] [0, 12, 13, 21, 22] (fun _ => True) [0, 1, 2, 3, 4, 5, 6, 7, 8, 9, 10, 11, 12, 13, 14, 15, 16, 17, 18, 19, 20, 21, 22, 23, 24, 25] (by kernel_rfl) (by kernel_rfl) (by kernel_rfl) (by kernel_rfl) Ext.refl (fun _ _ _ => Ext.trans) (show Rg4.PB _ by repeat (first | with_reducible exact Rg4.pb_body | with_reducible exact Rg4.pb_bodyD rfl | with_reducible refine Rg4.pb_then ?_ | with_reducible refine Rg4.pb_inBlock ?_ | with_reducible refine Rg4.pb_noGoto ?_)) (trivial) ?_
                replace st := st.drew
                change Rg4.wp4 _ _ _ _ _ _ _ _ _ (World.drew _) _ _
                generalize World.drew _ = w at st ⊢
                (try clear hc); have hc := st.facts; (try simp only [nfl, nft, Nat.reduceAdd] at hc)
                (refine Rg4.w4_read (Rg4.want_none rfl) rfl rfl ?_; apply Exists.intro; refine ⟨fun w' hw' hcl' => ?_, ?_⟩; focus (have st' := st.ext hw'; have hc' := st'.facts; (try simp only [nfl, nft, Nat.reduceAdd] at hc'); (focus (first | (go_simp; done) | (go_simp; first | rfl | (rw [if_neg] <;> first | rfl | omega) | (rw [if_pos] <;> first | rfl | omega))))); (try simp only [Rg4.nrm]))
                refine Rg4.w4_some (Rg4.want_none rfl) rfl (fun w' hw' hcl' _ => ?_) ?_
                · refine Rg.relAt_call (by go_simp; exact ⟨rfl, rfl⟩) ?_
                  refine (HR.out.2 _ (by have := HR.out.1.2; omega) (by have := HR.out.1.2; omega)).mono ?_
                  rintro en w'' ⟨rfl, hx⟩
                  exact ⟨_, by rw [HR.out.1.1], hx, trivial, rfl⟩
                rintro v ⟨_, _, _, rfl⟩
                (try simp only [Rg4.nrm])
                (refine Rg4.w4_any (Rg4.want_none rfl) rfl ?_; apply Exists.intro; refine ⟨fun w' => ?_, ?_⟩; (focus (first | (go_simp; done) | (go_simp; first | rfl | (rw [if_neg] <;> first | rfl | omega) | (rw [if_pos] <;> first | rfl | omega)))); (try simp only [Rg4.nrm]))
                iterate 9 (first | (refine Rg4.w4_any (Rg4.wt rfl rfl rfl) rfl ?_; apply Exists.intro; refine ⟨fun w' => ?_, ?_⟩; (focus (first | (go_simp; done) | (go_simp; first | rfl | (rw [if_neg] <;> first | rfl | omega) | (rw [if_pos] <;> first | rfl | omega)))); (try simp only [Rg4.nrm])) | (refine Rg4.w4_skip (Rg4.uw rfl rfl rfl) ?_; (try simp only [Rg4.nrm])) | (refine Rg4.w4_skip (Rg4.un rfl rfl rfl) ?_; (try simp only [Rg4.nrm])))
                iterate 2 (first | (refine Rg4.w4_read (Rg4.wt rfl rfl rfl) rfl rfl ?_; apply Exists.intro; refine ⟨fun w' hw' hcl' => ?_, ?_⟩; focus (have st' := st.ext hw'; have hc' := st'.facts; (try simp only [nfl, nft, Nat.reduceAdd] at hc'); (focus (first | (go_simp; done) | (go_simp; first | rfl | (rw [if_neg] <;> first | rfl | omega) | (rw [if_pos] <;> first | rfl | omega))))); (try simp only [Rg4.nrm])) | (refine Rg4.w4_skip (Rg4.uw rfl rfl rfl) ?_; (try simp only [Rg4.nrm])) | (refine Rg4.w4_skip (Rg4.un rfl rfl rfl) ?_; (try simp only [Rg4.nrm])))
                first | refine Rg4.w4_skip (Rg4.uw rfl rfl rfl) ?_ | refine Rg4.w4_skip (Rg4.un rfl rfl rfl) ?_
                (try simp only [Rg4.nrm])
                (first | (refine Rg4.w4_any (Rg4.wt rfl rfl rfl) rfl ?_; apply Exists.intro; refine ⟨fun w' => ?_, ?_⟩; (focus (first | (go_simp; done) | (go_simp; first | rfl | (rw [if_neg] <;> first | rfl | omega) | (rw [if_pos] <;> first | rfl | omega)))); (try simp only [Rg4.nrm])) | (refine Rg4.w4_skip (Rg4.uw rfl rfl rfl) ?_; (try simp only [Rg4.nrm])) | (refine Rg4.w4_skip (Rg4.un rfl rfl rfl) ?_; (try simp only [Rg4.nrm])))
                iterate 2 (refine Rg4.w4_any (Rg4.want_none rfl) rfl ?_; apply Exists.intro; refine ⟨fun w' => ?_, ?_⟩; (focus (first | (go_simp; done) | (go_simp; first | rfl | (rw [if_neg] <;> first | rfl | omega) | (rw [if_pos] <;> first | rfl | omega)))); (try simp only [Rg4.nrm]))
                iterate 3 (first | (refine Rg4.w4_any (Rg4.wt rfl rfl rfl) rfl ?_; apply Exists.intro; refine ⟨fun w' => ?_, ?_⟩; (focus (first | (go_simp; done) | (go_simp; first | rfl | (rw [if_neg] <;> first | rfl | omega) | (rw [if_pos] <;> first | rfl | omega)))); (try simp only [Rg4.nrm])) | (refine Rg4.w4_skip (Rg4.uw rfl rfl rfl) ?_; (try simp only [Rg4.nrm])) | (refine Rg4.w4_skip (Rg4.un rfl rfl rfl) ?_; (try simp only [Rg4.nrm])))
                iterate 2 (first | (refine Rg4.w4_read (Rg4.wt rfl rfl rfl) rfl rfl ?_; apply Exists.intro; refine ⟨fun w' hw' hcl' => ?_, ?_⟩; focus (have st' := st.ext hw'; have hc' := st'.facts; (try simp only [nfl, nft, Nat.reduceAdd] at hc'); (focus (first | (go_simp; done) | (go_simp; first | rfl | (rw [if_neg] <;> first | rfl | omega) | (rw [if_pos] <;> first | rfl | omega))))); (try simp only [Rg4.nrm])) | (refine Rg4.w4_skip (Rg4.uw rfl rfl rfl) ?_; (try simp only [Rg4.nrm])) | (refine Rg4.w4_skip (Rg4.un rfl rfl rfl) ?_; (try simp only [Rg4.nrm])))
                refine Rg4.w4_some (Rg4.want_of 20 34 false rfl rfl rfl) rfl (fun w' hw' hcl' _ => ?_) ?_
                · refine Rg.relAt_call (by go_simp; exact ⟨rfl, rfl⟩) ?_
                  refine (HLB.out _).mono ?_
                  rintro en w'' ⟨rfl, hx⟩
                  exact ⟨_, by rw [HLT.out], hx, trivial, rfl⟩
                rintro v ⟨_, _, _, rfl⟩
                (try simp only [Rg4.nrm])
                (first | (refine Rg4.w4_any (Rg4.wt rfl rfl rfl) rfl ?_; apply Exists.intro; refine ⟨fun w' => ?_, ?_⟩; (focus (first | (go_simp; done) | (go_simp; first | rfl | (rw [if_neg] <;> first | rfl | omega) | (rw [if_pos] <;> first | rfl | omega)))); (try simp only [Rg4.nrm])) | (refine Rg4.w4_skip (Rg4.uw rfl rfl rfl) ?_; (try simp only [Rg4.nrm])) | (refine Rg4.w4_skip (Rg4.un rfl rfl rfl) ?_; (try simp only [Rg4.nrm])))
                (refine Rg4.w4_any (Rg4.want_none rfl) rfl ?_; apply Exists.intro; refine ⟨fun w' => ?_, ?_⟩; (focus (first | (go_simp; done) | (go_simp; first | rfl | (rw [if_neg] <;> first | rfl | omega) | (rw [if_pos] <;> first | rfl | omega)))); (try simp only [Rg4.nrm]))
                refine Rg4.w4_nil (fun w' hw' hcl' _ => ?_); replace st := st.ext hw'; clear hw' hcl'; (try clear hc); have hc := st.facts; (try simp only [nfl, nft, Nat.reduceAdd] at hc)
                have HB : Hid (pickMin roleLt (cnd roleLt roleR []) (l.take (j + 1)) = some (o, d)) := Lib.hid (by rw [HX.out]; simp [cnd, HR.out.1.1, HP.out, okB_t, HLT.out])
                go_wp2_with ((((with_reducible refine wl_store ?_ (fun K hK => ?_)); rfl; refine owp_store rfl st ?_; apply Exists.intro; apply Exists.intro; refine ⟨?_, ?_, ?_⟩; (focus (go_simp; try rfl)); (focus (go_simp; try rfl)); (with_reducible refine ⟨2, _, _, _, _, get2, rfl, rfl, ?_, ?_, ?_, ?_⟩); (kernel_rfl); (simp [Value.cells]); (rfl); (clear st; intro w st))); (try simp only [nsl, Value.cells, unB] at st); (try clear hc); have hc := st.facts; (try simp only [nfl, nft, Nat.reduceAdd] at hc))
                have st' := st.keep [0, 1, 2] (by decide) (by simp)
                go_roundg (n - (j + 1))
                case measure => omega
                case rel => exact ⟨j + 1, true, (o, d), by omega, by omega, by first | rfl | trivial | go_num, rfl, Lib.hid (by rw [HB.out]; rfl), by simpa [pick, S] using st'⟩
              | false =>
                have HLT := Lib.hid hlt
                clear hlt
                refine Rg4.wp_region4 (Rel := Ext) #[0, 1, 3, 7, 15, 31, 63, 127, 127, 383, 895, 2047, 4095, 127, 16383, 32767, 65535, 131071, 262143, 524287, 1048575, 2097151, 2097151, 8388607, 16777215, 33554431]
                  [(1, .val (.bool true)), (14, .val (.bool false)), (23, .val (.bool false))] [] [0, 12, 13, 21, 22] (fun _ => True) [0, 1, 2, 3, 4, 5, 6, 7, 8, 9, 10, 11, 12, 13, 14, 15, 16, 17, 18, 19, 20, 21, 22, 23, 24, 25] (by kernel_rfl) (by kernel_rfl) (by kernel_rfl) (by kernel_rfl) Ext.refl (fun _ _ _ => Ext.trans) (show Rg4.PB _ by repeat (first | with_reducible exact Rg4.pb_body | with_reducible exact Rg4.pb_bodyD rfl | with_reducible refine Rg4.pb_then ?_ | with_reducible refine Rg4.pb_inBlock ?_ | with_reducible refine Rg4.pb_noGoto ?_)) (trivial) ?_
                replace st := st.drew
                change Rg4.wp4 _ _ _ _ _ _ _ _ _ (World.drew _) _ _
                generalize World.drew _ = w at st ⊢
                (try clear hc); have hc := st.facts; (try simp only [nfl, nft, Nat.reduceAdd] at hc)
                (refine Rg4.w4_read (Rg4.want_none rfl) rfl rfl ?_; apply Exists.intro; refine ⟨fun w' hw' hcl' => ?_, ?_⟩; focus (have st' := st.ext hw'; have hc' := st'.facts; (try simp only [nfl, nft, Nat.reduceAdd] at hc'); (focus (first | (go_simp; done) | (go_simp; first | rfl | (rw [if_neg] <;> first | rfl | omega) | (rw [if_pos] <;> first | rfl | omega))))); (try simp only [Rg4.nrm]))
                refine Rg4.w4_some (Rg4.want_none rfl) rfl (fun w' hw' hcl' _ => ?_) ?_
                · refine Rg.relAt_call (by go_simp; exact ⟨rfl, rfl⟩) ?_
                  refine (HR.out.2 _ (by have := HR.out.1.2; omega) (by have := HR.out.1.2; omega)).mono ?_
                  rintro en w'' ⟨rfl, hx⟩
                  exact ⟨_, by rw [HR.out.1.1], hx, trivial, rfl⟩
                rintro v ⟨_, _, _, rfl⟩
                (try simp only [Rg4.nrm])
                (refine Rg4.w4_any (Rg4.want_none rfl) rfl ?_; apply Exists.intro; refine ⟨fun w' => ?_, ?_⟩; (focus (first | (go_simp; done) | (go_simp; first | rfl | (rw [if_neg] <;> first | rfl | omega) | (rw [if_pos] <;> first | rfl | omega)))); (try simp only [Rg4.nrm]))
                iterate 9 (first | (refine Rg4.w4_any (Rg4.wt rfl rfl rfl) rfl ?_; apply Exists.intro; refine ⟨fun w' => ?_, ?_⟩; (focus (first | (go_simp; done) | (go_simp; first | rfl | (rw [if_neg] <;> first | rfl | omega) | (rw [if_pos] <;> first | rfl | omega)))); (try simp only [Rg4.nrm])) | (refine Rg4.w4_skip (Rg4.uw rfl rfl rfl) ?_; (try simp only [Rg4.nrm])) | (refine Rg4.w4_skip (Rg4.un rfl rfl rfl) ?_; (try simp only [Rg4.nrm])))
                iterate 2 (first | (refine Rg4.w4_read (Rg4.wt rfl rfl rfl) rfl rfl ?_; apply Exists.intro; refine ⟨fun w' hw' hcl' => ?_, ?_⟩; focus (have st' := st.ext hw'; have hc' := st'.facts; (try simp only [nfl, nft, Nat.reduceAdd] at hc'); (focus (first | (go_simp; done) | (go_simp; first | rfl | (rw [if_neg] <;> first | rfl | omega) | (rw [if_pos] <;> first | rfl | omega))))); (try simp only [Rg4.nrm])) | (refine Rg4.w4_skip (Rg4.uw rfl rfl rfl) ?_; (try simp only [Rg4.nrm])) | (refine Rg4.w4_skip (Rg4.un rfl rfl rfl) ?_; (try simp only [Rg4.nrm])))
                first | refine Rg4.w4_skip (Rg4.uw rfl rfl rfl) ?_ | refine Rg4.w4_skip (Rg4.un rfl rfl rfl) ?_
                (try simp only [Rg4.nrm])
                (first | (refine Rg4.w4_any (Rg4.wt rfl rfl rfl) rfl ?_; apply Exists.intro; refine ⟨fun w' => ?_, ?_⟩; (focus (first | (go_simp; done) | (go_simp; first | rfl | (rw [if_neg] <;> first | rfl | omega) | (rw [if_pos] <;> first | rfl | omega)))); (try simp only [Rg4.nrm])) | (refine Rg4.w4_skip (Rg4.uw rfl rfl rfl) ?_; (try simp only [Rg4.nrm])) | (refine Rg4.w4_skip (Rg4.un rfl rfl rfl) ?_; (try simp only [Rg4.nrm])))
                iterate 2 (refine Rg4.w4_any (Rg4.want_none rfl) rfl ?_; apply Exists.intro; refine ⟨fun w' => ?_, ?_⟩; (focus (first | (go_simp; done) | (go_simp; first | rfl | (rw [if_neg] <;> first | rfl | omega) | (rw [if_pos] <;> first | rfl | omega)))); (try simp only [Rg4.nrm]))
                iterate 3 (first | (refine Rg4.w4_any (Rg4.wt rfl rfl rfl) rfl ?_; apply Exists.intro; refine ⟨fun w' => ?_, ?_⟩; (focus (first | (go_simp; done) | (go_simp; first | rfl | (rw [if_neg] <;> first | rfl | omega) | (rw [if_pos] <;> first | rfl | omega)))); (try simp only [Rg4.nrm])) | (refine Rg4.w4_skip (Rg4.uw rfl rfl rfl) ?_; (try simp only [Rg4.nrm])) | (refine Rg4.w4_skip (Rg4.un rfl rfl rfl) ?_; (try simp only [Rg4.nrm])))
                iterate 2 (first | (refine Rg4.w4_read (Rg4.wt rfl rfl rfl) rfl rfl ?_; apply Exists.intro; refine ⟨fun w' hw' hcl' => ?_, ?_⟩; focus (have st' := st.ext hw'; have hc' := st'.facts; (try simp only [nfl, nft, Nat.reduceAdd] at hc'); (focus (first | (go_simp; done) | (go_simp; first | rfl | (rw [if_neg] <;> first | rfl | omega) | (rw [if_pos] <;> first | rfl | omega))))); (try simp only [Rg4.nrm])) | (refine Rg4.w4_skip (Rg4.uw rfl rfl rfl) ?_; (try simp only [Rg4.nrm])) | (refine Rg4.w4_skip (Rg4.un rfl rfl rfl) ?_; (try simp only [Rg4.nrm])))
                refine Rg4.w4_some (Rg4.want_of 20 34 false rfl rfl rfl) rfl (fun w' hw' hcl' _ => ?_) ?_
                · refine Rg.relAt_call (by go_simp; exact ⟨rfl, rfl⟩) ?_
                  refine (HLB.out _).mono ?_
                  rintro en w'' ⟨rfl, hx⟩
                  exact ⟨_, by rw [HLT.out], hx, trivial, rfl⟩
                rintro v ⟨_, _, _, rfl⟩
                (try simp only [Rg4.nrm])
                (first | (refine Rg4.w4_any (Rg4.wt rfl rfl rfl) rfl ?_; apply Exists.intro; refine ⟨fun w' => ?_, ?_⟩; (focus (first | (go_simp; done) | (go_simp; first | rfl | (rw [if_neg] <;> first | rfl | omega) | (rw [if_pos] <;> first | rfl | omega)))); (try simp only [Rg4.nrm])) | (refine Rg4.w4_skip (Rg4.uw rfl rfl rfl) ?_; (try simp only [Rg4.nrm])) | (refine Rg4.w4_skip (Rg4.un rfl rfl rfl) ?_; (try simp only [Rg4.nrm])))
                (refine Rg4.w4_any (Rg4.want_none rfl) rfl ?_; apply Exists.intro; refine ⟨fun w' => ?_, ?_⟩; (focus (first | (go_simp; done) | (go_simp; first | rfl | (rw [if_neg] <;> first | rfl | omega) | (rw [if_pos] <;> first | rfl | omega)))); (try simp only [Rg4.nrm]))
                refine Rg4.w4_nil (fun w' hw' hcl' _ => ?_); replace st := st.ext hw'; clear hw' hcl'; (try clear hc); have hc := st.facts; (try simp only [nfl, nft, Nat.reduceAdd] at hc)
                have HB : Hid (pickMin roleLt (cnd roleLt roleR []) (l.take (j + 1)) = pickMin roleLt (cnd roleLt roleR []) (l.take j)) := Lib.hid (by rw [HX.out]; simp [cnd, HR.out.1.1, HP.out, okB_t, HLT.out])
                go_wp2_with fail
                have st' := st.keep [0, 1, 2] (by decide) (by simp)
                go_roundg (n - (j + 1))
                case measure => omega
                case rel => exact ⟨j + 1, true, (bo, bd), by omega, by omega, by first | rfl | trivial | go_num, rfl, Lib.hid (by rw [HB.out]; exact HP.out), by simpa [pick, S] using st'⟩
          · rw [List.concat_eq_append] at ho
            have hmq : m = pre.length + 1 := by have := HG.out.2.2; rw [ho] at this; simpa using this
            have hlast : out.getLast? = some z := by rw [ho]; simp
            have hoz : out[pre.length]? = some z := by rw [ho]; simp
            have hrz := role_get hoz
            have hlz := refRoleLess_any z (o, d)
            clear ho hoz
            generalize pre.length = q at *
            obtain ⟨zo, zd⟩ := z
            have hw : IntKind.i64.wrap ((m : Int) - 1) = (q : Int) := by rw [IntWalk.i64_in _ ⟨by omega, by omega⟩]; omega
            have hb0 : ((m : Int) == 0) = false := by simp; omega
            have hqm : q < m := by omega
            obtain ⟨g, cap, hv, hcap, _⟩ := st.rowAt (i := 1) get1 (by omega)
            injection hv with hv1 hv2 hv3
            subst hv1 hv3
            clear hmq
            simp only at hrz
            unfold S at hrz
            unfold rV S at hlz
            have HRZ := Lib.hid hrz
            have HLZ := Lib.hid hlz
            have HLA := Lib.hid hlast
            clear hrz hlz hlast hcap
            cases hzx : roleLt (zo, zd) (o, d) with
            | false =>
              have HZ := Lib.hid hzx
              clear hzx
              refine Rg4.wp_region4 (Rel := Ext) #[0, 1, 3, 7, 15, 31, 63, 127, 127, 383, 895, 2047, 4095, 127, 16383, 32767, 65535, 131071, 262143, 524287, 1048575, 2097151, 2097151, 8388607, 16777215, 33554431]
                [(1, .val (.bool true)), (14, .val (.bool false)), (23, .val (.bool false))] [] [0, 12, 13, 21, 22] (fun _ => True) [0, 1, 2, 3, 4, 5, 6, 7, 8, 9, 10, 11, 12, 13, 14, 15, 16, 17, 18, 19, 20, 21, 22, 23, 24, 25] (by kernel_rfl) (by kernel_rfl) (by kernel_rfl) (by kernel_rfl) Ext.refl (fun _ _ _ => Ext.trans) (show Rg4.PB _ by repeat (first | with_reducible exact Rg4.pb_body | with_reducible exact Rg4.pb_bodyD rfl | with_reducible refine Rg4.pb_then ?_ | with_reducible refine Rg4.pb_inBlock ?_ | with_reducible refine Rg4.pb_noGoto ?_)) (trivial) ?_
              replace st := st.drew
              change Rg4.wp4 _ _ _ _ _ _ _ _ _ (World.drew _) _ _
              generalize World.drew _ = w at st ⊢
              (try clear hc); have hc := st.facts; (try simp only [nfl, nft, Nat.reduceAdd] at hc)
              (refine Rg4.w4_read (Rg4.want_none rfl) rfl rfl ?_; apply Exists.intro; refine ⟨fun w' hw' hcl' => ?_, ?_⟩; focus (have st' := st.ext hw'; have hc' := st'.facts; (try simp only [nfl, nft, Nat.reduceAdd] at hc'); have r0 := st'.rowC (i := 1) get1 _ _ HRZ.out.1; have r1 := st'.rowC (i := 1) get1 _ _ HRZ.out.2; (focus (first | (go_simp; done) | (go_simp; first | rfl | (rw [if_neg] <;> first | rfl | omega) | (rw [if_pos] <;> first | rfl | omega))))); (try simp only [Rg4.nrm]))
              refine Rg4.w4_some (Rg4.want_none rfl) rfl (fun w' hw' hcl' _ => ?_) ?_
              · refine Rg.relAt_call (by go_simp; exact ⟨rfl, rfl⟩) ?_
                refine (HR.out.2 _ (by have := HR.out.1.2; omega) (by have := HR.out.1.2; omega)).mono ?_
                rintro en w'' ⟨rfl, hx⟩
                exact ⟨_, by rw [HR.out.1.1], hx, trivial, rfl⟩
              rintro v ⟨_, _, _, rfl⟩
              (try simp only [Rg4.nrm])
              (refine Rg4.w4_any (Rg4.want_none rfl) rfl ?_; apply Exists.intro; refine ⟨fun w' => ?_, ?_⟩; (focus (first | (go_simp; done) | (go_simp; first | rfl | (rw [if_neg] <;> first | rfl | omega) | (rw [if_pos] <;> first | rfl | omega)))); (try simp only [Rg4.nrm]))
              iterate 9 (first | (refine Rg4.w4_any (Rg4.wt rfl rfl rfl) rfl ?_; apply Exists.intro; refine ⟨fun w' => ?_, ?_⟩; (focus (first | (go_simp; done) | (go_simp; first | rfl | (rw [if_neg] <;> first | rfl | omega) | (rw [if_pos] <;> first | rfl | omega)))); (try simp only [Rg4.nrm])) | (refine Rg4.w4_skip (Rg4.uw rfl rfl rfl) ?_; (try simp only [Rg4.nrm])) | (refine Rg4.w4_skip (Rg4.un rfl rfl rfl) ?_; (try simp only [Rg4.nrm])))
              iterate 2 (first | (refine Rg4.w4_read (Rg4.wt rfl rfl rfl) rfl rfl ?_; apply Exists.intro; refine ⟨fun w' hw' hcl' => ?_, ?_⟩; focus (have st' := st.ext hw'; have hc' := st'.facts; (try simp only [nfl, nft, Nat.reduceAdd] at hc'); have r0 := st'.rowC (i := 1) get1 _ _ HRZ.out.1; have r1 := st'.rowC (i := 1) get1 _ _ HRZ.out.2; (focus (first | (go_simp; done) | (go_simp; first | rfl | (rw [if_neg] <;> first | rfl | omega) | (rw [if_pos] <;> first | rfl | omega))))); (try simp only [Rg4.nrm])) | (refine Rg4.w4_skip (Rg4.uw rfl rfl rfl) ?_; (try simp only [Rg4.nrm])) | (refine Rg4.w4_skip (Rg4.un rfl rfl rfl) ?_; (try simp only [Rg4.nrm])))
              refine Rg4.w4_some (Rg4.want_of 6 20 false rfl rfl rfl) rfl (fun w' hw' hcl' _ => ?_) ?_
              · refine Rg.relAt_call (by go_simp; exact ⟨rfl, rfl⟩) ?_
                refine (HLZ.out _).mono ?_
                rintro en w'' ⟨rfl, hx⟩
                exact ⟨_, by rw [HZ.out], hx, trivial, rfl⟩
              rintro v ⟨_, _, _, rfl⟩
              (try simp only [Rg4.nrm])
              (first | (refine Rg4.w4_any (Rg4.wt rfl rfl rfl) rfl ?_; apply Exists.intro; refine ⟨fun w' => ?_, ?_⟩; (focus (first | (go_simp; done) | (go_simp; first | rfl | (rw [if_neg] <;> first | rfl | omega) | (rw [if_pos] <;> first | rfl | omega)))); (try simp only [Rg4.nrm])) | (refine Rg4.w4_skip (Rg4.uw rfl rfl rfl) ?_; (try simp only [Rg4.nrm])) | (refine Rg4.w4_skip (Rg4.un rfl rfl rfl) ?_; (try simp only [Rg4.nrm])))
              iterate 2 (refine Rg4.w4_any (Rg4.want_none rfl) rfl ?_; apply Exists.intro; refine ⟨fun w' => ?_, ?_⟩; (focus (first | (go_simp; done) | (go_simp; first | rfl | (rw [if_neg] <;> first | rfl | omega) | (rw [if_pos] <;> first | rfl | omega)))); (try simp only [Rg4.nrm]))
              iterate 3 (first | (refine Rg4.w4_any (Rg4.wt rfl rfl rfl) rfl ?_; apply Exists.intro; refine ⟨fun w' => ?_, ?_⟩; (focus (first | (go_simp; done) | (go_simp; first | rfl | (rw [if_neg] <;> first | rfl | omega) | (rw [if_pos] <;> first | rfl | omega)))); (try simp only [Rg4.nrm])) | (refine Rg4.w4_skip (Rg4.uw rfl rfl rfl) ?_; (try simp only [Rg4.nrm])) | (refine Rg4.w4_skip (Rg4.un rfl rfl rfl) ?_; (try simp only [Rg4.nrm])))
              iterate 2 (first | (refine Rg4.w4_read (Rg4.wt rfl rfl rfl) rfl rfl ?_; apply Exists.intro; refine ⟨fun w' hw' hcl' => ?_, ?_⟩; focus (have st' := st.ext hw'; have hc' := st'.facts; (try simp only [nfl, nft, Nat.reduceAdd] at hc'); have r0 := st'.rowC (i := 1) get1 _ _ HRZ.out.1; have r1 := st'.rowC (i := 1) get1 _ _ HRZ.out.2; (focus (first | (go_simp; done) | (go_simp; first | rfl | (rw [if_neg] <;> first | rfl | omega) | (rw [if_pos] <;> first | rfl | omega))))); (try simp only [Rg4.nrm])) | (refine Rg4.w4_skip (Rg4.uw rfl rfl rfl) ?_; (try simp only [Rg4.nrm])) | (refine Rg4.w4_skip (Rg4.un rfl rfl rfl) ?_; (try simp only [Rg4.nrm])))
              first | refine Rg4.w4_skip (Rg4.uw rfl rfl rfl) ?_ | refine Rg4.w4_skip (Rg4.un rfl rfl rfl) ?_
              (try simp only [Rg4.nrm])
              (first | (refine Rg4.w4_any (Rg4.wt rfl rfl rfl) rfl ?_; apply Exists.intro; refine ⟨fun w' => ?_, ?_⟩; (focus (first | (go_simp; done) | (go_simp; first | rfl | (rw [if_neg] <;> first | rfl | omega) | (rw [if_pos] <;> first | rfl | omega)))); (try simp only [Rg4.nrm])) | (refine Rg4.w4_skip (Rg4.uw rfl rfl rfl) ?_; (try simp only [Rg4.nrm])) | (refine Rg4.w4_skip (Rg4.un rfl rfl rfl) ?_; (try simp only [Rg4.nrm])))
              (refine Rg4.w4_any (Rg4.want_none rfl) rfl ?_; apply Exists.intro; refine ⟨fun w' => ?_, ?_⟩; (focus (first | (go_simp; done) | (go_simp; first | rfl | (rw [if_neg] <;> first | rfl | omega) | (rw [if_pos] <;> first | rfl | omega)))); (try simp only [Rg4.nrm]))
              refine Rg4.w4_nil (fun w' hw' hcl' _ => ?_); replace st := st.ext hw'; clear hw' hcl'; (try clear hc); have hc := st.facts; (try simp only [nfl, nft, Nat.reduceAdd] at hc)
              have HB : Hid (pickMin roleLt (cnd roleLt roleR out) (l.take (j + 1)) = pickMin roleLt (cnd roleLt roleR out) (l.take j)) := Lib.hid (by rw [HX.out]; simp [cnd, HLA.out, HZ.out])
              go_wp2_with fail
              have st' := st.keep [0, 1, 2] (by decide) (by simp)
              go_roundg (n - (j + 1))
              case measure => omega
              case rel => exact ⟨j + 1, ok, (bo, bd), by omega, by omega, by first | rfl | trivial | go_num, rfl, Lib.hid (by rw [HB.out]; exact HP.out), by simpa [pick, S] using st'⟩
            | true =>
              have HZ := Lib.hid hzx
              clear hzx
              cases ok with
              | false =>
                refine Rg4.wp_region4 (Rel := Ext) #[0, 1, 3, 7, 15, 31, 63, 127, 127, 383, 895, 2047, 4095, 127, 16383, 32767, 65535, 131071, 262143, 524287, 1048575, 2097151, 2097151, 8388607, 16777215, 33554431]
                  [(1, .val (.bool true)), (14, .val (.bool true)), (23, .val (.bool false))] [] [0, 12, 13, 21, 22] (fun _ => True) [0, 1, 2, 3, 4, 5, 6, 7, 8, 9, 10, 11, 12, 13, 14, 15, 16, 17, 18, 19, 20, 21, 22, 23, 24, 25] (by kernel_rfl) (by kernel_rfl) (by kernel_rfl) (by kernel_rfl) Ext.refl (fun _ _ _ => Ext.trans) (show Rg4.PB _ by repeat (first | with_reducible exact Rg4.pb_body | with_reducible exact Rg4.pb_bodyD rfl | with_reducible refine Rg4.pb_then ?_ | with_reducible refine Rg4.pb_inBlock ?_ | with_reducible refine Rg4.pb_noGoto ?_)) (trivial) ?_
                replace st := st.drew
                change Rg4.wp4 _ _ _ _ _ _ _ _ _ (World.drew _) _ _
                generalize World.drew _ = w at st ⊢
                (try clear hc); have hc := st.facts; (try simp only [nfl, nft, Nat.reduceAdd] at hc)
                (refine Rg4.w4_read (Rg4.want_none rfl) rfl rfl ?_; apply Exists.intro; refine ⟨fun w' hw' hcl' => ?_, ?_⟩; focus (have st' := st.ext hw'; have hc' := st'.facts; (try simp only [nfl, nft, Nat.reduceAdd] at hc'); have r0 := st'.rowC (i := 1) get1 _ _ HRZ.out.1; have r1 := st'.rowC (i := 1) get1 _ _ HRZ.out.2; (focus (first | (go_simp; done) | (go_simp; first | rfl | (rw [if_neg] <;> first | rfl | omega) | (rw [if_pos] <;> first | rfl | omega))))); (try simp only [Rg4.nrm]))
                refine Rg4.w4_some (Rg4.want_none rfl) rfl (fun w' hw' hcl' _ => ?_) ?_
                · refine Rg.relAt_call (by go_simp; exact ⟨rfl, rfl⟩) ?_
                  refine (HR.out.2 _ (by have := HR.out.1.2; omega) (by have := HR.out.1.2; omega)).mono ?_
                  rintro en w'' ⟨rfl, hx⟩
                  exact ⟨_, by rw [HR.out.1.1], hx, trivial, rfl⟩
                rintro v ⟨_, _, _, rfl⟩
                (try simp only [Rg4.nrm])
                (refine Rg4.w4_any (Rg4.want_none rfl) rfl ?_; apply Exists.intro; refine ⟨fun w' => ?_, ?_⟩; (focus (first | (go_simp; done) | (go_simp; first | rfl | (rw [if_neg] <;> first | rfl | omega) | (rw [if_pos] <;> first | rfl | omega)))); (try simp only [Rg4.nrm]))
                iterate 9 (first | (refine Rg4.w4_any (Rg4.wt rfl rfl rfl) rfl ?_; apply Exists.intro; refine ⟨fun w' => ?_, ?_⟩; (focus (first | (go_simp; done) | (go_simp; first | rfl | (rw [if_neg] <;> first | rfl | omega) | (rw [if_pos] <;> first | rfl | omega)))); (try simp only [Rg4.nrm])) | (refine Rg4.w4_skip (Rg4.uw rfl rfl rfl) ?_; (try simp only [Rg4.nrm])) | (refine Rg4.w4_skip (Rg4.un rfl rfl rfl) ?_; (try simp only [Rg4.nrm])))
                iterate 2 (first | (refine Rg4.w4_read (Rg4.wt rfl rfl rfl) rfl rfl ?_; apply Exists.intro; refine ⟨fun w' hw' hcl' => ?_, ?_⟩; focus (have st' := st.ext hw'; have hc' := st'.facts; (try simp only [nfl, nft, Nat.reduceAdd] at hc'); have r0 := st'.rowC (i := 1) get1 _ _ HRZ.out.1; have r1 := st'.rowC (i := 1) get1 _ _ HRZ.out.2; (focus (first | (go_simp; done) | (go_simp; first | rfl | (rw [if_neg] <;> first | rfl | omega) | (rw [if_pos] <;> first | rfl | omega))))); (try simp only [Rg4.nrm])) | (refine Rg4.w4_skip (Rg4.uw rfl rfl rfl) ?_; (try simp only [Rg4.nrm])) | (refine Rg4.w4_skip (Rg4.un rfl rfl rfl) ?_; (try simp only [Rg4.nrm])))
                refine Rg4.w4_some (Rg4.want_of 6 20 false rfl rfl rfl) rfl (fun w' hw' hcl' _ => ?_) ?_
                · refine Rg.relAt_call (by go_simp; exact ⟨rfl, rfl⟩) ?_
                  refine (HLZ.out _).mono ?_
                  rintro en w'' ⟨rfl, hx⟩
                  exact ⟨_, by rw [HZ.out], hx, trivial, rfl⟩
                rintro v ⟨_, _, _, rfl⟩
                (try simp only [Rg4.nrm])
                (first | (refine Rg4.w4_any (Rg4.wt rfl rfl rfl) rfl ?_; apply Exists.intro; refine ⟨fun w' => ?_, ?_⟩; (focus (first | (go_simp; done) | (go_simp; first | rfl | (rw [if_neg] <;> first | rfl | omega) | (rw [if_pos] <;> first | rfl | omega)))); (try simp only [Rg4.nrm])) | (refine Rg4.w4_skip (Rg4.uw rfl rfl rfl) ?_; (try simp only [Rg4.nrm])) | (refine Rg4.w4_skip (Rg4.un rfl rfl rfl) ?_; (try simp only [Rg4.nrm])))
                iterate 2 (refine Rg4.w4_any (Rg4.want_none rfl) rfl ?_; apply Exists.intro; refine ⟨fun w' => ?_, ?_⟩; (focus (first | (go_simp; done) | (go_simp; first | rfl | (rw [if_neg] <;> first | rfl | omega) | (rw [if_pos] <;> first | rfl | omega)))); (try simp only [Rg4.nrm]))
                iterate 3 (first | (refine Rg4.w4_any (Rg4.wt rfl rfl rfl) rfl ?_; apply Exists.intro; refine ⟨fun w' => ?_, ?_⟩; (focus (first | (go_simp; done) | (go_simp; first | rfl | (rw [if_neg] <;> first | rfl | omega) | (rw [if_pos] <;> first | rfl | omega)))); (try simp only [Rg4.nrm])) | (refine Rg4.w4_skip (Rg4.uw rfl rfl rfl) ?_; (try simp only [Rg4.nrm])) | (refine Rg4.w4_skip (Rg4.un rfl rfl rfl) ?_; (try simp only [Rg4.nrm])))
                iterate 2 (first | (refine Rg4.w4_read (Rg4.wt rfl rfl rfl) rfl rfl ?_; apply Exists.intro; refine ⟨fun w' hw' hcl' => ?_, ?_⟩; focus (have st' := st.ext hw'; have hc' := st'.facts; (try simp only [nfl, nft, Nat.reduceAdd] at hc'); have r0 := st'.rowC (i := 1) get1 _ _ HRZ.out.1; have r1 := st'.rowC (i := 1) get1 _ _ HRZ.out.2; (focus (first | (go_simp; done) | (go_simp; first | rfl | (rw [if_neg] <;> first | rfl | omega) | (rw [if_pos] <;> first | rfl | omega))))); (try simp only [Rg4.nrm])) | (refine Rg4.w4_skip (Rg4.uw rfl rfl rfl) ?_; (try simp only [Rg4.nrm])) | (refine Rg4.w4_skip (Rg4.un rfl rfl rfl) ?_; (try simp only [Rg4.nrm])))
                first | refine Rg4.w4_skip (Rg4.uw rfl rfl rfl) ?_ | refine Rg4.w4_skip (Rg4.un rfl rfl rfl) ?_
                (try simp only [Rg4.nrm])
                (first | (refine Rg4.w4_any (Rg4.wt rfl rfl rfl) rfl ?_; apply Exists.intro; refine ⟨fun w' => ?_, ?_⟩; (focus (first | (go_simp; done) | (go_simp; first | rfl | (rw [if_neg] <;> first | rfl | omega) | (rw [if_pos] <;> first | rfl | omega)))); (try simp only [Rg4.nrm])) | (refine Rg4.w4_skip (Rg4.uw rfl rfl rfl) ?_; (try simp only [Rg4.nrm])) | (refine Rg4.w4_skip (Rg4.un rfl rfl rfl) ?_; (try simp only [Rg4.nrm])))
                (refine Rg4.w4_any (Rg4.want_none rfl) rfl ?_; apply Exists.intro; refine ⟨fun w' => ?_, ?_⟩; (focus (first | (go_simp; done) | (go_simp; first | rfl | (rw [if_neg] <;> first | rfl | omega) | (rw [if_pos] <;> first | rfl | omega)))); (try simp only [Rg4.nrm]))
                refine Rg4.w4_nil (fun w' hw' hcl' _ => ?_); replace st := st.ext hw'; clear hw' hcl'; (try clear hc); have hc := st.facts; (try simp only [nfl, nft, Nat.reduceAdd] at hc)
                have HB : Hid (pickMin roleLt (cnd roleLt roleR out) (l.take (j + 1)) = some (o, d)) := Lib.hid (by rw [HX.out]; simp [cnd, HLA.out, HZ.out, HR.out.1.1, HP.out, okB_f])
                go_wp2_with ((((with_reducible refine wl_store ?_ (fun K hK => ?_)); rfl; refine owp_store rfl st ?_; apply Exists.intro; apply Exists.intro; refine ⟨?_, ?_, ?_⟩; (focus (go_simp; try rfl)); (focus (go_simp; try rfl)); (with_reducible refine ⟨2, _, _, _, _, get2, rfl, rfl, ?_, ?_, ?_, ?_⟩); (kernel_rfl); (simp [Value.cells]); (rfl); (clear st; intro w st))); (try simp only [nsl, Value.cells, unB] at st); (try clear hc); have hc := st.facts; (try simp only [nfl, nft, Nat.reduceAdd] at hc))
                have st' := st.keep [0, 1, 2] (by decide) (by simp)
                go_roundg (n - (j + 1))
                case measure => omega
                case rel => exact ⟨j + 1, true, (o, d), by omega, by omega, by first | rfl | trivial | go_num, rfl, Lib.hid (by rw [HB.out]; rfl), by simpa [pick, S] using st'⟩
              | true =>
                cases hlt : roleLt (o, d) (bo, bd) with
                | true =>
                  have HLT := Lib.hid hlt
                  clear hlt
                  refine Rg4.wp_region4 (Rel := Ext) #[0, 1, 3, 7, 15, 31, 63, 127, 127, 383, 895, 2047, 4095, 127, 16383, 32767, 65535, 131071, 262143, 524287, 1048575, 2097151, 2097151, 8388607, 16777215, 33554431]
                    [(1, .val (.bool true)), (14, .val (.bool true)), (23, .val (.bool true))] [] [0, 12, 13, 21, 22] (fun _ => True) [0, 1, 2, 3, 4, 5, 6, 7, 8, 9, 10, 11, 12, 13, 14, 15, 16, 17, 18, 19, 20, 21, 22, 23, 24, 25] (by kernel_rfl) (by kernel_rfl) (by kernel_rfl) (by kernel_rfl) Ext.refl (fun _ _ _ => Ext.trans) (show Rg4.PB _ by repeat (first | with_reducible exact Rg4.pb_body | with_reducible exact Rg4.pb_bodyD rfl | with_reducible refine Rg4.pb_then ?_ | with_reducible refine Rg4.pb_inBlock ?_ | with_reducible refine Rg4.pb_noGoto ?_)) (trivial) ?_
                  replace st := st.drew
                  change Rg4.wp4 _ _ _ _ _ _ _ _ _ (World.drew _) _ _
                  generalize World.drew _ = w at st ⊢
                  (try clear hc); have hc := st.facts; (try simp only [nfl, nft, Nat.reduceAdd] at hc)
                  (refine Rg4.w4_read (Rg4.want_none rfl) rfl rfl ?_; apply Exists.intro; refine ⟨fun w' hw' hcl' => ?_, ?_⟩; focus (have st' := st.ext hw'; have hc' := st'.facts; (try simp only [nfl, nft, Nat.reduceAdd] at hc'); have r0 := st'.rowC (i := 1) get1 _ _ HRZ.out.1; have r1 := st'.rowC (i := 1) get1 _ _ HRZ.out.2; (focus (first | (go_simp; done) | (go_simp; first | rfl | (rw [if_neg] <;> first | rfl | omega) | (rw [if_pos] <;> first | rfl | omega))))); (try simp only [Rg4.nrm]))
                  refine Rg4.w4_some (Rg4.want_none rfl) rfl (fun w' hw' hcl' _ => ?_) ?_
                  · refine Rg.relAt_call (by go_simp; exact ⟨rfl, rfl⟩) ?_
                    refine (HR.out.2 _ (by have := HR.out.1.2; omega) (by have := HR.out.1.2; omega)).mono ?_
                    rintro en w'' ⟨rfl, hx⟩
                    exact ⟨_, by rw [HR.out.1.1], hx, trivial, rfl⟩
                  rintro v ⟨_, _, _, rfl⟩
                  (try simp only [Rg4.nrm])
                  (refine Rg4.w4_any (Rg4.want_none rfl) rfl ?_; apply Exists.intro; refine ⟨fun w' => ?_, ?_⟩; (focus (first | (go_simp; done) | (go_simp; first | rfl | (rw [if_neg] <;> first | rfl | omega) | (rw [if_pos] <;> first | rfl | omega)))); (try simp only [Rg4.nrm]))
                  iterate 9 (first | (refine Rg4.w4_any (Rg4.wt rfl rfl rfl) rfl ?_; apply Exists.intro; refine ⟨fun w' => ?_, ?_⟩; (focus (first | (go_simp; done) | (go_simp; first | rfl | (rw [if_neg] <;> first | rfl | omega) | (rw [if_pos] <;> first | rfl | omega)))); (try simp only [Rg4.nrm])) | (refine Rg4.w4_skip (Rg4.uw rfl rfl rfl) ?_; (try simp only [Rg4.nrm])) | (refine Rg4.w4_skip (Rg4.un rfl rfl rfl) ?_; (try simp only [Rg4.nrm])))
                  iterate 2 (first | (refine Rg4.w4_read (Rg4.wt rfl rfl rfl) rfl rfl ?_; apply Exists.intro; refine ⟨fun w' hw' hcl' => ?_, ?_⟩; focus (have st' := st.ext hw'; have hc' := st'.facts; (try simp only [nfl, nft, Nat.reduceAdd] at hc'); have r0 := st'.rowC (i := 1) get1 _ _ HRZ.out.1; have r1 := st'.rowC (i := 1) get1 _ _ HRZ.out.2; (focus (first | (go_simp; done) | (go_simp; first | rfl | (rw [if_neg] <;> first | rfl | omega) | (rw [if_pos] <;> first | rfl | omega))))); (try simp only [Rg4.nrm])) | (refine Rg4.w4_skip (Rg4.uw rfl rfl rfl) ?_; (try simp only [Rg4.nrm])) | (refine Rg4.w4_skip (Rg4.un rfl rfl rfl) ?_; (try simp only [Rg4.nrm])))
                  refine Rg4.w4_some (Rg4.want_of 6 20 false rfl rfl rfl) rfl (fun w' hw' hcl' _ => ?_) ?_
                  · refine Rg.relAt_call (by go_simp; exact ⟨rfl, rfl⟩) ?_
                    refine (HLZ.out _).mono ?_
                    rintro en w'' ⟨rfl, hx⟩
                    exact ⟨_, by rw [HZ.out], hx, trivial, rfl⟩
                  rintro v ⟨_, _, _, rfl⟩
                  (try simp only [Rg4.nrm])
                  (first | (refine Rg4.w4_any (Rg4.wt rfl rfl rfl) rfl ?_; apply Exists.intro; refine ⟨fun w' => ?_, ?_⟩; (focus (first | (go_simp; done) | (go_simp; first | rfl | (rw [if_neg] <;> first | rfl | omega) | (rw [if_pos] <;> first | rfl | omega)))); (try simp only [Rg4.nrm])) | (refine Rg4.w4_skip (Rg4.uw rfl rfl rfl) ?_; (try simp only [Rg4.nrm])) | (refine Rg4.w4_skip (Rg4.un rfl rfl rfl) ?_; (try simp only [Rg4.nrm])))
                  iterate 2 (refine Rg4.w4_any (Rg4.want_none rfl) rfl ?_; apply Exists.intro; refine ⟨fun w' => ?_, ?_⟩; (focus (first | (go_simp; done) | (go_simp; first | rfl | (rw [if_neg] <;> first | rfl | omega) | (rw [if_pos] <;> first | rfl | omega)))); (try simp only [Rg4.nrm]))
                  iterate 3 (first | (refine Rg4.w4_any (Rg4.wt rfl rfl rfl) rfl ?_; apply Exists.intro; refine ⟨fun w' => ?_, ?_⟩; (focus (first | (go_simp; done) | (go_simp; first | rfl | (rw [if_neg] <;> first | rfl | omega) | (rw [if_pos] <;> first | rfl | omega)))); (try simp only [Rg4.nrm])) | (refine Rg4.w4_skip (Rg4.uw rfl rfl rfl) ?_; (try simp only [Rg4.nrm])) | (refine Rg4.w4_skip (Rg4.un rfl rfl rfl) ?_; (try simp only [Rg4.nrm])))
                  iterate 2 (first | (refine Rg4.w4_read (Rg4.wt rfl rfl rfl) rfl rfl ?_; apply Exists.intro; refine ⟨fun w' hw' hcl' => ?_, ?_⟩; focus (have st' := st.ext hw'; have hc' := st'.facts; (try simp only [nfl, nft, Nat.reduceAdd] at hc'); have r0 := st'.rowC (i := 1) get1 _ _ HRZ.out.1; have r1 := st'.rowC (i := 1) get1 _ _ HRZ.out.2; (focus (first | (go_simp; done) | (go_simp; first | rfl | (rw [if_neg] <;> first | rfl | omega) | (rw [if_pos] <;> first | rfl | omega))))); (try simp only [Rg4.nrm])) | (refine Rg4.w4_skip (Rg4.uw rfl rfl rfl) ?_; (try simp only [Rg4.nrm])) | (refine Rg4.w4_skip (Rg4.un rfl rfl rfl) ?_; (try simp only [Rg4.nrm])))
                  refine Rg4.w4_some (Rg4.want_of 20 34 false rfl rfl rfl) rfl (fun w' hw' hcl' _ => ?_) ?_
                  · refine Rg.relAt_call (by go_simp; exact ⟨rfl, rfl⟩) ?_
                    refine (HLB.out _).mono ?_
                    rintro en w'' ⟨rfl, hx⟩
                    exact ⟨_, by rw [HLT.out], hx, trivial, rfl⟩
                  rintro v ⟨_, _, _, rfl⟩
                  (try simp only [Rg4.nrm])
                  (first | (refine Rg4.w4_any (Rg4.wt rfl rfl rfl) rfl ?_; apply Exists.intro; refine ⟨fun w' => ?_, ?_⟩; (focus (first | (go_simp; done) | (go_simp; first | rfl | (rw [if_neg] <;> first | rfl | omega) | (rw [if_pos] <;> first | rfl | omega)))); (try simp only [Rg4.nrm])) | (refine Rg4.w4_skip (Rg4.uw rfl rfl rfl) ?_; (try simp only [Rg4.nrm])) | (refine Rg4.w4_skip (Rg4.un rfl rfl rfl) ?_; (try simp only [Rg4.nrm])))
                  (refine Rg4.w4_any (Rg4.want_none rfl) rfl ?_; apply Exists.intro; refine ⟨fun w' => ?_, ?_⟩; (focus (first | (go_simp; done) | (go_simp; first | rfl | (rw [if_neg] <;> first | rfl | omega) | (rw [if_pos] <;> first | rfl | omega)))); (try simp only [Rg4.nrm]))
                  refine Rg4.w4_nil (fun w' hw' hcl' _ => ?_); replace st := st.ext hw'; clear hw' hcl'; (try clear hc); have hc := st.facts; (try simp only [nfl, nft, Nat.reduceAdd] at hc)
                  have HB : Hid (pickMin roleLt (cnd roleLt roleR out) (l.take (j + 1)) = some (o, d)) := Lib.hid (by rw [HX.out]; simp [cnd, HLA.out, HZ.out, HR.out.1.1, HP.out, okB_t, HLT.out])
                  go_wp2_with ((((with_reducible refine wl_store ?_ (fun K hK => ?_)); rfl; refine owp_store rfl st ?_; apply Exists.intro; apply Exists.intro; refine ⟨?_, ?_, ?_⟩; (focus (go_simp; try rfl)); (focus (go_simp; try rfl)); (with_reducible refine ⟨2, _, _, _, _, get2, rfl, rfl, ?_, ?_, ?_, ?_⟩); (kernel_rfl); (simp [Value.cells]); (rfl); (clear st; intro w st))); (try simp only [nsl, Value.cells, unB] at st); (try clear hc); have hc := st.facts; (try simp only [nfl, nft, Nat.reduceAdd] at hc))
                  have st' := st.keep [0, 1, 2] (by decide) (by simp)
                  go_roundg (n - (j + 1))
                  case measure => omega
                  case rel => exact ⟨j + 1, true, (o, d), by omega, by omega, by first | rfl | trivial | go_num, rfl, Lib.hid (by rw [HB.out]; rfl), by simpa [pick, S] using st'⟩
                | false =>
                  have HLT := Lib.hid hlt
                  clear hlt
                  refine Rg4.wp_region4 (Rel := Ext) #[0, 1, 3, 7, 15, 31, 63, 127, 127, 383, 895, 2047, 4095, 127, 16383, 32767, 65535, 131071, 262143, 524287, 1048575, 2097151, 2097151, 8388607, 16777215, 33554431]
                    [(1, .val (.bool true)), (14, .val (.bool true)), (23, .val (.bool false))] [] [0, 12, 13, 21, 22] (fun _ => True) [0, 1, 2, 3, 4, 5, 6, 7, 8, 9, 10, 11, 12, 13, 14, 15, 16, 17, 18, 19, 20, 21, 22, 23, 24, 25] (by kernel_rfl) (by kernel_rfl) (by kernel_rfl) (by kernel_rfl) Ext.refl (fun _ _ _ => Ext.trans) (show Rg4.PB _ by repeat (first | with_reducible exact Rg4.pb_body | with_reducible exact Rg4.pb_bodyD rfl | with_reducible refine Rg4.pb_then ?_ | with_reducible refine Rg4.pb_inBlock ?_ | with_reducible refine Rg4.pb_noGoto ?_)) (trivial) ?_
                  replace st := st.drew
                  change Rg4.wp4 _ _ _ _ _ _ _ _ _ (World.drew _) _ _
                  generalize World.drew _ = w at st ⊢
                  (try clear hc); have hc := st.facts; (try simp only [nfl, nft, Nat.reduceAdd] at hc)
                  (refine Rg4.w4_read (Rg4.want_none rfl) rfl rfl ?_; apply Exists.intro; refine ⟨fun w' hw' hcl' => ?_, ?_⟩; focus (have st' := st.ext hw'; have hc' := st'.facts; (try simp only [nfl, nft, Nat.reduceAdd] at hc'); have r0 := st'.rowC (i := 1) get1 _ _ HRZ.out.1; have r1 := st'.rowC (i := 1) get1 _ _ HRZ.out.2; (focus (first | (go_simp; done) | (go_simp; first | rfl | (rw [if_neg] <;> first | rfl | omega) | (rw [if_pos] <;> first | rfl | omega))))); (try simp only [Rg4.nrm]))
                  refine Rg4.w4_some (Rg4.want_none rfl) rfl (fun w' hw' hcl' _ => ?_) ?_
                  · refine Rg.relAt_call (by go_simp; exact ⟨rfl, rfl⟩) ?_
                    refine (HR.out.2 _ (by have := HR.out.1.2; omega) (by have := HR.out.1.2; omega)).mono ?_
                    rintro en w'' ⟨rfl, hx⟩
                    exact ⟨_, by rw [HR.out.1.1], hx, trivial, rfl⟩
                  rintro v ⟨_, _, _, rfl⟩
                  (try simp only [Rg4.nrm])
                  (refine Rg4.w4_any (Rg4.want_none rfl) rfl ?_; apply Exists.intro; refine ⟨fun w' => ?_, ?_⟩; (focus (first | (go_simp; done) | (go_simp; first | rfl | (rw [if_neg] <;> first | rfl | omega) | (rw [if_pos] <;> first | rfl | omega)))); (try simp only [Rg4.nrm]))
                  iterate 9 (first | (refine Rg4.w4_any (Rg4.wt rfl rfl rfl) rfl ?_; apply Exists.intro; refine ⟨fun w' => ?_, ?_⟩; (focus (first | (go_simp; done) | (go_simp; first | rfl | (rw [if_neg] <;> first | rfl | omega) | (rw [if_pos] <;> first | rfl | omega)))); (try simp only [Rg4.nrm])) | (refine Rg4.w4_skip (Rg4.uw rfl rfl rfl) ?_; (try simp only [Rg4.nrm])) | (refine Rg4.w4_skip (Rg4.un rfl rfl rfl) ?_; (try simp only [Rg4.nrm])))
                  iterate 2 (first | (refine Rg4.w4_read (Rg4.wt rfl rfl rfl) rfl rfl ?_; apply Exists.intro; refine ⟨fun w' hw' hcl' => ?_, ?_⟩; focus (have st' := st.ext hw'; have hc' := st'.facts; (try simp only [nfl, nft, Nat.reduceAdd] at hc'); have r0 := st'.rowC (i := 1) get1 _ _ HRZ.out.1; have r1 := st'.rowC (i := 1) get1 _ _ HRZ.out.2; (focus (first | (go_simp; done) | (go_simp; first | rfl | (rw [if_neg] <;> first | rfl | omega) | (rw [if_pos] <;> first | rfl | omega))))); (try simp only [Rg4.nrm])) | (refine Rg4.w4_skip (Rg4.uw rfl rfl rfl) ?_; (try simp only [Rg4.nrm])) | (refine Rg4.w4_skip (Rg4.un rfl rfl rfl) ?_; (try simp only [Rg4.nrm])))
                  refine Rg4.w4_some (Rg4.want_of 6 20 false rfl rfl rfl) rfl (fun w' hw' hcl' _ => ?_) ?_
                  · refine Rg.relAt_call (by go_simp; exact ⟨rfl, rfl⟩) ?_
                    refine (HLZ.out _).mono ?_
                    rintro en w'' ⟨rfl, hx⟩
                    exact ⟨_, by rw [HZ.out], hx, trivial, rfl⟩
                  rintro v ⟨_, _, _, rfl⟩
                  (try simp only [Rg4.nrm])
                  (first | (refine Rg4.w4_any (Rg4.wt rfl rfl rfl) rfl ?_; apply Exists.intro; refine ⟨fun w' => ?_, ?_⟩; (focus (first | (go_simp; done) | (go_simp; first | rfl | (rw [if_neg] <;> first | rfl | omega) | (rw [if_pos] <;> first | rfl | omega)))); (try simp only [Rg4.nrm])) | (refine Rg4.w4_skip (Rg4.uw rfl rfl rfl) ?_; (try simp only [Rg4.nrm])) | (refine Rg4.w4_skip (Rg4.un rfl rfl rfl) ?_; (try simp only [Rg4.nrm])))
                  iterate 2 (refine Rg4.w4_any (Rg4.want_none rfl) rfl ?_; apply Exists.intro; refine ⟨fun w' => ?_, ?_⟩; (focus (first | (go_simp; done) | (go_simp; first | rfl | (rw [if_neg] <;> first | rfl | omega) | (rw [if_pos] <;> first | rfl | omega)))); (try simp only [Rg4.nrm]))
                  iterate 3 (first | (refine Rg4.w4_any (Rg4.wt rfl rfl rfl) rfl ?_; apply Exists.intro; refine ⟨fun w' => ?_, ?_⟩; (focus (first | (go_simp; done) | (go_simp; first | rfl | (rw [if_neg] <;> first | rfl | omega) | (rw [if_pos] <;> first | rfl | omega)))); (try simp only [Rg4.nrm])) | (refine Rg4.w4_skip (Rg4.uw rfl rfl rfl) ?_; (try simp only [Rg4.nrm])) | (refine Rg4.w4_skip (Rg4.un rfl rfl rfl) ?_; (try simp only [Rg4.nrm])))
                  iterate 2 (first | (refine Rg4.w4_read (Rg4.wt rfl rfl rfl) rfl rfl ?_; apply Exists.intro; refine ⟨fun w' hw' hcl' => ?_, ?_⟩; focus (have st' := st.ext hw'; have hc' := st'.facts; (try simp only [nfl, nft, Nat.reduceAdd] at hc'); have r0 := st'.rowC (i := 1) get1 _ _ HRZ.out.1; have r1 := st'.rowC (i := 1) get1 _ _ HRZ.out.2; (focus (first | (go_simp; done) | (go_simp; first | rfl | (rw [if_neg] <;> first | rfl | omega) | (rw [if_pos] <;> first | rfl | omega))))); (try simp only [Rg4.nrm])) | (refine Rg4.w4_skip (Rg4.uw rfl rfl rfl) ?_; (try simp only [Rg4.nrm])) | (refine Rg4.w4_skip (Rg4.un rfl rfl rfl) ?_; (try simp only [Rg4.nrm])))
                  refine Rg4.w4_some (Rg4.want_of 20 34 false rfl rfl rfl) rfl (fun w' hw' hcl' _ => ?_) ?_
                  · refine Rg.relAt_call (by go_simp; exact ⟨rfl, rfl⟩) ?_
                    refine (HLB.out _).mono ?_
                    rintro en w'' ⟨rfl, hx⟩
                    exact ⟨_, by rw [HLT.out], hx, trivial, rfl⟩
                  rintro v ⟨_, _, _, rfl⟩
                  (try simp only [Rg4.nrm])
                  (first | (refine Rg4.w4_any (Rg4.wt rfl rfl rfl) rfl ?_; apply Exists.intro; refine ⟨fun w' => ?_, ?_⟩; (focus (first | (go_simp; done) | (go_simp; first | rfl | (rw [if_neg] <;> first | rfl | omega) | (rw [if_pos] <;> first | rfl | omega)))); (try simp only [Rg4.nrm])) | (refine Rg4.w4_skip (Rg4.uw rfl rfl rfl) ?_; (try simp only [Rg4.nrm])) | (refine Rg4.w4_skip (Rg4.un rfl rfl rfl) ?_; (try simp only [Rg4.nrm])))
                  (refine Rg4.w4_any (Rg4.want_none rfl) rfl ?_; apply Exists.intro; refine ⟨fun w' => ?_, ?_⟩; (focus (first | (go_simp; done) | (go_simp; first | rfl | (rw [if_neg] <;> first | rfl | omega) | (rw [if_pos] <;> first | rfl | omega)))); (try simp only [Rg4.nrm]))
                  refine Rg4.w4_nil (fun w' hw' hcl' _ => ?_); replace st := st.ext hw'; clear hw' hcl'; (try clear hc); have hc := st.facts; (try simp only [nfl, nft, Nat.reduceAdd] at hc)
                  have HB : Hid (pickMin roleLt (cnd roleLt roleR out) (l.take (j + 1)) = pickMin roleLt (cnd roleLt roleR out) (l.take j)) := Lib.hid (by rw [HX.out]; simp [cnd, HLA.out, HZ.out, HR.out.1.1, HP.out, okB_t, HLT.out])
                  go_wp2_with fail
                  have st' := st.keep [0, 1, 2] (by decide) (by simp)
                  go_roundg (n - (j + 1))
                  case measure => omega
                  case rel => exact ⟨j + 1, true, (bo, bd), by omega, by omega, by first | rfl | trivial | go_num, rfl, Lib.hid (by rw [HB.out]; exact HP.out), by simpa [pick, S] using st'⟩
      · obtain rfl : j = n := by omega
        have htk : l.take j = l := List.take_of_length_le (by have := HNL.out.1; omega)
        have hp := HP.out
        rw [htk] at hp
        clear htk HP
        cases ok with
        | false =>
          have HF := Lib.hid (HG.out.1.done (roleOrd roleR) hp)
          clear hp
          go_wp2_with fail
          go_ret
          have hm := HG.out.2.2
          subst hm
          exact ⟨out, va, vc, rfl, HF.out, st.toFresh get1⟩
        | true =>
          have hstep := HG.out.1.step (roleOrd roleR) hp
          have hlen := hstep.len (roleOrd roleR).irr
          have hleft := left_step (roleOrd roleR) hp
          have HF := Lib.hid (And.intro hstep hleft)
          have hol : m + 1 ≤ 2000000 := by have := HNL.out.1; have := HG.out.2.2; simp at hlen; omega
          clear hp hstep hlen hleft
          go_wp2_with (first
              | ((with_reducible refine wl_append ?_ (fun K hK => ?_)); (rfl); (obtain ⟨inf, hinf, hz0, hz1, hz2⟩ := roleInfo); (refine owp_append rfl st 1 get1 Tryz.underlying27 hinf hz0 hz1 hz2 rfl (by decide) rfl rfl ((st.blk (i := 3) get3).flat rfl) (by first | exact cellsL_all _ | simp [Value.oneCell']) (by simp only [maxLen]; omega) (by omega) ?_); (clear hinf hz0 hz1 hz2 inf); (clear st; intro v' w st); (obtain ⟨va', vc', rfl⟩ := own_slice (st.row (i := 1) get1)); (try simp only [nsl, Value.cells, unB] at st); (try simp only [Nat.zero_add] at st); (try clear hc); have hc := st.facts; (try simp only [nfl, nft, Nat.reduceAdd] at hc))
              | ((((with_reducible refine wl_buildSlice ?_ (fun K hK => ?_)); rfl; refine owp_buildSlice (o := ⟨some 47, _, _, _, _, _⟩) rfl st ?_; apply Exists.intro; apply Exists.intro; apply Exists.intro; apply Exists.intro; refine ⟨?_, ?_⟩; (focus (go_simp; (first | done | exact ⟨⟨rfl, rfl⟩, rfl⟩ | rfl))); (clear st; intro b47 w hb st; clear hb))); (try simp only [nsl, Value.cells, unB] at st); (try clear hc); have hc := st.facts; (try simp only [nfl, nft, Nat.reduceAdd] at hc)))
          have st' := st.keep [0, 1] (by decide) (by simp)
          go_roundg (left roleLt roleR l (out ++ [(bo, bd)]))
          case measure => have := HG.out.2.1; have := HF.out.2; omega
          case rel => exact ⟨out ++ [(bo, bd)], m + 1, va', vc', rfl, hol, Lib.hid ⟨HF.out.1, Nat.le_refl _, by simp [HG.out.2.2]⟩, by rw [cellsL_append, cellsL_one', role_cells]; simpa [pick] using st'⟩
theorem refRoleSet_c (a : Option Addr) (n c : Nat) (l : List Role) (W : World) (h : Fl W a n l) (hn : n ≤ 2000000) (hs : ∀ x ∈ l, x.1.length ≤ 1000000000 ∧ x.2.length ≤ 1000000000) :
    Calls Tryz.prog 37 #[.slice a n c] W fun e w' => ∃ va vc, e = .returned (.slice va (roleSet l).length vc) ∧ FreshI W w' (rowI 23 2 (.slice va (roleSet l).length vc) (roleSet l).length (cellsL (roleSet l))) := by
  refine (refRoleSet_any a n c l W h hn hs).mono ?_
  rintro e w' ⟨out, va, vc, rfl, h1, h2⟩
  have := h1.uniq (roleOrd roleR) (roleSet_set l)
  subst this
  exact ⟨va, vc, rfl, h2⟩
end Go.Proofs.YtcihjohgmhebiaaGreat

namespace Go.Proofs.YtcihjohgmhebiaaGreat
set_option linter.unusedSimpArgs false
set_option linter.unusedVariables false
open Go Go.RowKit
@[go_sem high] theorem neqNilFunc (F : FuncId) (cs : Array Value) (w : World) : (binOp .neq 35 (.func (.func F) #[] cs) .nilFunc).run Tryz.prog w = .ok (.bool true) w := by
  have h : ∀ d : Nat, (Op.equalIn (d + 1) 35 (.func (.func F) #[] cs) .nilFunc).run Tryz.prog w = .ok false w := fun d => by
    simp [Op.equalIn, run_underlying Tryz.underlying35]
  simp only [binOp]
  simp [Op.equal, Op.maxDepth, h 9999]
theorem atomsL_nodes (l : List Fo) : (atomsL l).length ≤ nodesL l := by
  have := atoms_nodes (.mk 0 0 ([], []) l)
  rw [Fo.atoms, Fo.nodes, if_neg (by decide)] at this
  induction l with
  | nil => simp [atomsL]
  | cons x l ih =>
    have h1 := atoms_nodes x
    have h2 := ih (by
      have := atoms_nodes (.mk 0 0 ([], []) l)
      rw [Fo.atoms, Fo.nodes, if_neg (by decide)] at this
      exact this)
    rw [atomsL, nodesL, List.length_append]
    omega
theorem atomsL_mem : ∀ (l : List Fo) (x : Fo), x ∈ l → ∀ r ∈ x.atoms, r ∈ atomsL l
  | [], x, h, r, hr => by simp at h
  | y :: l, x, h, r, hr => by
    rw [atomsL]
    rcases List.mem_cons.1 h with e | e
    · subst e; exact List.mem_append_left _ hr
    · exact List.mem_append_right _ (atomsL_mem l x e r hr)
/-- A slice of roles, laid anew. -/
def RolesAre (W : World) (l : List Role) (e : Ending) (w' : World) : Prop := ∃ va n vc, e = .returned (.slice va n vc) ∧ Own (fun _ => False) (fun _ => False) W [flI va n l] w'
theorem roleRes {W w : World} {va : Option Addr} {n vc : Nat} {l : List Role} (st : Own (fun _ => False) (fun _ => False) W [flI va n l] w) : RolesAre W l (.returned (.slice va n vc)) w := ⟨va, n, vc, rfl, st⟩
set_option maxRecDepth 100000 in
set_option maxHeartbeats 2000000 in
theorem fmRoles_f (f : Fm) : ∀ (W : World), FmOk W f → f.strip.nodes ≤ 1000000000 →
    Calls Tryz.prog 44 #[fmV f] W (RolesAre W f.strip.atoms) := by
  induction f using Fm.ind
  rename_i op k r a n c kids ih
  intro W hok hs
  obtain ⟨o, d⟩ := r
  rw [strip_mk] at *
  rw [Fo.nodes] at hs
  rw [Fo.atoms]
  have st := Own.start (fun _ => False) (fun _ => False) W
  unfold fmV S
  simp only
  by_cases o1 : op = 1
  · subst o1
    rw [if_pos rfl]
    clear hok ih hs
    (try simp only [nsl, Value.cells, unB] at st)
    (try clear hc); have hc := st.facts; (try simp only [nfl, nft, Nat.reduceAdd] at hc)
    go_enter Tryz.func44, Tryz.ntmps44
    go_wp2_with ((first
          | ((with_reducible refine wl_box ?_ (fun K hK => ?_)); rfl; refine owp_box (o := ⟨some 1, _, _, _, _, _⟩) rfl st ?_; apply Exists.intro; refine ⟨?_, ?_⟩; (focus (go_simp; try rfl)); (clear st; intro b1 w hb st; clear hb))
          | ((with_reducible refine wl_buildSlice ?_ (fun K hK => ?_)); rfl; refine owp_buildSlice (o := ⟨some 11, _, _, _, _, _⟩) rfl st ?_; apply Exists.intro; apply Exists.intro; apply Exists.intro; apply Exists.intro; refine ⟨?_, ?_⟩; (focus (go_simp; (first | done | exact ⟨⟨rfl, rfl⟩, rfl⟩ | rfl))); (clear st; intro b11 w hb st; clear hb))
          | ((with_reducible refine wl_alloc ?_ (fun K hK => ?_)); rfl; refine owp_alloc (o := ⟨some 5, _, _, _, _, _⟩) rfl st ?_; apply Exists.intro; apply Exists.intro; refine ⟨?_, ?_⟩; (focus (first | (go_simp; done) | (go_simp; rfl))); (clear st; intro b5 w hb st; clear hb))
          | ((with_reducible refine wl_store ?_ (fun K hK => ?_)); rfl; refine owp_store rfl st ?_; apply Exists.intro; apply Exists.intro; refine ⟨?_, ?_, ?_⟩; (focus (go_simp; try rfl)); (focus (go_simp; try rfl)); (first | (with_reducible refine ⟨0, _, _, _, _, get0, rfl, rfl, ?_, ?_, ?_, ?_⟩) | (with_reducible refine ⟨1, _, _, _, _, get1, rfl, rfl, ?_, ?_, ?_, ?_⟩) | (with_reducible refine ⟨2, _, _, _, _, get2, rfl, rfl, ?_, ?_, ?_, ?_⟩) | (with_reducible refine ⟨3, _, _, _, _, get3, rfl, rfl, ?_, ?_, ?_, ?_⟩) | (with_reducible refine ⟨4, _, _, _, _, get4, rfl, rfl, ?_, ?_, ?_, ?_⟩)); (kernel_rfl); (simp [Value.cells]); (rfl); (clear st; intro w st))); (try simp only [nsl, Value.cells, unB] at st); (try clear hc); have hc := st.facts; (try simp only [nfl, nft, Nat.reduceAdd] at hc))
    go_ret
    have st2 := st.keep [1] (by decide) (by simp)
    simp only [pick, List.map_cons, List.map_nil, List.getElem?_cons_zero, List.getElem?_cons_succ, Option.getD_some] at st2
    have st' := st2.blkToFl (i := 0) (n := 1) ([(o, d)] : List Role) get0 rfl rfl
    exact roleRes st' 
  · rw [if_neg o1]
    have hob : (op == 1) = false := by simpa using o1
    have HOK := Lib.hid hok
    have HI := Lib.hid ih
    have HN : Hid (n = kids.length) := Lib.hid hok.fl.1
    have hn : n ≤ 1000000000 := by have := nodesL_len (kids.map Fm.strip); rw [List.length_map] at this; have := hok.fl.1; omega
    have HS := Lib.hid hs
    clear hok ih hs o1
    (try simp only [nsl, Value.cells, unB] at st)
    (try clear hc); have hc := st.facts; (try simp only [nfl, nft, Nat.reduceAdd] at hc)
    go_enter Tryz.func44, Tryz.ntmps44
    go_wp2_with ((first
          | ((with_reducible refine wl_box ?_ (fun K hK => ?_)); rfl; refine owp_box (o := ⟨some 1, _, _, _, _, _⟩) rfl st ?_; apply Exists.intro; refine ⟨?_, ?_⟩; (focus (go_simp; try rfl)); (clear st; intro b1 w hb st; clear hb))
          | ((with_reducible refine wl_buildSlice ?_ (fun K hK => ?_)); rfl; refine owp_buildSlice (o := ⟨some 11, _, _, _, _, _⟩) rfl st ?_; apply Exists.intro; apply Exists.intro; apply Exists.intro; apply Exists.intro; refine ⟨?_, ?_⟩; (focus (go_simp; (first | done | exact ⟨⟨rfl, rfl⟩, rfl⟩ | rfl))); (clear st; intro b11 w hb st; clear hb))
          | ((with_reducible refine wl_alloc ?_ (fun K hK => ?_)); rfl; refine owp_alloc (o := ⟨some 5, _, _, _, _, _⟩) rfl st ?_; apply Exists.intro; apply Exists.intro; refine ⟨?_, ?_⟩; (focus (first | (go_simp; done) | (go_simp; rfl))); (clear st; intro b5 w hb st; clear hb))
          | ((with_reducible refine wl_store ?_ (fun K hK => ?_)); rfl; refine owp_store rfl st ?_; apply Exists.intro; apply Exists.intro; refine ⟨?_, ?_, ?_⟩; (focus (go_simp; try rfl)); (focus (go_simp; try rfl)); (first | (with_reducible refine ⟨0, _, _, _, _, get0, rfl, rfl, ?_, ?_, ?_, ?_⟩) | (with_reducible refine ⟨1, _, _, _, _, get1, rfl, rfl, ?_, ?_, ?_, ?_⟩) | (with_reducible refine ⟨2, _, _, _, _, get2, rfl, rfl, ?_, ?_, ?_, ?_⟩) | (with_reducible refine ⟨3, _, _, _, _, get3, rfl, rfl, ?_, ?_, ?_, ?_⟩) | (with_reducible refine ⟨4, _, _, _, _, get4, rfl, rfl, ?_, ?_, ?_, ?_⟩)); (kernel_rfl); (simp [Value.cells]); (rfl); (clear st; intro w st))); (try simp only [nsl, Value.cells, unB] at st); (try clear hc); have hc := st.facts; (try simp only [nfl, nft, Nat.reduceAdd] at hc))
    have st9 := (st.keep [0] (by decide) (by simp)).row_nil 23 2
    clear st
    have st := st9
    clear st9
    simp only [pick, List.map_cons, List.map_nil, List.getElem?_cons_zero, List.getElem?_cons_succ, Option.getD_some, List.cons_append, List.nil_append] at st
    go_loopg [3, 15] n (fun q ov i wr => ∃ (j r : Nat) (xs : List Role), j ≤ n ∧ q = n - j ∧ i = .int .i64 (j : Int) ∧ r ≤ 1000000000 ∧ Hid (xs = atomsL ((kids.take j).map Fm.strip)) ∧ Hid (r = xs.length) ∧ Own (fun _ => False) (fun _ => False) W [blkI b1 [.int .i64 op, .int .i64 k, .string ⟨o.toArray⟩, .string ⟨d.toArray⟩, .slice a n c], rowI 23 2 ov r (cellsL xs)] wr)
    case atStart => exact ⟨0, 0, [], by omega, by omega, rfl, by omega, Lib.hid (by simp [atomsL]), Lib.hid rfl, by simpa [cellsL] using st⟩
    case round =>
      obtain ⟨j, r, xs, hj, rfl, rfl, hr, HX, HR, st'⟩ := hrel
      clear st hc
      have st := st'
      clear st'
      obtain ⟨oa, oc, rfl⟩ := own_slice (st.row (i := 1) get1)
      by_cases hjn : j < n
      · obtain ⟨b, off, ha, hcell⟩ := (HOK.out.ext st.ext0).fl.fm (by omega)
        have hjl : j < kids.length := by have := HN.out; omega
        have hsn := map_snoc_strip kids j hjl
        have hle := nodesL_take (kids.map Fm.strip) (j + 1)
        rw [← List.map_take, hsn, nodesL_snoc] at hle
        have hsv := HS.out
        have hok := HOK.out.kids _ (List.getElem_mem hjl)
        have hih := HI.out _ (List.getElem_mem hjl)
        have hgt := List.getElem?_eq_getElem hjl
        generalize kids[j] = x at *
        have HC := Lib.hid (fun W' (hx : Ext W W') => hih W' (hok.ext hx) (by omega))
        obtain ⟨sx, hsx⟩ : ∃ v, x.strip = v := ⟨_, rfl⟩
        rw [hsx] at HC hsn hle
        have hax := atoms_nodes sx
        have hal := atomsL_nodes ((kids.take j).map Fm.strip)
        have HAX : Hid (sx.atoms.length ≤ 1000000000 - r) := Lib.hid (by have := HR.out; rw [HX.out] at this; omega)
        have HX2 : Hid (xs ++ sx.atoms = atomsL ((kids.take (j + 1)).map Fm.strip)) := Lib.hid (by rw [hsn, atomsL_snoc, HX.out])
        generalize sx.atoms = ys at *
        clear hsx hsn hle hsv hih hjl hax hal hok
        obtain ⟨op', k', ⟨o', d'⟩, a', n', c', kids'⟩ := x
        obtain ⟨r0, r1, r2, r3, r4⟩ := hcell j op' k' (o', d') a' n' c' kids' hgt
        unfold fmV S at HC
        simp only at HC
        clear hcell hgt
        subst ha
        unfold S at r2 r3
        simp only at r2 r3
        (try simp only [nsl, Value.cells, unB] at st)
        (try clear hc); have hc := st.facts; (try simp only [nfl, nft, Nat.reduceAdd] at hc)
        go_wp2_with ((first
              | ((with_reducible refine wl_box ?_ (fun K hK => ?_)); rfl; refine owp_box (o := ⟨some 1, _, _, _, _, _⟩) rfl st ?_; apply Exists.intro; refine ⟨?_, ?_⟩; (focus (go_simp; try rfl)); (clear st; intro b1 w hb st; clear hb))
              | ((with_reducible refine wl_buildSlice ?_ (fun K hK => ?_)); rfl; refine owp_buildSlice (o := ⟨some 11, _, _, _, _, _⟩) rfl st ?_; apply Exists.intro; apply Exists.intro; apply Exists.intro; apply Exists.intro; refine ⟨?_, ?_⟩; (focus (go_simp; (first | done | exact ⟨⟨rfl, rfl⟩, rfl⟩ | rfl))); (clear st; intro b11 w hb st; clear hb))
              | ((with_reducible refine wl_alloc ?_ (fun K hK => ?_)); rfl; refine owp_alloc (o := ⟨some 5, _, _, _, _, _⟩) rfl st ?_; apply Exists.intro; apply Exists.intro; refine ⟨?_, ?_⟩; (focus (first | (go_simp; done) | (go_simp; rfl))); (clear st; intro b5 w hb st; clear hb))
              | ((with_reducible refine wl_store ?_ (fun K hK => ?_)); rfl; refine owp_store rfl st ?_; apply Exists.intro; apply Exists.intro; refine ⟨?_, ?_, ?_⟩; (focus (go_simp; try rfl)); (focus (go_simp; try rfl)); (first | (with_reducible refine ⟨0, _, _, _, _, get0, rfl, rfl, ?_, ?_, ?_, ?_⟩) | (with_reducible refine ⟨1, _, _, _, _, get1, rfl, rfl, ?_, ?_, ?_, ?_⟩) | (with_reducible refine ⟨2, _, _, _, _, get2, rfl, rfl, ?_, ?_, ?_, ?_⟩) | (with_reducible refine ⟨3, _, _, _, _, get3, rfl, rfl, ?_, ?_, ?_, ?_⟩) | (with_reducible refine ⟨4, _, _, _, _, get4, rfl, rfl, ?_, ?_, ?_, ?_⟩)); (kernel_rfl); (simp [Value.cells]); (rfl); (clear st; intro w st))); (try simp only [nsl, Value.cells, unB] at st); (try clear hc); have hc := st.facts; (try simp only [nfl, nft, Nat.reduceAdd] at hc))
        clear r0 r1 r2 r3 r4
        refine (HC.out _ st.ext0).mono ?_
        rintro en w ⟨va, m, vc, rfl, h2⟩
        have hm := (h2.flAt (i := 0) get0).1
        have hmb : m ≤ 1000000000 - r := by rw [hm]; exact HAX.out
        have HM := Lib.hid hm
        clear hm
        replace st := st.join h2
        clear h2
        simp only [List.cons_append, List.nil_append] at st
        (try simp only [nsl, Value.cells, unB] at st)
        (try clear hc); have hc := st.facts; (try simp only [nfl, nft, Nat.reduceAdd] at hc)
        go_wp2_with (first
            | ((with_reducible refine wl_append ?_ (fun K hK => ?_)); (rfl); (obtain ⟨inf, hinf, hz0, hz1, hz2⟩ := roleInfo); (refine owp_append rfl st 1 get1 Tryz.underlying27 hinf hz0 hz1 hz2 rfl (by decide) rfl rfl ((st.flAt (i := 3) get3).flat) (by first | exact cellsL_all _ | simp [Value.oneCell']) (by simp only [maxLen]; omega) (by omega) ?_); (clear hinf hz0 hz1 hz2 inf); (clear st; intro v' w st); (obtain ⟨va', vc', rfl⟩ := own_slice (st.row (i := 1) get1)); (try simp only [nsl, Value.cells, unB] at st); (try simp only [Nat.zero_add] at st); (try clear hc); have hc := st.facts; (try simp only [nfl, nft, Nat.reduceAdd] at hc))
            | ((first
              | ((with_reducible refine wl_box ?_ (fun K hK => ?_)); rfl; refine owp_box (o := ⟨some 1, _, _, _, _, _⟩) rfl st ?_; apply Exists.intro; refine ⟨?_, ?_⟩; (focus (go_simp; try rfl)); (clear st; intro b1 w hb st; clear hb))
              | ((with_reducible refine wl_buildSlice ?_ (fun K hK => ?_)); rfl; refine owp_buildSlice (o := ⟨some 11, _, _, _, _, _⟩) rfl st ?_; apply Exists.intro; apply Exists.intro; apply Exists.intro; apply Exists.intro; refine ⟨?_, ?_⟩; (focus (go_simp; (first | done | exact ⟨⟨rfl, rfl⟩, rfl⟩ | rfl))); (clear st; intro b11 w hb st; clear hb))
              | ((with_reducible refine wl_alloc ?_ (fun K hK => ?_)); rfl; refine owp_alloc (o := ⟨some 5, _, _, _, _, _⟩) rfl st ?_; apply Exists.intro; apply Exists.intro; refine ⟨?_, ?_⟩; (focus (first | (go_simp; done) | (go_simp; rfl))); (clear st; intro b5 w hb st; clear hb))
              | ((with_reducible refine wl_store ?_ (fun K hK => ?_)); rfl; refine owp_store rfl st ?_; apply Exists.intro; apply Exists.intro; refine ⟨?_, ?_, ?_⟩; (focus (go_simp; try rfl)); (focus (go_simp; try rfl)); (first | (with_reducible refine ⟨0, _, _, _, _, get0, rfl, rfl, ?_, ?_, ?_, ?_⟩) | (with_reducible refine ⟨1, _, _, _, _, get1, rfl, rfl, ?_, ?_, ?_, ?_⟩) | (with_reducible refine ⟨2, _, _, _, _, get2, rfl, rfl, ?_, ?_, ?_, ?_⟩) | (with_reducible refine ⟨3, _, _, _, _, get3, rfl, rfl, ?_, ?_, ?_, ?_⟩) | (with_reducible refine ⟨4, _, _, _, _, get4, rfl, rfl, ?_, ?_, ?_, ?_⟩)); (kernel_rfl); (simp [Value.cells]); (rfl); (clear st; intro w st))); (try simp only [nsl, Value.cells, unB] at st); (try clear hc); have hc := st.facts; (try simp only [nfl, nft, Nat.reduceAdd] at hc)))
        have st' := st.keep [0, 1] (by decide) (by simp)
        have HR2 : Hid (r + m = (xs ++ ys).length) := Lib.hid (by rw [List.length_append, HR.out, HM.out])
        go_roundg (n - (j + 1))
        case measure => omega
        case rel => exact ⟨j + 1, r + m, xs ++ ys, by omega, by omega, by go_num, by omega, HX2, HR2, by rw [cellsL_append]; simpa [pick] using st'⟩
      · obtain rfl : n = j := by omega
        have HE : Hid (xs = atomsL (kids.map Fm.strip)) := Lib.hid (by rw [HX.out, List.take_of_length_le (by have := HN.out; omega)])
        (try simp only [nsl, Value.cells, unB] at st)
        (try clear hc); have hc := st.facts; (try simp only [nfl, nft, Nat.reduceAdd] at hc)
        go_wp2_with fail
        go_ret
        have st2 := st.keep [1] (by decide) (by simp)
        simp only [pick, List.map_cons, List.map_nil, List.getElem?_cons_zero, List.getElem?_cons_succ, Option.getD_some] at st2
        have st' := st2.rowToFl (α := Role) (i := 0) get0
        rw [← HE.out]
        exact roleRes st' 
set_option maxRecDepth 100000 in
set_option maxHeartbeats 2000000 in
theorem refAtoms0_f (f : Fm) : ∀ (W : World), FmOk W f → f.strip.nodes ≤ 1000000000 →
    Calls Tryz.prog 38 #[fmV f] W (RolesAre W f.strip.atoms) := by
  induction f using Fm.ind
  rename_i op k r a n c kids ih
  intro W hok hs
  obtain ⟨o, d⟩ := r
  rw [strip_mk] at *
  rw [Fo.nodes] at hs
  rw [Fo.atoms]
  have st := Own.start (fun _ => False) (fun _ => False) W
  unfold fmV S
  simp only
  by_cases o1 : op = 1
  · subst o1
    rw [if_pos rfl]
    clear hok ih hs
    (try simp only [nsl, Value.cells, unB] at st)
    (try clear hc); have hc := st.facts; (try simp only [nfl, nft, Nat.reduceAdd] at hc)
    go_enter Tryz.func38, Tryz.ntmps38
    go_wp2_with ((first
          | ((with_reducible refine wl_box ?_ (fun K hK => ?_)); rfl; refine owp_box (o := ⟨some 1, _, _, _, _, _⟩) rfl st ?_; apply Exists.intro; refine ⟨?_, ?_⟩; (focus (go_simp; try rfl)); (clear st; intro b1 w hb st; clear hb))
          | ((with_reducible refine wl_buildSlice ?_ (fun K hK => ?_)); rfl; refine owp_buildSlice (o := ⟨some 11, _, _, _, _, _⟩) rfl st ?_; apply Exists.intro; apply Exists.intro; apply Exists.intro; apply Exists.intro; refine ⟨?_, ?_⟩; (focus (go_simp; (first | done | exact ⟨⟨rfl, rfl⟩, rfl⟩ | rfl))); (clear st; intro b11 w hb st; clear hb))
          | ((with_reducible refine wl_alloc ?_ (fun K hK => ?_)); rfl; refine owp_alloc (o := ⟨some 5, _, _, _, _, _⟩) rfl st ?_; apply Exists.intro; apply Exists.intro; refine ⟨?_, ?_⟩; (focus (first | (go_simp; done) | (go_simp; rfl))); (clear st; intro b5 w hb st; clear hb))
          | ((with_reducible refine wl_store ?_ (fun K hK => ?_)); rfl; refine owp_store rfl st ?_; apply Exists.intro; apply Exists.intro; refine ⟨?_, ?_, ?_⟩; (focus (go_simp; try rfl)); (focus (go_simp; try rfl)); (first | (with_reducible refine ⟨0, _, _, _, _, get0, rfl, rfl, ?_, ?_, ?_, ?_⟩) | (with_reducible refine ⟨1, _, _, _, _, get1, rfl, rfl, ?_, ?_, ?_, ?_⟩) | (with_reducible refine ⟨2, _, _, _, _, get2, rfl, rfl, ?_, ?_, ?_, ?_⟩) | (with_reducible refine ⟨3, _, _, _, _, get3, rfl, rfl, ?_, ?_, ?_, ?_⟩) | (with_reducible refine ⟨4, _, _, _, _, get4, rfl, rfl, ?_, ?_, ?_, ?_⟩)); (kernel_rfl); (simp [Value.cells]); (rfl); (clear st; intro w st))); (try simp only [nsl, Value.cells, unB] at st); (try clear hc); have hc := st.facts; (try simp only [nfl, nft, Nat.reduceAdd] at hc))
    go_ret
    have st2 := st.keep [1] (by decide) (by simp)
    simp only [pick, List.map_cons, List.map_nil, List.getElem?_cons_zero, List.getElem?_cons_succ, Option.getD_some] at st2
    have st' := st2.blkToFl (i := 0) (n := 1) ([(o, d)] : List Role) get0 rfl rfl
    exact roleRes st' 
  · rw [if_neg o1]
    have hob : (op == 1) = false := by simpa using o1
    have HOK := Lib.hid hok
    have HI := Lib.hid ih
    have HN : Hid (n = kids.length) := Lib.hid hok.fl.1
    have hn : n ≤ 1000000000 := by have := nodesL_len (kids.map Fm.strip); rw [List.length_map] at this; have := hok.fl.1; omega
    have HS := Lib.hid hs
    clear hok ih hs o1
    (try simp only [nsl, Value.cells, unB] at st)
    (try clear hc); have hc := st.facts; (try simp only [nfl, nft, Nat.reduceAdd] at hc)
    go_enter Tryz.func38, Tryz.ntmps38
    go_wp2_with ((first
          | ((with_reducible refine wl_box ?_ (fun K hK => ?_)); rfl; refine owp_box (o := ⟨some 1, _, _, _, _, _⟩) rfl st ?_; apply Exists.intro; refine ⟨?_, ?_⟩; (focus (go_simp; try rfl)); (clear st; intro b1 w hb st; clear hb))
          | ((with_reducible refine wl_buildSlice ?_ (fun K hK => ?_)); rfl; refine owp_buildSlice (o := ⟨some 11, _, _, _, _, _⟩) rfl st ?_; apply Exists.intro; apply Exists.intro; apply Exists.intro; apply Exists.intro; refine ⟨?_, ?_⟩; (focus (go_simp; (first | done | exact ⟨⟨rfl, rfl⟩, rfl⟩ | rfl))); (clear st; intro b11 w hb st; clear hb))
          | ((with_reducible refine wl_alloc ?_ (fun K hK => ?_)); rfl; refine owp_alloc (o := ⟨some 5, _, _, _, _, _⟩) rfl st ?_; apply Exists.intro; apply Exists.intro; refine ⟨?_, ?_⟩; (focus (first | (go_simp; done) | (go_simp; rfl))); (clear st; intro b5 w hb st; clear hb))
          | ((with_reducible refine wl_store ?_ (fun K hK => ?_)); rfl; refine owp_store rfl st ?_; apply Exists.intro; apply Exists.intro; refine ⟨?_, ?_, ?_⟩; (focus (go_simp; try rfl)); (focus (go_simp; try rfl)); (first | (with_reducible refine ⟨0, _, _, _, _, get0, rfl, rfl, ?_, ?_, ?_, ?_⟩) | (with_reducible refine ⟨1, _, _, _, _, get1, rfl, rfl, ?_, ?_, ?_, ?_⟩) | (with_reducible refine ⟨2, _, _, _, _, get2, rfl, rfl, ?_, ?_, ?_, ?_⟩) | (with_reducible refine ⟨3, _, _, _, _, get3, rfl, rfl, ?_, ?_, ?_, ?_⟩) | (with_reducible refine ⟨4, _, _, _, _, get4, rfl, rfl, ?_, ?_, ?_, ?_⟩)); (kernel_rfl); (simp [Value.cells]); (rfl); (clear st; intro w st))); (try simp only [nsl, Value.cells, unB] at st); (try clear hc); have hc := st.facts; (try simp only [nfl, nft, Nat.reduceAdd] at hc))
    have st9 := (st.keep [0] (by decide) (by simp)).row_nil 23 2
    clear st
    have st := st9
    clear st9
    simp only [pick, List.map_cons, List.map_nil, List.getElem?_cons_zero, List.getElem?_cons_succ, Option.getD_some, List.cons_append, List.nil_append] at st
    go_loopg [3, 15] n (fun q ov i wr => ∃ (j r : Nat) (xs : List Role), j ≤ n ∧ q = n - j ∧ i = .int .i64 (j : Int) ∧ r ≤ 1000000000 ∧ Hid (xs = atomsL ((kids.take j).map Fm.strip)) ∧ Hid (r = xs.length) ∧ Own (fun _ => False) (fun _ => False) W [blkI b1 [.int .i64 op, .int .i64 k, .string ⟨o.toArray⟩, .string ⟨d.toArray⟩, .slice a n c], rowI 23 2 ov r (cellsL xs)] wr)
    case atStart => exact ⟨0, 0, [], by omega, by omega, rfl, by omega, Lib.hid (by simp [atomsL]), Lib.hid rfl, by simpa [cellsL] using st⟩
    case round =>
      obtain ⟨j, r, xs, hj, rfl, rfl, hr, HX, HR, st'⟩ := hrel
      clear st hc
      have st := st'
      clear st'
      obtain ⟨oa, oc, rfl⟩ := own_slice (st.row (i := 1) get1)
      by_cases hjn : j < n
      · obtain ⟨b, off, ha, hcell⟩ := (HOK.out.ext st.ext0).fl.fm (by omega)
        have hjl : j < kids.length := by have := HN.out; omega
        have hsn := map_snoc_strip kids j hjl
        have hle := nodesL_take (kids.map Fm.strip) (j + 1)
        rw [← List.map_take, hsn, nodesL_snoc] at hle
        have hsv := HS.out
        have hok := HOK.out.kids _ (List.getElem_mem hjl)
        have hih := HI.out _ (List.getElem_mem hjl)
        have hgt := List.getElem?_eq_getElem hjl
        generalize kids[j] = x at *
        have HC := Lib.hid (fun W' (hx : Ext W W') => hih W' (hok.ext hx) (by omega))
        obtain ⟨sx, hsx⟩ : ∃ v, x.strip = v := ⟨_, rfl⟩
        rw [hsx] at HC hsn hle
        have hax := atoms_nodes sx
        have hal := atomsL_nodes ((kids.take j).map Fm.strip)
        have HAX : Hid (sx.atoms.length ≤ 1000000000 - r) := Lib.hid (by have := HR.out; rw [HX.out] at this; omega)
        have HX2 : Hid (xs ++ sx.atoms = atomsL ((kids.take (j + 1)).map Fm.strip)) := Lib.hid (by rw [hsn, atomsL_snoc, HX.out])
        generalize sx.atoms = ys at *
        clear hsx hsn hle hsv hih hjl hax hal hok
        obtain ⟨op', k', ⟨o', d'⟩, a', n', c', kids'⟩ := x
        obtain ⟨r0, r1, r2, r3, r4⟩ := hcell j op' k' (o', d') a' n' c' kids' hgt
        unfold fmV S at HC
        simp only at HC
        clear hcell hgt
        subst ha
        unfold S at r2 r3
        simp only at r2 r3
        (try simp only [nsl, Value.cells, unB] at st)
        (try clear hc); have hc := st.facts; (try simp only [nfl, nft, Nat.reduceAdd] at hc)
        go_wp2_with ((first
              | ((with_reducible refine wl_box ?_ (fun K hK => ?_)); rfl; refine owp_box (o := ⟨some 1, _, _, _, _, _⟩) rfl st ?_; apply Exists.intro; refine ⟨?_, ?_⟩; (focus (go_simp; try rfl)); (clear st; intro b1 w hb st; clear hb))
              | ((with_reducible refine wl_buildSlice ?_ (fun K hK => ?_)); rfl; refine owp_buildSlice (o := ⟨some 11, _, _, _, _, _⟩) rfl st ?_; apply Exists.intro; apply Exists.intro; apply Exists.intro; apply Exists.intro; refine ⟨?_, ?_⟩; (focus (go_simp; (first | done | exact ⟨⟨rfl, rfl⟩, rfl⟩ | rfl))); (clear st; intro b11 w hb st; clear hb))
              | ((with_reducible refine wl_alloc ?_ (fun K hK => ?_)); rfl; refine owp_alloc (o := ⟨some 5, _, _, _, _, _⟩) rfl st ?_; apply Exists.intro; apply Exists.intro; refine ⟨?_, ?_⟩; (focus (first | (go_simp; done) | (go_simp; rfl))); (clear st; intro b5 w hb st; clear hb))
              | ((with_reducible refine wl_store ?_ (fun K hK => ?_)); rfl; refine owp_store rfl st ?_; apply Exists.intro; apply Exists.intro; refine ⟨?_, ?_, ?_⟩; (focus (go_simp; try rfl)); (focus (go_simp; try rfl)); (first | (with_reducible refine ⟨0, _, _, _, _, get0, rfl, rfl, ?_, ?_, ?_, ?_⟩) | (with_reducible refine ⟨1, _, _, _, _, get1, rfl, rfl, ?_, ?_, ?_, ?_⟩) | (with_reducible refine ⟨2, _, _, _, _, get2, rfl, rfl, ?_, ?_, ?_, ?_⟩) | (with_reducible refine ⟨3, _, _, _, _, get3, rfl, rfl, ?_, ?_, ?_, ?_⟩) | (with_reducible refine ⟨4, _, _, _, _, get4, rfl, rfl, ?_, ?_, ?_, ?_⟩)); (kernel_rfl); (simp [Value.cells]); (rfl); (clear st; intro w st))); (try simp only [nsl, Value.cells, unB] at st); (try clear hc); have hc := st.facts; (try simp only [nfl, nft, Nat.reduceAdd] at hc))
        clear r0 r1 r2 r3 r4
        refine (HC.out _ st.ext0).mono ?_
        rintro en w ⟨va, m, vc, rfl, h2⟩
        have hm := (h2.flAt (i := 0) get0).1
        have hmb : m ≤ 1000000000 - r := by rw [hm]; exact HAX.out
        have HM := Lib.hid hm
        clear hm
        replace st := st.join h2
        clear h2
        simp only [List.cons_append, List.nil_append] at st
        (try simp only [nsl, Value.cells, unB] at st)
        (try clear hc); have hc := st.facts; (try simp only [nfl, nft, Nat.reduceAdd] at hc)
        go_wp2_with (first
            | ((with_reducible refine wl_append ?_ (fun K hK => ?_)); (rfl); (obtain ⟨inf, hinf, hz0, hz1, hz2⟩ := roleInfo); (refine owp_append rfl st 1 get1 Tryz.underlying27 hinf hz0 hz1 hz2 rfl (by decide) rfl rfl ((st.flAt (i := 3) get3).flat) (by first | exact cellsL_all _ | simp [Value.oneCell']) (by simp only [maxLen]; omega) (by omega) ?_); (clear hinf hz0 hz1 hz2 inf); (clear st; intro v' w st); (obtain ⟨va', vc', rfl⟩ := own_slice (st.row (i := 1) get1)); (try simp only [nsl, Value.cells, unB] at st); (try simp only [Nat.zero_add] at st); (try clear hc); have hc := st.facts; (try simp only [nfl, nft, Nat.reduceAdd] at hc))
            | ((first
              | ((with_reducible refine wl_box ?_ (fun K hK => ?_)); rfl; refine owp_box (o := ⟨some 1, _, _, _, _, _⟩) rfl st ?_; apply Exists.intro; refine ⟨?_, ?_⟩; (focus (go_simp; try rfl)); (clear st; intro b1 w hb st; clear hb))
              | ((with_reducible refine wl_buildSlice ?_ (fun K hK => ?_)); rfl; refine owp_buildSlice (o := ⟨some 11, _, _, _, _, _⟩) rfl st ?_; apply Exists.intro; apply Exists.intro; apply Exists.intro; apply Exists.intro; refine ⟨?_, ?_⟩; (focus (go_simp; (first | done | exact ⟨⟨rfl, rfl⟩, rfl⟩ | rfl))); (clear st; intro b11 w hb st; clear hb))
              | ((with_reducible refine wl_alloc ?_ (fun K hK => ?_)); rfl; refine owp_alloc (o := ⟨some 5, _, _, _, _, _⟩) rfl st ?_; apply Exists.intro; apply Exists.intro; refine ⟨?_, ?_⟩; (focus (first | (go_simp; done) | (go_simp; rfl))); (clear st; intro b5 w hb st; clear hb))
              | ((with_reducible refine wl_store ?_ (fun K hK => ?_)); rfl; refine owp_store rfl st ?_; apply Exists.intro; apply Exists.intro; refine ⟨?_, ?_, ?_⟩; (focus (go_simp; try rfl)); (focus (go_simp; try rfl)); (first | (with_reducible refine ⟨0, _, _, _, _, get0, rfl, rfl, ?_, ?_, ?_, ?_⟩) | (with_reducible refine ⟨1, _, _, _, _, get1, rfl, rfl, ?_, ?_, ?_, ?_⟩) | (with_reducible refine ⟨2, _, _, _, _, get2, rfl, rfl, ?_, ?_, ?_, ?_⟩) | (with_reducible refine ⟨3, _, _, _, _, get3, rfl, rfl, ?_, ?_, ?_, ?_⟩) | (with_reducible refine ⟨4, _, _, _, _, get4, rfl, rfl, ?_, ?_, ?_, ?_⟩)); (kernel_rfl); (simp [Value.cells]); (rfl); (clear st; intro w st))); (try simp only [nsl, Value.cells, unB] at st); (try clear hc); have hc := st.facts; (try simp only [nfl, nft, Nat.reduceAdd] at hc)))
        have st' := st.keep [0, 1] (by decide) (by simp)
        have HR2 : Hid (r + m = (xs ++ ys).length) := Lib.hid (by rw [List.length_append, HR.out, HM.out])
        go_roundg (n - (j + 1))
        case measure => omega
        case rel => exact ⟨j + 1, r + m, xs ++ ys, by omega, by omega, by go_num, by omega, HX2, HR2, by rw [cellsL_append]; simpa [pick] using st'⟩
      · obtain rfl : n = j := by omega
        have HE : Hid (xs = atomsL (kids.map Fm.strip)) := Lib.hid (by rw [HX.out, List.take_of_length_le (by have := HN.out; omega)])
        (try simp only [nsl, Value.cells, unB] at st)
        (try clear hc); have hc := st.facts; (try simp only [nfl, nft, Nat.reduceAdd] at hc)
        go_wp2_with fail
        go_ret
        have st2 := st.keep [1] (by decide) (by simp)
        simp only [pick, List.map_cons, List.map_nil, List.getElem?_cons_zero, List.getElem?_cons_succ, Option.getD_some] at st2
        have st' := st2.rowToFl (α := Role) (i := 0) get0
        rw [← HE.out]
        exact roleRes st' 
set_option maxRecDepth 100000 in
set_option maxHeartbeats 1000000 in
theorem fmAtoms_f (f : Fm) (W : World) (h : FmOk W f) (hs : f.strip.nodes ≤ 1000000) (hl : FoL 100000 f.strip) :
    Calls Tryz.prog 23 #[fmV f] W fun e w' => ∃ va vc, e = .returned (.slice va (roleSet f.strip.atoms).length vc) ∧ Own (fun _ => False) (fun _ => False) W [rowI 23 2 (.slice va (roleSet f.strip.atoms).length vc) (roleSet f.strip.atoms).length (cellsL (roleSet f.strip.atoms))] w' := by
  have HC := Lib.hid (fun W' (hx : Ext W W') => fmRoles_f f W' (h.ext hx) (by omega))
  have hn := atoms_nodes f.strip
  have HS := Lib.hid (fun a n c W (hf : Fl W a n f.strip.atoms) => roleSet_any a n c f.strip.atoms W hf (by have := hf.1; omega) (fun x hx => hl.atoms x hx))
  generalize f.strip.atoms = xs at *
  generalize roleSet xs = ys at *
  obtain ⟨m, hm⟩ : ∃ m, ys.length = m := ⟨_, rfl⟩
  rw [hm] at HS ⊢
  clear hm hn hl hs
  obtain ⟨op, k, ⟨o, d⟩, a, n, c, kids⟩ := f
  clear h
  have st := Own.start (fun _ => False) (fun _ => False) W
  unfold fmV S at HC ⊢
  simp only at HC ⊢
  (try simp only [nsl, Value.cells, unB] at st)
  (try clear hc); have hc := st.facts; (try simp only [nfl, nft, Nat.reduceAdd] at hc)
  go_enter Tryz.func23, Tryz.ntmps23
  go_wp2_with ((((with_reducible refine wl_box ?_ (fun K hK => ?_)); rfl; refine owp_box (o := ⟨some 1, _, _, _, _, _⟩) rfl st ?_; apply Exists.intro; refine ⟨?_, ?_⟩; (focus (go_simp; try rfl)); (clear st; intro b1 w hb st; clear hb))); (try simp only [nsl, Value.cells, unB] at st); (try clear hc); have hc := st.facts; (try simp only [nfl, nft, Nat.reduceAdd] at hc))
  refine (HC.out _ st.ext0).mono ?_
  rintro en w ⟨va, q, vc, rfl, h2⟩
  replace st := st.join h2
  clear h2
  simp only [List.cons_append, List.nil_append] at st
  (try simp only [nsl, Value.cells, unB] at st)
  (try clear hc); have hc := st.facts; (try simp only [nfl, nft, Nat.reduceAdd] at hc)
  go_wp2_with ((((with_reducible refine wl_box ?_ (fun K hK => ?_)); rfl; refine owp_box (o := ⟨some 1, _, _, _, _, _⟩) rfl st ?_; apply Exists.intro; refine ⟨?_, ?_⟩; (focus (go_simp; try rfl)); (clear st; intro b1 w hb st; clear hb))); (try simp only [nsl, Value.cells, unB] at st); (try clear hc); have hc := st.facts; (try simp only [nfl, nft, Nat.reduceAdd] at hc))
  refine (HS.out _ _ _ _ (st.flAt (i := 1) get1)).mono ?_
  rintro en w ⟨va2, vc2, rfl, h2⟩
  replace st := st.fresh h2
  clear h2
  (try simp only [nsl, Value.cells, unB] at st)
  (try clear hc); have hc := st.facts; (try simp only [nfl, nft, Nat.reduceAdd] at hc)
  go_wp2_with ((((with_reducible refine wl_box ?_ (fun K hK => ?_)); rfl; refine owp_box (o := ⟨some 1, _, _, _, _, _⟩) rfl st ?_; apply Exists.intro; refine ⟨?_, ?_⟩; (focus (go_simp; try rfl)); (clear st; intro b1 w hb st; clear hb))); (try simp only [nsl, Value.cells, unB] at st); (try clear hc); have hc := st.facts; (try simp only [nfl, nft, Nat.reduceAdd] at hc))
  go_ret
  have st' := st.keep [2] (by decide) (by simp)
  exact ⟨_, _, rfl, by simpa [pick] using st'⟩
set_option maxRecDepth 100000 in
set_option maxHeartbeats 1000000 in
theorem refAtoms_f (f : Fm) (W : World) (h : FmOk W f) (hs : f.strip.nodes ≤ 1000000) (hl : FoL 100000 f.strip) :
    Calls Tryz.prog 14 #[fmV f] W fun e w' => ∃ va vc, e = .returned (.slice va (roleSet f.strip.atoms).length vc) ∧ Own (fun _ => False) (fun _ => False) W [rowI 23 2 (.slice va (roleSet f.strip.atoms).length vc) (roleSet f.strip.atoms).length (cellsL (roleSet f.strip.atoms))] w' := by
  have HC := Lib.hid (fun W' (hx : Ext W W') => refAtoms0_f f W' (h.ext hx) (by omega))
  have hn := atoms_nodes f.strip
  have HS := Lib.hid (fun a n c W (hf : Fl W a n f.strip.atoms) => refRoleSet_c a n c f.strip.atoms W hf (by have := hf.1; omega) (fun x hx => by have := hl.atoms x hx; omega))
  generalize f.strip.atoms = xs at *
  generalize roleSet xs = ys at *
  obtain ⟨m, hm⟩ : ∃ m, ys.length = m := ⟨_, rfl⟩
  rw [hm] at HS ⊢
  clear hm hn hl hs
  obtain ⟨op, k, ⟨o, d⟩, a, n, c, kids⟩ := f
  clear h
  have st := Own.start (fun _ => False) (fun _ => False) W
  unfold fmV S at HC ⊢
  simp only at HC ⊢
  (try simp only [nsl, Value.cells, unB] at st)
  (try clear hc); have hc := st.facts; (try simp only [nfl, nft, Nat.reduceAdd] at hc)
  go_enter Tryz.func14, Tryz.ntmps14
  go_wp2_with ((((with_reducible refine wl_box ?_ (fun K hK => ?_)); rfl; refine owp_box (o := ⟨some 1, _, _, _, _, _⟩) rfl st ?_; apply Exists.intro; refine ⟨?_, ?_⟩; (focus (go_simp; try rfl)); (clear st; intro b1 w hb st; clear hb))); (try simp only [nsl, Value.cells, unB] at st); (try clear hc); have hc := st.facts; (try simp only [nfl, nft, Nat.reduceAdd] at hc))
  refine (HC.out _ st.ext0).mono ?_
  rintro en w ⟨va, q, vc, rfl, h2⟩
  replace st := st.join h2
  clear h2
  simp only [List.cons_append, List.nil_append] at st
  (try simp only [nsl, Value.cells, unB] at st)
  (try clear hc); have hc := st.facts; (try simp only [nfl, nft, Nat.reduceAdd] at hc)
  go_wp2_with ((((with_reducible refine wl_box ?_ (fun K hK => ?_)); rfl; refine owp_box (o := ⟨some 1, _, _, _, _, _⟩) rfl st ?_; apply Exists.intro; refine ⟨?_, ?_⟩; (focus (go_simp; try rfl)); (clear st; intro b1 w hb st; clear hb))); (try simp only [nsl, Value.cells, unB] at st); (try clear hc); have hc := st.facts; (try simp only [nfl, nft, Nat.reduceAdd] at hc))
  refine (HS.out _ _ _ _ (st.flAt (i := 1) get1)).mono ?_
  rintro en w ⟨va2, vc2, rfl, h2⟩
  replace st := st.fresh h2
  clear h2
  (try simp only [nsl, Value.cells, unB] at st)
  (try clear hc); have hc := st.facts; (try simp only [nfl, nft, Nat.reduceAdd] at hc)
  go_wp2_with ((((with_reducible refine wl_box ?_ (fun K hK => ?_)); rfl; refine owp_box (o := ⟨some 1, _, _, _, _, _⟩) rfl st ?_; apply Exists.intro; refine ⟨?_, ?_⟩; (focus (go_simp; try rfl)); (clear st; intro b1 w hb st; clear hb))); (try simp only [nsl, Value.cells, unB] at st); (try clear hc); have hc := st.facts; (try simp only [nfl, nft, Nat.reduceAdd] at hc))
  go_ret
  have st' := st.keep [2] (by decide) (by simp)
  exact ⟨_, _, rfl, by simpa [pick] using st'⟩
set_option maxRecDepth 100000 in
set_option maxHeartbeats 2000000 in
theorem fmHolds_any (F : FuncId) (cap : Array Value) (p : Role → Bool) (hi : ∀ w x, (callFunc F (#[x] ++ cap)).run Tryz.prog w = .ok (.enter F (#[x] ++ cap)) w) (f : Fm) : ∀ (W : World), FmOk W f →
    (∀ r ∈ f.strip.atoms, ∀ w, Ext W w → Calls Tryz.prog F (#[rV r] ++ cap) w fun e w' => e = .returned (.bool (p r)) ∧ Ext w w') →
    Calls Tryz.prog 54 #[fmV f, .func (.func F) #[] cap] W fun e w' => e = .returned (.bool (f.strip.holds p)) ∧ Ext W w' := by
  induction f using Fm.ind
  rename_i op k r a n c kids ih
  intro W hok hp
  obtain ⟨o, d⟩ := r
  rw [strip_mk] at *
  rw [Fo.holds, List.length_map]
  rw [Fo.atoms] at hp
  have st := Own.startOld W
  unfold fmV S
  simp only
  by_cases o1 : op = 1
  · subst o1
    rw [if_pos rfl] at hp ⊢
    have HP := Lib.hid (fun w hx => hp (o, d) (by simp) w hx)
    unfold rV S at HP
    simp only at HP
    obtain ⟨v, hv⟩ : ∃ v, p (o, d) = v := ⟨_, rfl⟩
    rw [hv] at HP ⊢
    clear hok ih hp hv
    (try simp only [nsl, Value.cells, unB] at st)
    (try clear hc); have hc := st.facts; (try simp only [nfl, nft, Nat.reduceAdd] at hc)
    go_enter Tryz.func54, Tryz.ntmps54
    go_wp2_with ((first
          | ((with_reducible refine wl_box ?_ (fun K hK => ?_)); rfl; refine owp_box (o := ⟨some 2, _, _, _, _, _⟩) rfl st ?_; apply Exists.intro; refine ⟨?_, ?_⟩; (focus (go_simp; try rfl)); (clear st; intro b2 w hb st; clear hb))
          | ((with_reducible refine wl_alloc ?_ (fun K hK => ?_)); rfl; refine owp_alloc (o := ⟨some 7, _, _, _, _, _⟩) rfl st ?_; apply Exists.intro; apply Exists.intro; refine ⟨?_, ?_⟩; (focus (first | (go_simp; done) | (go_simp; rfl))); (clear st; intro b7 w hb st; clear hb))
          | ((with_reducible refine wl_store ?_ (fun K hK => ?_)); rfl; refine owp_store rfl st ?_; apply Exists.intro; apply Exists.intro; refine ⟨?_, ?_, ?_⟩; (focus (go_simp; try rfl)); (focus (go_simp; try rfl)); (first | (with_reducible refine ⟨0, _, _, _, _, get0, rfl, rfl, ?_, ?_, ?_, ?_⟩) | (with_reducible refine ⟨1, _, _, _, _, get1, rfl, rfl, ?_, ?_, ?_, ?_⟩) | (with_reducible refine ⟨2, _, _, _, _, get2, rfl, rfl, ?_, ?_, ?_, ?_⟩) | (with_reducible refine ⟨3, _, _, _, _, get3, rfl, rfl, ?_, ?_, ?_, ?_⟩) | (with_reducible refine ⟨4, _, _, _, _, get4, rfl, rfl, ?_, ?_, ?_, ?_⟩)); (kernel_rfl); (simp [Value.cells]); (rfl); (clear st; intro w st))); (try simp only [nsl, Value.cells, unB] at st); (try clear hc); have hc := st.facts; (try simp only [nfl, nft, Nat.reduceAdd] at hc))
    refine (HP.out _ st.ext0).mono ?_
    rintro en w ⟨rfl, hx⟩
    replace st := st.ext hx
    clear hx
    (try clear hc); have hc := st.facts; (try simp only [nfl, nft, Nat.reduceAdd] at hc)
    go_wp2_with ((first
          | ((with_reducible refine wl_box ?_ (fun K hK => ?_)); rfl; refine owp_box (o := ⟨some 2, _, _, _, _, _⟩) rfl st ?_; apply Exists.intro; refine ⟨?_, ?_⟩; (focus (go_simp; try rfl)); (clear st; intro b2 w hb st; clear hb))
          | ((with_reducible refine wl_alloc ?_ (fun K hK => ?_)); rfl; refine owp_alloc (o := ⟨some 7, _, _, _, _, _⟩) rfl st ?_; apply Exists.intro; apply Exists.intro; refine ⟨?_, ?_⟩; (focus (first | (go_simp; done) | (go_simp; rfl))); (clear st; intro b7 w hb st; clear hb))
          | ((with_reducible refine wl_store ?_ (fun K hK => ?_)); rfl; refine owp_store rfl st ?_; apply Exists.intro; apply Exists.intro; refine ⟨?_, ?_, ?_⟩; (focus (go_simp; try rfl)); (focus (go_simp; try rfl)); (first | (with_reducible refine ⟨0, _, _, _, _, get0, rfl, rfl, ?_, ?_, ?_, ?_⟩) | (with_reducible refine ⟨1, _, _, _, _, get1, rfl, rfl, ?_, ?_, ?_, ?_⟩) | (with_reducible refine ⟨2, _, _, _, _, get2, rfl, rfl, ?_, ?_, ?_, ?_⟩) | (with_reducible refine ⟨3, _, _, _, _, get3, rfl, rfl, ?_, ?_, ?_, ?_⟩) | (with_reducible refine ⟨4, _, _, _, _, get4, rfl, rfl, ?_, ?_, ?_, ?_⟩)); (kernel_rfl); (simp [Value.cells]); (rfl); (clear st; intro w st))); (try simp only [nsl, Value.cells, unB] at st); (try clear hc); have hc := st.facts; (try simp only [nfl, nft, Nat.reduceAdd] at hc))
    go_ret
    exact ⟨rfl, st.ext0⟩
  · rw [if_neg o1] at hp ⊢
    have hob : (op == 1) = false := by simpa using o1
    have HOK := Lib.hid hok
    have HI := Lib.hid ih
    have HP := Lib.hid hp
    have HN : Hid (n = kids.length) := Lib.hid hok.fl.1
    have hn : n ≤ 9223372036854775807 := by have := hok.cap; simp only [maxLen] at this; omega
    have HT : Hid (∀ j, holdsL p ((kids.take j).map Fm.strip) ≤ n) := Lib.hid (fun j => by have := holdsL_le p ((kids.take j).map Fm.strip); rw [List.length_map, List.length_take] at this; have := hok.fl.1; omega)
    obtain ⟨v, hv⟩ : ∃ v, truth op k kids.length (holdsL p (kids.map Fm.strip)) = v := ⟨_, rfl⟩
    have HV0 := Lib.hid hv
    rw [hv]
    clear hok ih hp o1 hv
    (try simp only [nsl, Value.cells, unB] at st)
    (try clear hc); have hc := st.facts; (try simp only [nfl, nft, Nat.reduceAdd] at hc)
    go_enter Tryz.func54, Tryz.ntmps54
    go_wp2_with ((first
          | ((with_reducible refine wl_box ?_ (fun K hK => ?_)); rfl; refine owp_box (o := ⟨some 2, _, _, _, _, _⟩) rfl st ?_; apply Exists.intro; refine ⟨?_, ?_⟩; (focus (go_simp; try rfl)); (clear st; intro b2 w hb st; clear hb))
          | ((with_reducible refine wl_alloc ?_ (fun K hK => ?_)); rfl; refine owp_alloc (o := ⟨some 7, _, _, _, _, _⟩) rfl st ?_; apply Exists.intro; apply Exists.intro; refine ⟨?_, ?_⟩; (focus (first | (go_simp; done) | (go_simp; rfl))); (clear st; intro b7 w hb st; clear hb))
          | ((with_reducible refine wl_store ?_ (fun K hK => ?_)); rfl; refine owp_store rfl st ?_; apply Exists.intro; apply Exists.intro; refine ⟨?_, ?_, ?_⟩; (focus (go_simp; try rfl)); (focus (go_simp; try rfl)); (first | (with_reducible refine ⟨0, _, _, _, _, get0, rfl, rfl, ?_, ?_, ?_, ?_⟩) | (with_reducible refine ⟨1, _, _, _, _, get1, rfl, rfl, ?_, ?_, ?_, ?_⟩) | (with_reducible refine ⟨2, _, _, _, _, get2, rfl, rfl, ?_, ?_, ?_, ?_⟩) | (with_reducible refine ⟨3, _, _, _, _, get3, rfl, rfl, ?_, ?_, ?_, ?_⟩) | (with_reducible refine ⟨4, _, _, _, _, get4, rfl, rfl, ?_, ?_, ?_, ?_⟩)); (kernel_rfl); (simp [Value.cells]); (rfl); (clear st; intro w st))); (try simp only [nsl, Value.cells, unB] at st); (try clear hc); have hc := st.facts; (try simp only [nfl, nft, Nat.reduceAdd] at hc))
    go_loopg [5, 18] n (fun q s i wr => ∃ (j g : Nat), j ≤ n ∧ q = n - j ∧ s = .int .i64 (g : Int) ∧ i = .int .i64 (j : Int) ∧ g ≤ j ∧ Hid (g = holdsL p ((kids.take j).map Fm.strip)) ∧ Own (fun _ => False) (fun _ => True) W [oldI W, blkI b2 [.int .i64 op, .int .i64 k, .string ⟨o.toArray⟩, .string ⟨d.toArray⟩, .slice a n c]] wr)
    case atStart => exact ⟨0, 0, by omega, by omega, rfl, rfl, by omega, Lib.hid (by simp [holdsL]), st⟩
    case round =>
      obtain ⟨j, g, hj, rfl, rfl, rfl, hg, HG, st'⟩ := hrel
      clear st hc
      have st := st'
      clear st'
      by_cases hjn : j < n
      · obtain ⟨b, off, ha, hcell⟩ := (HOK.out.ext st.ext0).fl.fm (by omega)
        have hjl : j < kids.length := by have := HN.out; omega
        have hsn := map_snoc_strip kids j hjl
        have hok := HOK.out.kids _ (List.getElem_mem hjl)
        have hih := HI.out _ (List.getElem_mem hjl)
        have hgt := List.getElem?_eq_getElem hjl
        have hmm : ∀ r ∈ (kids[j].strip).atoms, r ∈ atomsL (kids.map Fm.strip) := atomsL_mem _ _ (List.mem_map.2 ⟨_, List.getElem_mem hjl, rfl⟩)
        generalize kids[j] = x at *
        have HC := Lib.hid (fun W' (hx : Ext W W') => hih W' (hok.ext hx) (fun r hr w hw => HP.out r (hmm r hr) w (hx.trans hw)))
        obtain ⟨sx, hsx⟩ : ∃ v, x.strip = v := ⟨_, rfl⟩
        rw [hsx] at HC hsn
        obtain ⟨hv, hhv⟩ : ∃ v, sx.holds p = v := ⟨_, rfl⟩
        have HG2 : Hid (g + (if hv then 1 else 0) = holdsL p ((kids.take (j + 1)).map Fm.strip)) := Lib.hid (by rw [hsn, holdsL_snoc, HG.out, hhv])
        rw [hhv] at HC
        clear hsx hsn hih hjl hok hmm hhv
        obtain ⟨op', k', ⟨o', d'⟩, a', n', c', kids'⟩ := x
        obtain ⟨r0, r1, r2, r3, r4⟩ := hcell j op' k' (o', d') a' n' c' kids' hgt
        unfold fmV S at HC
        simp only at HC
        clear hcell hgt
        subst ha
        unfold S at r2 r3
        simp only at r2 r3
        (try simp only [nsl, Value.cells, unB] at st)
        (try clear hc); have hc := st.facts; (try simp only [nfl, nft, Nat.reduceAdd] at hc)
        go_wp2_with ((first
              | ((with_reducible refine wl_box ?_ (fun K hK => ?_)); rfl; refine owp_box (o := ⟨some 2, _, _, _, _, _⟩) rfl st ?_; apply Exists.intro; refine ⟨?_, ?_⟩; (focus (go_simp; try rfl)); (clear st; intro b2 w hb st; clear hb))
              | ((with_reducible refine wl_alloc ?_ (fun K hK => ?_)); rfl; refine owp_alloc (o := ⟨some 7, _, _, _, _, _⟩) rfl st ?_; apply Exists.intro; apply Exists.intro; refine ⟨?_, ?_⟩; (focus (first | (go_simp; done) | (go_simp; rfl))); (clear st; intro b7 w hb st; clear hb))
              | ((with_reducible refine wl_store ?_ (fun K hK => ?_)); rfl; refine owp_store rfl st ?_; apply Exists.intro; apply Exists.intro; refine ⟨?_, ?_, ?_⟩; (focus (go_simp; try rfl)); (focus (go_simp; try rfl)); (first | (with_reducible refine ⟨0, _, _, _, _, get0, rfl, rfl, ?_, ?_, ?_, ?_⟩) | (with_reducible refine ⟨1, _, _, _, _, get1, rfl, rfl, ?_, ?_, ?_, ?_⟩) | (with_reducible refine ⟨2, _, _, _, _, get2, rfl, rfl, ?_, ?_, ?_, ?_⟩) | (with_reducible refine ⟨3, _, _, _, _, get3, rfl, rfl, ?_, ?_, ?_, ?_⟩) | (with_reducible refine ⟨4, _, _, _, _, get4, rfl, rfl, ?_, ?_, ?_, ?_⟩)); (kernel_rfl); (simp [Value.cells]); (rfl); (clear st; intro w st))); (try simp only [nsl, Value.cells, unB] at st); (try clear hc); have hc := st.facts; (try simp only [nfl, nft, Nat.reduceAdd] at hc))
        clear r0 r1 r2 r3 r4
        refine (HC.out _ st.ext0).mono ?_
        rintro en w ⟨rfl, hx⟩
        replace st := st.ext hx
        clear hx
        (try clear hc); have hc := st.facts; (try simp only [nfl, nft, Nat.reduceAdd] at hc)
        cases hv with
        | true =>
          go_wp2_with fail
          have st' := st.keep [0, 1] (by decide) (by simp)
          go_roundg (n - (j + 1))
          case measure => omega
          case rel => exact ⟨j + 1, g + 1, by omega, by omega, by go_num, by go_num, by omega, HG2, by simpa [pick] using st'⟩
        | false =>
          go_wp2_with fail
          have st' := st.keep [0, 1] (by decide) (by simp)
          go_roundg (n - (j + 1))
          case measure => omega
          case rel => exact ⟨j + 1, g, by omega, by omega, rfl, by go_num, by omega, HG2, by simpa [pick] using st'⟩
      · obtain rfl : n = j := by omega
        have HE : Hid (holdsL p (kids.map Fm.strip) = g) := Lib.hid (by rw [HG.out, List.take_of_length_le (by have := HN.out; omega)])
        have HV : Hid (v = if op = 2 then decide (g = n) else if op = 3 then decide (0 < g) else decide (k ≤ (g : Int))) := Lib.hid (by rw [← HV0.out, HE.out, ← HN.out]; rfl)
        by_cases o2 : op = 2
        · subst o2
          have H := Lib.hid (HV.out.trans (if_pos rfl))
          by_cases gn : g = n
          · have H2 : Hid (v = true) := Lib.hid (by rw [H.out]; simpa using gn)
            have gb : ((g : Int) == (n : Int)) = true := by simp; omega
            clear gn
            (try simp only [nsl, Value.cells, unB] at st)
            (try clear hc); have hc := st.facts; (try simp only [nfl, nft, Nat.reduceAdd] at hc)
            go_wp2_with fail
            go_ret
            exact ⟨by rw [H2.out] <;> first | rfl | (simp; omega) | simp, st.ext0⟩
          · have H2 : Hid (v = false) := Lib.hid (by rw [H.out]; simpa using gn)
            have gb : ((g : Int) == (n : Int)) = false := by simp; omega
            clear gn
            (try simp only [nsl, Value.cells, unB] at st)
            (try clear hc); have hc := st.facts; (try simp only [nfl, nft, Nat.reduceAdd] at hc)
            go_wp2_with fail
            go_ret
            exact ⟨by rw [H2.out] <;> first | rfl | (simp; omega) | simp, st.ext0⟩
        · have hb2 : (op == 2) = false := by simpa using o2
          by_cases o3 : op = 3
          · subst o3
            have H := Lib.hid (HV.out.trans ((if_neg (by decide)).trans (if_pos rfl)))
            clear o2
            by_cases gn : 0 < g
            · have H2 : Hid (v = true) := Lib.hid (by rw [H.out]; simpa using gn)
              have gi : (0 : Int) < (g : Int) := by omega
              clear gn
              (try simp only [nsl, Value.cells, unB] at st)
              (try clear hc); have hc := st.facts; (try simp only [nfl, nft, Nat.reduceAdd] at hc)
              go_wp2_with fail
              go_ret
              exact ⟨by rw [H2.out] <;> first | rfl | (simp; omega) | simp, st.ext0⟩
            · have H2 : Hid (v = false) := Lib.hid (by rw [H.out]; simpa using gn)
              have gi : ¬ (0 : Int) < (g : Int) := by omega
              clear gn
              (try simp only [nsl, Value.cells, unB] at st)
              (try clear hc); have hc := st.facts; (try simp only [nfl, nft, Nat.reduceAdd] at hc)
              go_wp2_with fail
              go_ret
              exact ⟨by rw [H2.out] <;> first | rfl | (simp; omega) | simp, st.ext0⟩
          · have hb3 : (op == 3) = false := by simpa using o3
            have H := Lib.hid (HV.out.trans ((if_neg o2).trans (if_neg o3)))
            clear o2 o3
            by_cases gn : k ≤ (g : Int)
            · have H2 : Hid (v = true) := Lib.hid (by rw [H.out]; simpa using gn)
              (try simp only [nsl, Value.cells, unB] at st)
              (try clear hc); have hc := st.facts; (try simp only [nfl, nft, Nat.reduceAdd] at hc)
              go_wp2_with fail
              go_ret
              exact ⟨by rw [H2.out] <;> first | rfl | (simp; omega) | simp, st.ext0⟩
            · have H2 : Hid (v = false) := Lib.hid (by rw [H.out]; simpa using gn)
              (try simp only [nsl, Value.cells, unB] at st)
              (try clear hc); have hc := st.facts; (try simp only [nfl, nft, Nat.reduceAdd] at hc)
              go_wp2_with fail
              go_ret
              exact ⟨by rw [H2.out] <;> first | rfl | (simp; omega) | simp, st.ext0⟩
set_option maxRecDepth 100000 in
set_option maxHeartbeats 1000000 in
theorem fmTrue_any (F : FuncId) (cap : Array Value) (p : Role → Bool) (hi : ∀ w x, (callFunc F (#[x] ++ cap)).run Tryz.prog w = .ok (.enter F (#[x] ++ cap)) w) (f : Fm) (W : World) (h : FmOk W f) (hs : f.strip.nodes ≤ 1000000000) (hl : FoL 100000 f.strip)
    (hp : ∀ r ∈ f.strip.atoms, ∀ w, Ext W w → Calls Tryz.prog F (#[rV r] ++ cap) w fun e w' => e = .returned (.bool (p r)) ∧ Ext w w') :
    Calls Tryz.prog 35 #[fmV f, .func (.func F) #[] cap] W fun e w' => e = .returned (.bool (foR f.strip && f.strip.holds p)) ∧ Ext W w' := by
  have HR := Lib.hid (fun W' (hx : Ext W W') => fmRight_any f W' (h.ext hx) hs hl)
  have HH := Lib.hid (fun W' (hx : Ext W W') => fmHolds_any F cap p hi f W' (h.ext hx) (fun r hr w hw => hp r hr w (hx.trans hw)))
  obtain ⟨op, k, ⟨o, d⟩, a, n, c, kids⟩ := f
  generalize (Fm.mk op k (o, d) a n c kids).strip.holds p = hv at *
  generalize foR (Fm.mk op k (o, d) a n c kids).strip = rv at *
  clear h hs hl hp
  have st := Own.startOld W
  unfold fmV S at HR HH ⊢
  simp only at HR HH ⊢
  (try simp only [nsl, Value.cells, unB] at st)
  (try clear hc); have hc := st.facts; (try simp only [nfl, nft, Nat.reduceAdd] at hc)
  go_enter Tryz.func35, Tryz.ntmps35
  go_wp2_with ((((with_reducible refine wl_box ?_ (fun K hK => ?_)); rfl; refine owp_box (o := ⟨some 2, _, _, _, _, _⟩) rfl st ?_; apply Exists.intro; refine ⟨?_, ?_⟩; (focus (go_simp; try rfl)); (clear st; intro b2 w hb st; clear hb))); (try simp only [nsl, Value.cells, unB] at st); (try clear hc); have hc := st.facts; (try simp only [nfl, nft, Nat.reduceAdd] at hc))
  refine (HR.out _ st.ext0).mono ?_
  rintro en w ⟨rfl, hx⟩
  replace st := st.ext hx
  clear hx
  (try clear hc); have hc := st.facts; (try simp only [nfl, nft, Nat.reduceAdd] at hc)
  cases rv with
  | false =>
    go_wp2_with ((((with_reducible refine wl_box ?_ (fun K hK => ?_)); rfl; refine owp_box (o := ⟨some 2, _, _, _, _, _⟩) rfl st ?_; apply Exists.intro; refine ⟨?_, ?_⟩; (focus (go_simp; try rfl)); (clear st; intro b2 w hb st; clear hb))); (try simp only [nsl, Value.cells, unB] at st); (try clear hc); have hc := st.facts; (try simp only [nfl, nft, Nat.reduceAdd] at hc))
    go_ret
    exact ⟨rfl, st.ext0⟩
  | true =>
    go_wp2_with ((((with_reducible refine wl_box ?_ (fun K hK => ?_)); rfl; refine owp_box (o := ⟨some 2, _, _, _, _, _⟩) rfl st ?_; apply Exists.intro; refine ⟨?_, ?_⟩; (focus (go_simp; try rfl)); (clear st; intro b2 w hb st; clear hb))); (try simp only [nsl, Value.cells, unB] at st); (try clear hc); have hc := st.facts; (try simp only [nfl, nft, Nat.reduceAdd] at hc))
    refine (HH.out _ st.ext0).mono ?_
    rintro en w ⟨rfl, hx⟩
    replace st := st.ext hx
    clear hx
    (try clear hc); have hc := st.facts; (try simp only [nfl, nft, Nat.reduceAdd] at hc)
    go_wp2_with fail
    go_ret
    exact ⟨by simp, st.ext0⟩
end Go.Proofs.YtcihjohgmhebiaaGreat

namespace Go.Proofs.YtcihjohgmhebiaaGreat
set_option linter.unusedSimpArgs false
set_option linter.unusedVariables false
open Go Go.RowKit
def elF (w : World) (b : Nat) : List (Nat × Value) → Prop
  | [] => True
  | p :: l => w.cell? ⟨b, p.1, none⟩ = some p.2 ∧ elF w b l
theorem elF_of {w : World} {b : Nat} : ∀ {l : List (Nat × Value)}, (∀ p ∈ l, w.cell? ⟨b, p.1, none⟩ = some p.2) → elF w b l
  | [], _ => trivial
  | p :: l, h => ⟨h p (by simp), elF_of fun q hq => h q (by simp [hq])⟩
theorem elF_to {w : World} {b : Nat} : ∀ {l : List (Nat × Value)}, elF w b l → ∀ p ∈ l, w.cell? ⟨b, p.1, none⟩ = some p.2
  | [], _, p, hp => by simp at hp
  | q :: l, h, p, hp => by
    rcases List.mem_cons.1 hp with e | e
    · subst e; exact h.1
    · exact elF_to h.2 p e
def elI (b : Nat) (l : List (Nat × Value)) : It where
  P _ s w := s b ∧ ∀ p ∈ l, w.cell? ⟨b, p.1, none⟩ = some p.2
  st := fun {e s w w'} ⟨h1, h2⟩ hag => ⟨h1, fun p hp => by rw [World.cell?_of_block (w := w) (hag b (.inr h1))]; exact h2 p hp⟩
  facts w := elF w b l
  ok := fun h => elF_of h.2
theorem Own.addEl {fr al : Nat → Prop} {w0 w W : World} {L : List It} (st : Own fr al w0 L w) {i : Nat} (hi : L[i]? = some (oldI W)) (b o : Nat) (v : Value) (l : List (Nat × Value)) (h : elF W b ((o, v) :: l)) : Own fr al w0 (L ++ [elI b ((o, v) :: l)]) w :=
  st.share hi fun e s h1 => ⟨h1.1 _ (show b < _ from World.block_lt_of_cell? W ⟨b, o, none⟩ h.1), fun p hp => by
    have hb : b < W.heap.size := World.block_lt_of_cell? W ⟨b, o, none⟩ h.1
    rw [World.cell?_of_block (w := W) (h1.2.2 b hb)]
    exact elF_to h p hp⟩
end Go.Proofs.YtcihjohgmhebiaaGreat

namespace Go.Proofs.YtcihjohgmhebiaaGreat
set_option linter.unusedSimpArgs false
set_option linter.unusedVariables false
open Go Go.RowKit
/-- Has one all that another one has? -/
def wiL (a b : List Role) : Bool := a.all fun r => decide (r ∈ b)
/-- Does a list suffice? -/
def suF (f : Fo) (l : List Role) : Bool := foR f && f.holds fun r => decide (r ∈ l)
set_option maxRecDepth 100000 in
set_option maxHeartbeats 1000000 in
theorem suffices1_any (b : Nat) (a : Option Addr) (n c : Nat) (l : List Role) (r : Role) (W : World) (hb : Blk W b [.slice a n c]) (h : Fl W a n l) (hn : n ≤ 2000000) :
    Calls Tryz.prog 36 #[rV r, .pointer (some ⟨b, 0, none⟩)] W fun e w' => e = .returned (.bool (decide (r ∈ l))) ∧ Ext W w' := by
  have HH := Lib.hid (fun W' (hx : Ext W W') => roleHas_any a n c l r W' (Arr.ext h hx) hn)
  have HB := Lib.hid hb
  obtain ⟨v, hv⟩ : ∃ v, decide (r ∈ l) = v := ⟨_, rfl⟩
  rw [hv] at HH ⊢
  clear h hb hv
  obtain ⟨o, d⟩ := r
  have st := Own.startOld W
  unfold rV S at HH ⊢
  simp only at HH ⊢
  have r0 := HB.out.cell 0
  simp only [List.getElem?_cons_zero] at r0
  have hr0 := st.addEl (i := 0) get0 b 0 (.slice a n c) [] ⟨r0, trivial⟩
  replace st := hr0
  clear r0 hr0
  simp only [List.cons_append, List.nil_append] at st
  (try simp only [nsl, Value.cells, unB] at st)
  (try clear hc); have hc := st.facts; (try simp only [nfl, nft, elI, elF, Nat.reduceAdd] at hc)
  go_enter Tryz.func36, Tryz.ntmps36
  go_wp2_with ((((with_reducible refine wl_box ?_ (fun K hK => ?_)); rfl; refine owp_box (o := ⟨some 2, _, _, _, _, _⟩) rfl st ?_; apply Exists.intro; refine ⟨?_, ?_⟩; (focus (go_simp; try rfl)); (clear st; intro b2 w hb st; clear hb))); (try simp only [nsl, Value.cells, unB] at st); (try clear hc); have hc := st.facts; (try simp only [nfl, nft, elI, elF, Nat.reduceAdd] at hc))
  refine (HH.out _ st.ext0).mono ?_
  rintro en w ⟨rfl, hx⟩
  replace st := st.ext hx
  clear hx
  (try clear hc); have hc := st.facts; (try simp only [nfl, nft, elI, elF, Nat.reduceAdd] at hc)
  go_wp2_with ((((with_reducible refine wl_box ?_ (fun K hK => ?_)); rfl; refine owp_box (o := ⟨some 2, _, _, _, _, _⟩) rfl st ?_; apply Exists.intro; refine ⟨?_, ?_⟩; (focus (go_simp; try rfl)); (clear st; intro b2 w hb st; clear hb))); (try simp only [nsl, Value.cells, unB] at st); (try clear hc); have hc := st.facts; (try simp only [nfl, nft, elI, elF, Nat.reduceAdd] at hc))
  go_ret
  exact ⟨by simp, st.ext0⟩
set_option maxRecDepth 100000 in
set_option maxHeartbeats 1000000 in
theorem within1_any (b : Nat) (a : Option Addr) (n c : Nat) (l : List Role) (r : Role) (W : World) (hb : Blk W b [.slice a n c]) (h : Fl W a n l) (hn : n ≤ 2000000) :
    Calls Tryz.prog 30 #[rV r, .pointer (some ⟨b, 0, none⟩)] W fun e w' => e = .returned (.bool (!decide (r ∈ l))) ∧ Ext W w' := by
  have HH := Lib.hid (fun W' (hx : Ext W W') => roleHas_any a n c l r W' (Arr.ext h hx) hn)
  have HB := Lib.hid hb
  obtain ⟨v, hv⟩ : ∃ v, decide (r ∈ l) = v := ⟨_, rfl⟩
  rw [hv] at HH ⊢
  clear h hb hv
  obtain ⟨o, d⟩ := r
  have st := Own.startOld W
  unfold rV S at HH ⊢
  simp only at HH ⊢
  have r0 := HB.out.cell 0
  simp only [List.getElem?_cons_zero] at r0
  have hr0 := st.addEl (i := 0) get0 b 0 (.slice a n c) [] ⟨r0, trivial⟩
  replace st := hr0
  clear r0 hr0
  simp only [List.cons_append, List.nil_append] at st
  (try simp only [nsl, Value.cells, unB] at st)
  (try clear hc); have hc := st.facts; (try simp only [nfl, nft, elI, elF, Nat.reduceAdd] at hc)
  go_enter Tryz.func30, Tryz.ntmps30
  go_wp2_with ((((with_reducible refine wl_box ?_ (fun K hK => ?_)); rfl; refine owp_box (o := ⟨some 2, _, _, _, _, _⟩) rfl st ?_; apply Exists.intro; refine ⟨?_, ?_⟩; (focus (go_simp; try rfl)); (clear st; intro b2 w hb st; clear hb))); (try simp only [nsl, Value.cells, unB] at st); (try clear hc); have hc := st.facts; (try simp only [nfl, nft, elI, elF, Nat.reduceAdd] at hc))
  refine (HH.out _ st.ext0).mono ?_
  rintro en w ⟨rfl, hx⟩
  replace st := st.ext hx
  clear hx
  (try clear hc); have hc := st.facts; (try simp only [nfl, nft, elI, elF, Nat.reduceAdd] at hc)
  go_wp2_with ((((with_reducible refine wl_box ?_ (fun K hK => ?_)); rfl; refine owp_box (o := ⟨some 2, _, _, _, _, _⟩) rfl st ?_; apply Exists.intro; refine ⟨?_, ?_⟩; (focus (go_simp; try rfl)); (clear st; intro b2 w hb st; clear hb))); (try simp only [nsl, Value.cells, unB] at st); (try clear hc); have hc := st.facts; (try simp only [nfl, nft, elI, elF, Nat.reduceAdd] at hc))
  go_ret
  exact ⟨by simp, st.ext0⟩
set_option maxRecDepth 100000 in
set_option maxHeartbeats 1000000 in
theorem roleIndexFunc_any (a : Option Addr) (n c : Nat) (xs : List Role) (W : World) (h : Fl W a n xs) (hn : n ≤ 2000000) (F : FuncId) (cap : Array Value) (p : Role → Bool)
    (hi : ∀ w x, (callFunc F (#[x] ++ cap)).run Tryz.prog w = .ok (.enter F (#[x] ++ cap)) w)
    (hp : ∀ x ∈ xs, ∀ w, Ext W w → Calls Tryz.prog F (#[rV x] ++ cap) w fun e w' => e = .returned (.bool (p x)) ∧ Ext w w') :
    Calls Tryz.prog 51 #[.slice a n c, .func (.func F) #[] cap] W fun e w' => ∃ v : Int, e = .returned (.int .i64 v) ∧ (0 ≤ v ↔ xs.any p = true) ∧ Ext W w' := by
  have HP := Lib.hid hp
  have H := Lib.hid h
  have HN := Lib.hid h.1
  have st := Own.startOld W
  clear hp h
  (try simp only [nsl, Value.cells, unB] at st)
  (try clear hc); have hc := st.facts; (try simp only [nfl, nft, elI, elF, Nat.reduceAdd] at hc)
  go_enter Tryz.func51, Tryz.ntmps51
  go_wp2_with fail
  go_loopg [8] n (fun k i wr => ∃ (j : Nat), j ≤ n ∧ k = n - j ∧ i = .int .i64 (j : Int) ∧ Hid (∀ x ∈ xs.take j, p x = false) ∧ Own (fun _ => False) (fun _ => True) W [oldI W] wr)
  case atStart => exact ⟨0, by omega, by omega, rfl, Lib.hid (by simp), st⟩
  case round =>
    obtain ⟨j, hj, rfl, rfl, HT, st'⟩ := hrel
    clear st hc
    have st := st'
    clear st'
    (try simp only [nsl, Value.cells, unB] at st)
    (try clear hc); have hc := st.facts; (try simp only [nfl, nft, elI, elF, Nat.reduceAdd] at hc)
    by_cases hjn : j < n
    · obtain ⟨b, off, ha, hcell⟩ := (st.oldFl (i := 0) get0 H.out).role (by omega)
      have hjl : j < xs.length := by have := HN.out; omega
      have hgt := List.getElem?_eq_getElem hjl
      have hts : xs.take (j + 1) = xs.take j ++ [xs[j]] := (List.take_append_getElem hjl).symm
      have hx := HP.out xs[j] (List.getElem_mem hjl)
      have hmem := List.getElem_mem hjl
      generalize xs[j] = x at *
      have HX := Lib.hid (And.intro hts hmem)
      clear hts hmem hjl
      obtain ⟨pv, hpv⟩ : ∃ v, p x = v := ⟨_, rfl⟩
      rw [hpv] at hx
      have HPV := Lib.hid hpv
      clear hpv
      obtain ⟨o, d⟩ := x
      obtain ⟨r0, r1⟩ := hcell j (o, d) hgt
      clear hcell hgt
      subst ha
      unfold rV S at hx
      unfold S at r0 r1
      simp only at hx r0 r1
      have HQ := Lib.hid hx
      clear hx
      go_wp2_with fail
      refine (HQ.out _ st.ext0).mono ?_
      rintro en w ⟨rfl, hx⟩
      replace st := st.ext hx
      clear hx r0 r1
      cases pv with
      | true =>
        have HF : Hid (xs.any p = true) := Lib.hid (List.any_eq_true.2 ⟨_, HX.out.2, HPV.out⟩)
        go_wp2_with fail
        go_ret
        exact ⟨_, rfl, ⟨fun _ => HF.out, fun _ => by omega⟩, st.ext0⟩
      | false =>
        have HF : Hid (∀ x ∈ xs.take (j + 1), p x = false) := Lib.hid (fun x hx => by
          rw [HX.out.1] at hx
          rcases List.mem_append.1 hx with q | q
          · exact HT.out x q
          · rw [List.mem_singleton.1 q]; exact HPV.out)
        go_wp2_with fail
        go_roundg (n - (j + 1))
        case measure => omega
        case rel => exact ⟨j + 1, by omega, by omega, by go_num, HF, st⟩
    · obtain rfl : j = n := by omega
      have HF : Hid (xs.any p = false) := Lib.hid (by
        rw [List.any_eq_false]
        intro x hx
        have := HT.out x (by rw [List.take_of_length_le (by have := HN.out; omega)]; exact hx)
        simp [this])
      go_wp2_with fail
      go_ret
      exact ⟨_, rfl, ⟨fun q => by omega, fun q => by rw [HF.out] at q; cases q⟩, st.ext0⟩
set_option maxRecDepth 100000 in
set_option maxHeartbeats 1000000 in
theorem roleContainsFunc_any (a : Option Addr) (n c : Nat) (xs : List Role) (W : World) (h : Fl W a n xs) (hn : n ≤ 2000000) (F : FuncId) (cap : Array Value) (p : Role → Bool)
    (hi : ∀ w x, (callFunc F (#[x] ++ cap)).run Tryz.prog w = .ok (.enter F (#[x] ++ cap)) w)
    (hp : ∀ x ∈ xs, ∀ w, Ext W w → Calls Tryz.prog F (#[rV x] ++ cap) w fun e w' => e = .returned (.bool (p x)) ∧ Ext w w') :
    Calls Tryz.prog 28 #[.slice a n c, .func (.func F) #[] cap] W fun e w' => e = .returned (.bool (xs.any p)) ∧ Ext W w' := by
  have HI := Lib.hid (roleIndexFunc_any a n c xs W h hn F cap p hi hp)
  obtain ⟨r, hr⟩ : ∃ r, xs.any p = r := ⟨_, rfl⟩
  rw [hr] at HI ⊢
  clear hp h hi hr
  go_enter Tryz.func28, Tryz.ntmps28
  go_wp2_with fail
  refine HI.out.mono ?_
  rintro en w' ⟨v, rfl, hv, hx⟩
  by_cases h0 : 0 ≤ v
  · have hr : r = true := hv.1 h0
    subst hr
    clear hv
    go_wp2_with fail
    go_ret
    exact ⟨by simp [h0], hx⟩
  · have hr : r = false := by cases r with | false => rfl | true => exact absurd (hv.2 rfl) h0
    subst hr
    clear hv
    go_wp2_with fail
    go_ret
    exact ⟨by simp; omega, hx⟩
set_option maxRecDepth 100000 in
set_option maxHeartbeats 1000000 in
theorem setsWithin_any (a : Option Addr) (n c : Nat) (xs : List Role) (a2 : Option Addr) (n2 c2 : Nat) (ys : List Role) (W : World) (h : Fl W a n xs) (h2 : Fl W a2 n2 ys) (hn : n ≤ 2000000) (hn2 : n2 ≤ 2000000) :
    Calls Tryz.prog 10 #[.slice a n c, .slice a2 n2 c2] W fun e w' => e = .returned (.bool (wiL xs ys)) ∧ Ext W w' := by
  have HC := Lib.hid (fun (b : Nat) W' (hx : Ext W W') (hb : Blk W' b [.slice a2 n2 c2]) => roleContainsFunc_any a n c xs W' (Arr.ext h hx) hn 30 #[.pointer (some ⟨b, 0, none⟩)] (fun r => !decide (r ∈ ys)) (fun _ _ => by kernel_rfl)
    (fun x _ w hw => within1_any b a2 n2 c2 ys x w (hb.ext hw) (Arr.ext h2 (hx.trans hw)) hn2))
  have HV : Hid (wiL xs ys = !(xs.any fun r => !decide (r ∈ ys))) := Lib.hid (by unfold wiL; rw [← List.not_all_eq_any_not, Bool.not_not])
  obtain ⟨u, hu⟩ : ∃ u, (xs.any fun r => !decide (r ∈ ys)) = u := ⟨_, rfl⟩
  obtain ⟨v, hv⟩ : ∃ u, wiL xs ys = u := ⟨_, rfl⟩
  rw [hu] at HC HV
  rw [hv] at HV ⊢
  clear h h2 hu hv
  have st := Own.startOld W
  (try simp only [nsl, Value.cells, unB] at st)
  (try clear hc); have hc := st.facts; (try simp only [nfl, nft, elI, elF, Nat.reduceAdd] at hc)
  go_enter Tryz.func10, Tryz.ntmps10
  go_wp2_with ((((with_reducible refine wl_box ?_ (fun K hK => ?_)); rfl; refine owp_box (o := ⟨some 3, _, _, _, _, _⟩) rfl st ?_; apply Exists.intro; refine ⟨?_, ?_⟩; (focus (go_simp; try rfl)); (clear st; intro b3 w hb st; clear hb))); (try simp only [nsl, Value.cells, unB] at st); (try clear hc); have hc := st.facts; (try simp only [nfl, nft, elI, elF, Nat.reduceAdd] at hc))
  refine (HC.out _ _ st.ext0 (st.blk (i := 1) get1)).mono ?_
  rintro en w ⟨rfl, hx⟩
  replace st := st.ext hx
  clear hx
  (try clear hc); have hc := st.facts; (try simp only [nfl, nft, elI, elF, Nat.reduceAdd] at hc)
  go_wp2_with ((((with_reducible refine wl_box ?_ (fun K hK => ?_)); rfl; refine owp_box (o := ⟨some 3, _, _, _, _, _⟩) rfl st ?_; apply Exists.intro; refine ⟨?_, ?_⟩; (focus (go_simp; try rfl)); (clear st; intro b3 w hb st; clear hb))); (try simp only [nsl, Value.cells, unB] at st); (try clear hc); have hc := st.facts; (try simp only [nfl, nft, elI, elF, Nat.reduceAdd] at hc))
  go_ret
  exact ⟨by rw [HV.out] <;> rfl, st.ext0⟩
set_option maxRecDepth 100000 in
set_option maxHeartbeats 1000000 in
theorem setsSuffices_any (f : Fm) (a : Option Addr) (n c : Nat) (l : List Role) (W : World) (hf : FmOk W f) (h : Fl W a n l) (hn : n ≤ 2000000) (hs : f.strip.nodes ≤ 1000000000) (hl : FoL 100000 f.strip) :
    Calls Tryz.prog 13 #[fmV f, .slice a n c] W fun e w' => e = .returned (.bool (suF f.strip l)) ∧ Ext W w' := by
  have HT := Lib.hid (fun (b : Nat) W' (hx : Ext W W') (hb : Blk W' b [.slice a n c]) => fmTrue_any 36 #[.pointer (some ⟨b, 0, none⟩)] (fun r => decide (r ∈ l)) (fun _ _ => by kernel_rfl) f W' (hf.ext hx) hs hl
    (fun r _ w hw => suffices1_any b a n c l r w (hb.ext hw) (Arr.ext h (hx.trans hw)) hn))
  have HV : Hid (suF f.strip l = (foR f.strip && f.strip.holds fun r => decide (r ∈ l))) := Lib.hid rfl
  obtain ⟨v, hv⟩ : ∃ u, suF f.strip l = u := ⟨_, rfl⟩
  rw [← HV.out, hv] at HT
  rw [hv]
  clear hf h hs hl HV hv
  obtain ⟨op, k, ⟨o, d⟩, fa, fn, fc, kids⟩ := f
  unfold fmV S at HT ⊢
  simp only at HT ⊢
  have st := Own.startOld W
  (try simp only [nsl, Value.cells, unB] at st)
  (try clear hc); have hc := st.facts; (try simp only [nfl, nft, elI, elF, Nat.reduceAdd] at hc)
  go_enter Tryz.func13, Tryz.ntmps13
  go_wp2_with ((first
        | ((with_reducible refine wl_box ?_ (fun K hK => ?_)); rfl; refine owp_box (o := ⟨some 2, _, _, _, _, _⟩) rfl st ?_; apply Exists.intro; refine ⟨?_, ?_⟩; (focus (go_simp; try rfl)); (clear st; intro b2 w hb st; clear hb))
        | ((with_reducible refine wl_box ?_ (fun K hK => ?_)); rfl; refine owp_box (o := ⟨some 3, _, _, _, _, _⟩) rfl st ?_; apply Exists.intro; refine ⟨?_, ?_⟩; (focus (go_simp; try rfl)); (clear st; intro b3 w hb st; clear hb))); (try simp only [nsl, Value.cells, unB] at st); (try clear hc); have hc := st.facts; (try simp only [nfl, nft, elI, elF, Nat.reduceAdd] at hc))
  refine (HT.out _ _ st.ext0 (st.blk (i := 2) get2)).mono ?_
  rintro en w ⟨rfl, hx⟩
  replace st := st.ext hx
  clear hx
  (try clear hc); have hc := st.facts; (try simp only [nfl, nft, elI, elF, Nat.reduceAdd] at hc)
  go_wp2_with ((first
        | ((with_reducible refine wl_box ?_ (fun K hK => ?_)); rfl; refine owp_box (o := ⟨some 2, _, _, _, _, _⟩) rfl st ?_; apply Exists.intro; refine ⟨?_, ?_⟩; (focus (go_simp; try rfl)); (clear st; intro b2 w hb st; clear hb))
        | ((with_reducible refine wl_box ?_ (fun K hK => ?_)); rfl; refine owp_box (o := ⟨some 3, _, _, _, _, _⟩) rfl st ?_; apply Exists.intro; refine ⟨?_, ?_⟩; (focus (go_simp; try rfl)); (clear st; intro b3 w hb st; clear hb))); (try simp only [nsl, Value.cells, unB] at st); (try clear hc); have hc := st.facts; (try simp only [nfl, nft, elI, elF, Nat.reduceAdd] at hc))
  go_ret
  exact ⟨rfl, st.ext0⟩
end Go.Proofs.YtcihjohgmhebiaaGreat
