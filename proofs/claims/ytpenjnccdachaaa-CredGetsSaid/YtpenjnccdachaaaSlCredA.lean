/- Lists of credentials: the reference's Has, Same; Index and Contains. -/
import Derived.Test.YtpenjnccdachaaaSlCredC
namespace Go.Proofs.Ytpenjnccdachaaa
set_option linter.unusedSimpArgs false
set_option linter.unusedVariables false
open Go Go.RowKit
theorem Fl.cred {w : World} {a : Option Addr} {n : Nat} {xs : List CredT} (h : Fl w a n xs) (h0 : 0 < n) : ∃ b off, a = some ⟨b, off, none⟩ ∧ ∀ j x, xs[j]? = some x → w.cell? ⟨b, off + j * 9, none⟩ = some (.int .i64 x.k) ∧ w.cell? ⟨b, off + j * 9 + 1, none⟩ = some (S x.h.1) ∧ w.cell? ⟨b, off + j * 9 + 2, none⟩ = some (S x.h.2) ∧ w.cell? ⟨b, off + j * 9 + 3, none⟩ = some (S x.w) ∧ w.cell? ⟨b, off + j * 9 + 4, none⟩ = some (S x.b.1) ∧ w.cell? ⟨b, off + j * 9 + 5, none⟩ = some (S x.b.2) ∧ w.cell? ⟨b, off + j * 9 + 6, none⟩ = some (S x.c.1) ∧ w.cell? ⟨b, off + j * 9 + 7, none⟩ = some (S x.c.2) ∧ w.cell? ⟨b, off + j * 9 + 8, none⟩ = some (S x.e) := by
  obtain ⟨b, off, rfl, hc⟩ := h.2 h0
  exact ⟨b, off, rfl, fun j x hj => ⟨hc j x hj 0 _ rfl, hc j x hj 1 _ rfl, hc j x hj 2 _ rfl, hc j x hj 3 _ rfl, hc j x hj 4 _ rfl, hc j x hj 5 _ rfl, hc j x hj 6 _ rfl, hc j x hj 7 _ rfl, hc j x hj 8 _ rfl⟩⟩
set_option maxRecDepth 100000 in
set_option maxHeartbeats 1000000 in
theorem refCredHas_any (a : Option Addr) (n c : Nat) (l : List CredT) (y : CredT) (W : World) (h : Fl W a n l) (hn : n ≤ 2000000) :
    Calls Try.prog 82 #[.slice a n c, cV y] W fun e w' => e = .returned (.bool (decide (y ∈ l))) ∧ Ext W w' := by
  have H := Lib.hid h
  have HNL := Lib.hid h.1
  clear h
  obtain ⟨kk, ⟨ho, hd⟩, nw, ⟨bo, bd⟩, ⟨co, cd⟩, we⟩ := y
  have st := Own.startOld W
  unfold cV S
  (try simp only [Value.cells, List.cons_append, List.nil_append, List.set, spl, putIt, pick, List.map_cons, List.map_nil, List.getElem?_cons_zero, List.getElem?_cons_succ, Option.getD_some, List.drop_succ_cons, List.drop_zero, List.drop_nil, List.append_nil, unB] at st)
  (try clear hc); have hc := st.facts; (try simp only [factsOf, blkI, blkFacts, rowI, byI, datI, nullI, oldI, penI, rdI, rdAnyI, rdOverI, Nat.zero_add, Nat.reduceAdd, and_true, true_and, and_self] at hc)
  go_enter Try.func82, Try.ntmps82
  go_wp2_with ((((with_reducible refine wl_box ?_ (fun K hK => ?_)); rfl; refine owp_box (o := ⟨some 3, _, _, _, _, _⟩) rfl st ?_; apply Exists.intro; refine ⟨?_, ?_⟩; (focus (go_simp; try rfl)); (clear st; intro b3 w hb st; clear hb))); (try simp only [Value.cells, List.cons_append, List.nil_append, List.set, spl, putIt, pick, List.map_cons, List.map_nil, List.getElem?_cons_zero, List.getElem?_cons_succ, Option.getD_some, List.drop_succ_cons, List.drop_zero, List.drop_nil, List.append_nil, unB] at st); (try clear hc); have hc := st.facts; (try simp only [factsOf, blkI, blkFacts, rowI, byI, datI, nullI, oldI, penI, rdI, rdAnyI, rdOverI, Nat.zero_add, Nat.reduceAdd, and_true, true_and, and_self] at hc))
  go_loopg [9] n (fun k i wr => ∃ (j : Nat), j ≤ n ∧ k = n - j ∧ i = .int .i64 (j : Int) ∧ Hid ((⟨kk, (ho, hd), nw, (bo, bd), (co, cd), we⟩ : CredT) ∉ l.take j) ∧ Own (fun _ => False) (fun _ => True) W [oldI W, blkI b3 [.int .i64 kk, S ho, S hd, S nw, S bo, S bd, S co, S cd, S we]] wr)
  case atStart => exact ⟨0, by omega, by omega, rfl, Lib.hid (by simp), st⟩
  case round =>
    obtain ⟨j, hj, rfl, rfl, HT, st'⟩ := hrel
    clear st hc
    have st := st'
    clear st'
    unfold S at st
    (try simp only [Value.cells, List.cons_append, List.nil_append, List.set, spl, putIt, pick, List.map_cons, List.map_nil, List.getElem?_cons_zero, List.getElem?_cons_succ, Option.getD_some, List.drop_succ_cons, List.drop_zero, List.drop_nil, List.append_nil, unB] at st)
    (try clear hc); have hc := st.facts; (try simp only [factsOf, blkI, blkFacts, rowI, byI, datI, nullI, oldI, penI, rdI, rdAnyI, rdOverI, Nat.zero_add, Nat.reduceAdd, and_true, true_and, and_self] at hc)
    by_cases hjn : j < n
    · obtain ⟨b, off, ha, hcell⟩ := H.out.cred (by omega)
      have hjl : j < l.length := by have := HNL.out; omega
      have r0 := st.oldCell (i := 0) get0 (hcell j l[j] (List.getElem?_eq_getElem hjl)).1
      have r1 := st.oldCell (i := 0) get0 (hcell j l[j] (List.getElem?_eq_getElem hjl)).2.1
      have r2 := st.oldCell (i := 0) get0 (hcell j l[j] (List.getElem?_eq_getElem hjl)).2.2.1
      have r3 := st.oldCell (i := 0) get0 (hcell j l[j] (List.getElem?_eq_getElem hjl)).2.2.2.1
      have r4 := st.oldCell (i := 0) get0 (hcell j l[j] (List.getElem?_eq_getElem hjl)).2.2.2.2.1
      have r5 := st.oldCell (i := 0) get0 (hcell j l[j] (List.getElem?_eq_getElem hjl)).2.2.2.2.2.1
      have r6 := st.oldCell (i := 0) get0 (hcell j l[j] (List.getElem?_eq_getElem hjl)).2.2.2.2.2.2.1
      have r7 := st.oldCell (i := 0) get0 (hcell j l[j] (List.getElem?_eq_getElem hjl)).2.2.2.2.2.2.2.1
      have r8 := st.oldCell (i := 0) get0 (hcell j l[j] (List.getElem?_eq_getElem hjl)).2.2.2.2.2.2.2.2
      have hts : l.take (j + 1) = l.take j ++ [l[j]] := (List.take_append_getElem hjl).symm
      have hmem := List.getElem_mem hjl
      clear hcell
      generalize l[j] = x at *
      obtain ⟨kk', ⟨ho', hd'⟩, nw', ⟨bo', bd'⟩, ⟨co', cd'⟩, we'⟩ := x
      have HX := Lib.hid (And.intro hts hmem)
      clear hts hmem
      subst ha
      simp only at r0 r1 r2 r3 r4 r5 r6 r7 r8
      unfold S at r1 r2 r3 r4 r5 r6 r7 r8
      cases hr : credEq (⟨kk', (ho', hd'), nw', (bo', bd'), (co', cd'), we'⟩ : CredT) (⟨kk, (ho, hd), nw, (bo, bd), (co, cd), we⟩ : CredT) with
      | true =>
        have HF : Hid (decide ((⟨kk, (ho, hd), nw, (bo, bd), (co, cd), we⟩ : CredT) ∈ l) = true) := Lib.hid (by rw [credEq_eq, decide_eq_true_eq] at hr; have := HX.out.2; rw [hr] at this; simpa using this)
        go_wp2_with ((first
              | ((with_reducible refine wl_alloc ?_ (fun K hK => ?_)); rfl; refine owp_alloc (o := ⟨some 6, _, _, _, _, _⟩) rfl st ?_; apply Exists.intro; apply Exists.intro; refine ⟨?_, ?_⟩; (focus (first | (go_simp; done) | (go_simp; rfl))); (clear st; intro b6 w hb st; clear hb))
              | ((with_reducible refine wl_store ?_ (fun K hK => ?_)); rfl; refine owp_store rfl st ?_; apply Exists.intro; apply Exists.intro; refine ⟨?_, ?_, ?_⟩; (focus (go_simp; try rfl)); (focus (go_simp; try rfl)); (with_reducible refine ⟨2, _, _, _, _, get2, rfl, rfl, ?_, ?_, ?_, ?_⟩); (kernel_rfl); (simp [Value.cells]); (rfl); (clear st; intro w st))); (try simp only [Value.cells, List.cons_append, List.nil_append, List.set, spl, putIt, pick, List.map_cons, List.map_nil, List.getElem?_cons_zero, List.getElem?_cons_succ, Option.getD_some, List.drop_succ_cons, List.drop_zero, List.drop_nil, List.append_nil, unB] at st); (try clear hc); have hc := st.facts; (try simp only [factsOf, blkI, blkFacts, rowI, byI, datI, nullI, oldI, penI, rdI, rdAnyI, rdOverI, Nat.zero_add, Nat.reduceAdd, and_true, true_and, and_self] at hc))
        go_ret
        exact ⟨by rw [HF.out]; rfl, st.ext0⟩
      | false =>
        have HF : Hid ((⟨kk, (ho, hd), nw, (bo, bd), (co, cd), we⟩ : CredT) ∉ l.take (j + 1)) := Lib.hid (by
          rw [credEq_eq, decide_eq_false_iff_not] at hr
          rw [HX.out.1]
          intro q
          rcases List.mem_append.1 q with q | q
          · exact HT.out q
          · exact hr (List.mem_singleton.1 q).symm)
        go_wp2_with ((first
              | ((with_reducible refine wl_alloc ?_ (fun K hK => ?_)); rfl; refine owp_alloc (o := ⟨some 6, _, _, _, _, _⟩) rfl st ?_; apply Exists.intro; apply Exists.intro; refine ⟨?_, ?_⟩; (focus (first | (go_simp; done) | (go_simp; rfl))); (clear st; intro b6 w hb st; clear hb))
              | ((with_reducible refine wl_store ?_ (fun K hK => ?_)); rfl; refine owp_store rfl st ?_; apply Exists.intro; apply Exists.intro; refine ⟨?_, ?_, ?_⟩; (focus (go_simp; try rfl)); (focus (go_simp; try rfl)); (with_reducible refine ⟨2, _, _, _, _, get2, rfl, rfl, ?_, ?_, ?_, ?_⟩); (kernel_rfl); (simp [Value.cells]); (rfl); (clear st; intro w st))); (try simp only [Value.cells, List.cons_append, List.nil_append, List.set, spl, putIt, pick, List.map_cons, List.map_nil, List.getElem?_cons_zero, List.getElem?_cons_succ, Option.getD_some, List.drop_succ_cons, List.drop_zero, List.drop_nil, List.append_nil, unB] at st); (try clear hc); have hc := st.facts; (try simp only [factsOf, blkI, blkFacts, rowI, byI, datI, nullI, oldI, penI, rdI, rdAnyI, rdOverI, Nat.zero_add, Nat.reduceAdd, and_true, true_and, and_self] at hc))
        have st' := st.keep [0, 1] (by decide) (by simp)
        go_roundg (n - (j + 1))
        case measure => omega
        case rel => exact ⟨j + 1, by omega, by omega, by first | rfl | trivial | go_num, HF, by simpa [pick, S] using st'⟩
    · obtain rfl : j = n := by omega
      have HF : Hid (decide ((⟨kk, (ho, hd), nw, (bo, bd), (co, cd), we⟩ : CredT) ∈ l) = false) := Lib.hid (by rw [decide_eq_false_iff_not]; have := HT.out; rwa [List.take_of_length_le (by have := HNL.out; omega)] at this)
      go_wp2_with fail
      go_ret
      exact ⟨by rw [HF.out]; rfl, st.ext0⟩
set_option maxRecDepth 100000 in
set_option maxHeartbeats 1000000 in
theorem refCredSame_any (a : Option Addr) (n c : Nat) (l : List CredT) (a' : Option Addr) (n' c' : Nat) (l' : List CredT) (W : World) (h : Fl W a n l) (h' : Fl W a' n' l') (hn : n ≤ 9000000000000000000) (hn' : n' ≤ 9000000000000000000) :
    Calls Try.prog 78 #[.slice a n c, .slice a' n' c'] W fun e w' => e = .returned (.bool (decide (l = l'))) ∧ Ext W w' := by
  have H := Lib.hid h
  have H' := Lib.hid h'
  have HNL := Lib.hid (And.intro h.1 h'.1)
  clear h h'
  have st := Own.startOld W
  (try simp only [Value.cells, List.cons_append, List.nil_append, List.set, spl, putIt, pick, List.map_cons, List.map_nil, List.getElem?_cons_zero, List.getElem?_cons_succ, Option.getD_some, List.drop_succ_cons, List.drop_zero, List.drop_nil, List.append_nil, unB] at st)
  (try clear hc); have hc := st.facts; (try simp only [factsOf, blkI, blkFacts, rowI, byI, datI, nullI, oldI, penI, rdI, rdAnyI, rdOverI, Nat.zero_add, Nat.reduceAdd, and_true, true_and, and_self] at hc)
  by_cases hnn : n = n'
  · subst hnn
    go_enter Try.func78, Try.ntmps78
    go_wp2_with fail
    go_loopw [13] (fun i wr => ∃ (j : Nat), j ≤ n ∧ i = .int .i64 (j : Int) ∧ Hid (l.take j = l'.take j) ∧ Own (fun _ => False) (fun _ => True) W [oldI W] wr) (fun i _ => n - (intOf i).toNat)
    case atStart => exact ⟨0, by omega, rfl, Lib.hid (by simp), st⟩
    case round =>
      obtain ⟨j, hj, rfl, HT, st'⟩ := hrel
      clear st hc
      have st := st'
      clear st'
      (try simp only [Value.cells, List.cons_append, List.nil_append, List.set, spl, putIt, pick, List.map_cons, List.map_nil, List.getElem?_cons_zero, List.getElem?_cons_succ, Option.getD_some, List.drop_succ_cons, List.drop_zero, List.drop_nil, List.append_nil, unB] at st)
      (try clear hc); have hc := st.facts; (try simp only [factsOf, blkI, blkFacts, rowI, byI, datI, nullI, oldI, penI, rdI, rdAnyI, rdOverI, Nat.zero_add, Nat.reduceAdd, and_true, true_and, and_self] at hc)
      by_cases hjn : j < n
      · obtain ⟨b, off, ha, hcell⟩ := H.out.cred (by omega)
        obtain ⟨b', off', ha', hcell'⟩ := H'.out.cred (by omega)
        have hjl : j < l.length := by have := HNL.out; omega
        have hjl' : j < l'.length := by have := HNL.out; omega
        have HC := Lib.hid (And.intro (hcell j l[j] (List.getElem?_eq_getElem hjl)) (hcell' j l'[j] (List.getElem?_eq_getElem hjl')))
        have hts : l.take (j + 1) = l.take j ++ [l[j]] := (List.take_append_getElem hjl).symm
        have hts' : l'.take (j + 1) = l'.take j ++ [l'[j]] := (List.take_append_getElem hjl').symm
        have hne : l[j] ≠ l'[j] → l ≠ l' := fun h1 h2 => h1 (by subst h2; rfl)
        clear hcell hcell'
        generalize l[j] = x at *
        generalize l'[j] = y at *
        obtain ⟨kk, ⟨ho, hd⟩, nw, ⟨bo, bd⟩, ⟨co, cd⟩, we⟩ := x
        obtain ⟨kk', ⟨ho', hd'⟩, nw', ⟨bo', bd'⟩, ⟨co', cd'⟩, we'⟩ := y
        have HX := Lib.hid (And.intro hts (And.intro hts' hne))
        clear hts hts' hne
        subst ha
        subst ha'
        simp only at HC
        unfold S at HC
        go_wp2_with fail
        refine Rg4.wp_region4_eq #[0, 0, 3, 7, 0, 0, 48, 112, 255] [] [3, 7] (fun _ => True) [0, 1, 2, 3, 4, 5, 6, 7, 8] (by kernel_rfl) (by kernel_rfl) (by kernel_rfl) (by kernel_rfl) (show Rg4.PB _ by repeat (first | with_reducible exact Rg4.pb_body | with_reducible exact Rg4.pb_bodyD rfl | with_reducible refine Rg4.pb_then ?_ | with_reducible refine Rg4.pb_inBlock ?_ | with_reducible refine Rg4.pb_noGoto ?_)) (trivial) ?_
        replace st := st.drew
        change Rg4.wp4 _ _ _ _ _ _ _ _ _ (World.drew _) _ _
        generalize World.drew _ = w at st ⊢
        (try clear hc); have hc := st.facts; (try simp only [factsOf, blkI, blkFacts, rowI, byI, datI, nullI, oldI, penI, rdI, rdAnyI, rdOverI, Nat.zero_add, Nat.reduceAdd, and_true, true_and, and_self] at hc)
        (refine Rg4.w4_any (Rg4.want_none rfl) rfl ?_; apply Exists.intro; refine ⟨fun w' => ?_, ?_⟩; (focus (first | (go_simp; done) | (go_simp; first | rfl | (rw [if_neg] <;> first | rfl | omega) | (rw [if_pos] <;> first | rfl | omega)))); (try simp only [Act.put, List.setIfInBounds_toArray, List.set]))
        (refine Rg4.w4_any (Rg4.want_none rfl) rfl ?_; apply Exists.intro; refine ⟨fun w' => ?_, ?_⟩; (focus (first | (go_simp; done) | (go_simp; first | rfl | (rw [if_neg] <;> first | rfl | omega) | (rw [if_pos] <;> first | rfl | omega)))); (try simp only [Act.put, List.setIfInBounds_toArray, List.set]))
        (refine Rg4.w4_any (Rg4.want_none rfl) rfl ?_; apply Exists.intro; refine ⟨fun w' => ?_, ?_⟩; (focus (first | (go_simp; done) | (go_simp; first | rfl | (rw [if_neg] <;> first | rfl | omega) | (rw [if_pos] <;> first | rfl | omega)))); (try simp only [Act.put, List.setIfInBounds_toArray, List.set]))
        (refine Rg4.w4_read (Rg4.want_none rfl) rfl rfl ?_; apply Exists.intro; refine ⟨fun w' hw' hcl' => ?_, ?_⟩; focus (subst hw'; have r0 := st.oldCell (i := 0) get0 HC.out.1.1; have r1 := st.oldCell (i := 0) get0 HC.out.1.2.1; have r2 := st.oldCell (i := 0) get0 HC.out.1.2.2.1; have r3 := st.oldCell (i := 0) get0 HC.out.1.2.2.2.1; have r4 := st.oldCell (i := 0) get0 HC.out.1.2.2.2.2.1; have r5 := st.oldCell (i := 0) get0 HC.out.1.2.2.2.2.2.1; have r6 := st.oldCell (i := 0) get0 HC.out.1.2.2.2.2.2.2.1; have r7 := st.oldCell (i := 0) get0 HC.out.1.2.2.2.2.2.2.2.1; have r8 := st.oldCell (i := 0) get0 HC.out.1.2.2.2.2.2.2.2.2; have s0 := st.oldCell (i := 0) get0 HC.out.2.1; have s1 := st.oldCell (i := 0) get0 HC.out.2.2.1; have s2 := st.oldCell (i := 0) get0 HC.out.2.2.2.1; have s3 := st.oldCell (i := 0) get0 HC.out.2.2.2.2.1; have s4 := st.oldCell (i := 0) get0 HC.out.2.2.2.2.2.1; have s5 := st.oldCell (i := 0) get0 HC.out.2.2.2.2.2.2.1; have s6 := st.oldCell (i := 0) get0 HC.out.2.2.2.2.2.2.2.1; have s7 := st.oldCell (i := 0) get0 HC.out.2.2.2.2.2.2.2.2.1; have s8 := st.oldCell (i := 0) get0 HC.out.2.2.2.2.2.2.2.2.2; (focus (first | (go_simp; done) | (go_simp; first | rfl | (rw [if_neg] <;> first | rfl | omega) | (rw [if_pos] <;> first | rfl | omega))))); (try simp only [Act.put, List.setIfInBounds_toArray, List.set]))
        (refine Rg4.w4_any (Rg4.want_none rfl) rfl ?_; apply Exists.intro; refine ⟨fun w' => ?_, ?_⟩; (focus (first | (go_simp; done) | (go_simp; first | rfl | (rw [if_neg] <;> first | rfl | omega) | (rw [if_pos] <;> first | rfl | omega)))); (try simp only [Act.put, List.setIfInBounds_toArray, List.set]))
        (refine Rg4.w4_any (Rg4.want_none rfl) rfl ?_; apply Exists.intro; refine ⟨fun w' => ?_, ?_⟩; (focus (first | (go_simp; done) | (go_simp; first | rfl | (rw [if_neg] <;> first | rfl | omega) | (rw [if_pos] <;> first | rfl | omega)))); (try simp only [Act.put, List.setIfInBounds_toArray, List.set]))
        (refine Rg4.w4_any (Rg4.want_none rfl) rfl ?_; apply Exists.intro; refine ⟨fun w' => ?_, ?_⟩; (focus (first | (go_simp; done) | (go_simp; first | rfl | (rw [if_neg] <;> first | rfl | omega) | (rw [if_pos] <;> first | rfl | omega)))); (try simp only [Act.put, List.setIfInBounds_toArray, List.set]))
        (refine Rg4.w4_read (Rg4.want_none rfl) rfl rfl ?_; apply Exists.intro; refine ⟨fun w' hw' hcl' => ?_, ?_⟩; focus (subst hw'; have r0 := st.oldCell (i := 0) get0 HC.out.1.1; have r1 := st.oldCell (i := 0) get0 HC.out.1.2.1; have r2 := st.oldCell (i := 0) get0 HC.out.1.2.2.1; have r3 := st.oldCell (i := 0) get0 HC.out.1.2.2.2.1; have r4 := st.oldCell (i := 0) get0 HC.out.1.2.2.2.2.1; have r5 := st.oldCell (i := 0) get0 HC.out.1.2.2.2.2.2.1; have r6 := st.oldCell (i := 0) get0 HC.out.1.2.2.2.2.2.2.1; have r7 := st.oldCell (i := 0) get0 HC.out.1.2.2.2.2.2.2.2.1; have r8 := st.oldCell (i := 0) get0 HC.out.1.2.2.2.2.2.2.2.2; have s0 := st.oldCell (i := 0) get0 HC.out.2.1; have s1 := st.oldCell (i := 0) get0 HC.out.2.2.1; have s2 := st.oldCell (i := 0) get0 HC.out.2.2.2.1; have s3 := st.oldCell (i := 0) get0 HC.out.2.2.2.2.1; have s4 := st.oldCell (i := 0) get0 HC.out.2.2.2.2.2.1; have s5 := st.oldCell (i := 0) get0 HC.out.2.2.2.2.2.2.1; have s6 := st.oldCell (i := 0) get0 HC.out.2.2.2.2.2.2.2.1; have s7 := st.oldCell (i := 0) get0 HC.out.2.2.2.2.2.2.2.2.1; have s8 := st.oldCell (i := 0) get0 HC.out.2.2.2.2.2.2.2.2.2; (focus (first | (go_simp; done) | (go_simp; first | rfl | (rw [if_neg] <;> first | rfl | omega) | (rw [if_pos] <;> first | rfl | omega))))); (try simp only [Act.put, List.setIfInBounds_toArray, List.set]))
        (refine Rg4.w4_any (Rg4.want_none rfl) rfl ?_; apply Exists.intro; refine ⟨fun w' => ?_, ?_⟩; (focus (first | (go_simp; done) | (go_simp; first | rfl | (rw [if_neg] <;> first | rfl | omega) | (rw [if_pos] <;> first | rfl | omega)))); (try simp only [Act.put, List.setIfInBounds_toArray, List.set]))
        refine Rg4.w4_nil (fun w' hw' hcl' _ => ?_); subst hw'; clear hcl'
        cases hxy : credEq (⟨kk, (ho, hd), nw, (bo, bd), (co, cd), we⟩ : CredT) (⟨kk', (ho', hd'), nw', (bo', bd'), (co', cd'), we'⟩ : CredT) with
        | true =>
          have hb : (!true) = false := rfl
          have HF : Hid (l.take (j + 1) = l'.take (j + 1)) := Lib.hid (by rw [credEq_eq, decide_eq_true_eq] at hxy; rw [HX.out.1, HX.out.2.1, HT.out, hxy])
          clear hxy
          simp only [hb]
          go_wp2_with fail
          exact ⟨⟨j + 1, by omega, by go_num, HF, st⟩, by simp [intOf]; omega⟩
        | false =>
          have hb : (!false) = true := rfl
          have HF : Hid (l ≠ l') := Lib.hid (HX.out.2.2 (by rw [credEq_eq, decide_eq_false_iff_not] at hxy; exact hxy))
          clear hxy
          simp only [hb]
          go_wp2_with fail
          go_ret
          exact ⟨by rw [decide_eq_false HF.out]; rfl, st.ext0⟩
      · obtain rfl : j = n := by omega
        have HF : Hid (l = l') := Lib.hid (by have := HT.out; rw [List.take_of_length_le (by have := HNL.out; omega), List.take_of_length_le (by have := HNL.out; omega)] at this; exact this)
        go_wp2_with fail
        go_ret
        exact ⟨by rw [decide_eq_true HF.out]; rfl, st.ext0⟩
  · have HF : Hid (l ≠ l') := Lib.hid (fun h => hnn (by rw [HNL.out.1, HNL.out.2, h]))
    go_enter Try.func78, Try.ntmps78
    go_wp2_with fail
    go_ret
    exact ⟨by rw [decide_eq_false HF.out]; rfl, st.ext0⟩
set_option maxRecDepth 100000 in
set_option maxHeartbeats 1000000 in
theorem credIndex_any (a : Option Addr) (n c : Nat) (l : List CredT) (y : CredT) (W : World) (h : Fl W a n l) (hn : n ≤ 2000000) :
    Calls Try.prog 160 #[.slice a n c, cV y] W fun e w' => ∃ v : Int, e = .returned (.int .i64 v) ∧ (0 ≤ v ↔ y ∈ l) ∧ Ext W w' := by
  have H := Lib.hid h
  have HNL := Lib.hid h.1
  clear h
  obtain ⟨kk, ⟨ho, hd⟩, nw, ⟨bo, bd⟩, ⟨co, cd⟩, we⟩ := y
  have st := Own.startOld W
  unfold cV S
  (try simp only [Value.cells, List.cons_append, List.nil_append, List.set, spl, putIt, pick, List.map_cons, List.map_nil, List.getElem?_cons_zero, List.getElem?_cons_succ, Option.getD_some, List.drop_succ_cons, List.drop_zero, List.drop_nil, List.append_nil, unB] at st)
  (try clear hc); have hc := st.facts; (try simp only [factsOf, blkI, blkFacts, rowI, byI, datI, nullI, oldI, penI, rdI, rdAnyI, rdOverI, Nat.zero_add, Nat.reduceAdd, and_true, true_and, and_self] at hc)
  go_enter Try.func160, Try.ntmps160
  go_wp2_with ((((with_reducible refine wl_box ?_ (fun K hK => ?_)); rfl; refine owp_box (o := ⟨some 3, _, _, _, _, _⟩) rfl st ?_; apply Exists.intro; refine ⟨?_, ?_⟩; (focus (go_simp; try rfl)); (clear st; intro b3 w hb st; clear hb))); (try simp only [Value.cells, List.cons_append, List.nil_append, List.set, spl, putIt, pick, List.map_cons, List.map_nil, List.getElem?_cons_zero, List.getElem?_cons_succ, Option.getD_some, List.drop_succ_cons, List.drop_zero, List.drop_nil, List.append_nil, unB] at st); (try clear hc); have hc := st.facts; (try simp only [factsOf, blkI, blkFacts, rowI, byI, datI, nullI, oldI, penI, rdI, rdAnyI, rdOverI, Nat.zero_add, Nat.reduceAdd, and_true, true_and, and_self] at hc))
  go_loopg [8] n (fun k i wr => ∃ (j : Nat), j ≤ n ∧ k = n - j ∧ i = .int .i64 (j : Int) ∧ Hid ((⟨kk, (ho, hd), nw, (bo, bd), (co, cd), we⟩ : CredT) ∉ l.take j) ∧ Own (fun _ => False) (fun _ => True) W [oldI W, blkI b3 [.int .i64 kk, S ho, S hd, S nw, S bo, S bd, S co, S cd, S we]] wr)
  case atStart => exact ⟨0, by omega, by omega, rfl, Lib.hid (by simp), st⟩
  case round =>
    obtain ⟨j, hj, rfl, rfl, HT, st'⟩ := hrel
    clear st hc
    have st := st'
    clear st'
    unfold S at st
    (try simp only [Value.cells, List.cons_append, List.nil_append, List.set, spl, putIt, pick, List.map_cons, List.map_nil, List.getElem?_cons_zero, List.getElem?_cons_succ, Option.getD_some, List.drop_succ_cons, List.drop_zero, List.drop_nil, List.append_nil, unB] at st)
    (try clear hc); have hc := st.facts; (try simp only [factsOf, blkI, blkFacts, rowI, byI, datI, nullI, oldI, penI, rdI, rdAnyI, rdOverI, Nat.zero_add, Nat.reduceAdd, and_true, true_and, and_self] at hc)
    by_cases hjn : j < n
    · obtain ⟨b, off, ha, hcell⟩ := H.out.cred (by omega)
      have hjl : j < l.length := by have := HNL.out; omega
      have HC := Lib.hid (hcell j l[j] (List.getElem?_eq_getElem hjl))
      have hts : l.take (j + 1) = l.take j ++ [l[j]] := (List.take_append_getElem hjl).symm
      have hmem := List.getElem_mem hjl
      clear hcell
      generalize l[j] = x at *
      obtain ⟨kk', ⟨ho', hd'⟩, nw', ⟨bo', bd'⟩, ⟨co', cd'⟩, we'⟩ := x
      have HX := Lib.hid (And.intro hts hmem)
      clear hts hmem
      subst ha
      simp only at HC
      unfold S at HC
      go_wp2_with fail
      refine Rg4.wp_region4_eq #[0, 0, 0, 6, 14, 31] [] [0, 4] (fun _ => True) [0, 1, 2, 3, 4, 5] (by kernel_rfl) (by kernel_rfl) (by kernel_rfl) (by kernel_rfl) (show Rg4.PB _ by repeat (first | with_reducible exact Rg4.pb_body | with_reducible exact Rg4.pb_bodyD rfl | with_reducible refine Rg4.pb_then ?_ | with_reducible refine Rg4.pb_inBlock ?_ | with_reducible refine Rg4.pb_noGoto ?_)) (trivial) ?_
      replace st := st.drew
      change Rg4.wp4 _ _ _ _ _ _ _ _ _ (World.drew _) _ _
      generalize World.drew _ = w at st ⊢
      (try clear hc); have hc := st.facts; (try simp only [factsOf, blkI, blkFacts, rowI, byI, datI, nullI, oldI, penI, rdI, rdAnyI, rdOverI, Nat.zero_add, Nat.reduceAdd, and_true, true_and, and_self] at hc)
      (refine Rg4.w4_read (Rg4.want_none rfl) rfl rfl ?_; apply Exists.intro; refine ⟨fun w' hw' hcl' => ?_, ?_⟩; focus (subst hw'; have r0 := st.oldCell (i := 0) get0 HC.out.1; have r1 := st.oldCell (i := 0) get0 HC.out.2.1; have r2 := st.oldCell (i := 0) get0 HC.out.2.2.1; have r3 := st.oldCell (i := 0) get0 HC.out.2.2.2.1; have r4 := st.oldCell (i := 0) get0 HC.out.2.2.2.2.1; have r5 := st.oldCell (i := 0) get0 HC.out.2.2.2.2.2.1; have r6 := st.oldCell (i := 0) get0 HC.out.2.2.2.2.2.2.1; have r7 := st.oldCell (i := 0) get0 HC.out.2.2.2.2.2.2.2.1; have r8 := st.oldCell (i := 0) get0 HC.out.2.2.2.2.2.2.2.2; (focus (first | (go_simp; done) | (go_simp; first | rfl | (rw [if_neg] <;> first | rfl | omega) | (rw [if_pos] <;> first | rfl | omega))))); (try simp only [Act.put, List.setIfInBounds_toArray, List.set]))
      (refine Rg4.w4_any (Rg4.want_none rfl) rfl ?_; apply Exists.intro; refine ⟨fun w' => ?_, ?_⟩; (focus (first | (go_simp; done) | (go_simp; first | rfl | (rw [if_neg] <;> first | rfl | omega) | (rw [if_pos] <;> first | rfl | omega)))); (try simp only [Act.put, List.setIfInBounds_toArray, List.set]))
      (refine Rg4.w4_any (Rg4.want_none rfl) rfl ?_; apply Exists.intro; refine ⟨fun w' => ?_, ?_⟩; (focus (first | (go_simp; done) | (go_simp; first | rfl | (rw [if_neg] <;> first | rfl | omega) | (rw [if_pos] <;> first | rfl | omega)))); (try simp only [Act.put, List.setIfInBounds_toArray, List.set]))
      (refine Rg4.w4_any (Rg4.want_none rfl) rfl ?_; apply Exists.intro; refine ⟨fun w' => ?_, ?_⟩; (focus (first | (go_simp; done) | (go_simp; first | rfl | (rw [if_neg] <;> first | rfl | omega) | (rw [if_pos] <;> first | rfl | omega)))); (try simp only [Act.put, List.setIfInBounds_toArray, List.set]))
      (refine Rg4.w4_read (Rg4.want_none rfl) rfl rfl ?_; apply Exists.intro; refine ⟨fun w' hw' hcl' => ?_, ?_⟩; focus (subst hw'; have r0 := st.oldCell (i := 0) get0 HC.out.1; have r1 := st.oldCell (i := 0) get0 HC.out.2.1; have r2 := st.oldCell (i := 0) get0 HC.out.2.2.1; have r3 := st.oldCell (i := 0) get0 HC.out.2.2.2.1; have r4 := st.oldCell (i := 0) get0 HC.out.2.2.2.2.1; have r5 := st.oldCell (i := 0) get0 HC.out.2.2.2.2.2.1; have r6 := st.oldCell (i := 0) get0 HC.out.2.2.2.2.2.2.1; have r7 := st.oldCell (i := 0) get0 HC.out.2.2.2.2.2.2.2.1; have r8 := st.oldCell (i := 0) get0 HC.out.2.2.2.2.2.2.2.2; (focus (first | (go_simp; done) | (go_simp; first | rfl | (rw [if_neg] <;> first | rfl | omega) | (rw [if_pos] <;> first | rfl | omega))))); (try simp only [Act.put, List.setIfInBounds_toArray, List.set]))
      (refine Rg4.w4_any (Rg4.want_none rfl) rfl ?_; apply Exists.intro; refine ⟨fun w' => ?_, ?_⟩; (focus (first | (go_simp; done) | (go_simp; first | rfl | (rw [if_neg] <;> first | rfl | omega) | (rw [if_pos] <;> first | rfl | omega)))); (try simp only [Act.put, List.setIfInBounds_toArray, List.set]))
      refine Rg4.w4_nil (fun w' hw' hcl' _ => ?_); subst hw'; clear hcl'
      cases hr : credEq (⟨kk, (ho, hd), nw, (bo, bd), (co, cd), we⟩ : CredT) (⟨kk', (ho', hd'), nw', (bo', bd'), (co', cd'), we'⟩ : CredT) with
      | true =>
        have HF : Hid ((⟨kk, (ho, hd), nw, (bo, bd), (co, cd), we⟩ : CredT) ∈ l) := Lib.hid (by rw [credEq_eq, decide_eq_true_eq] at hr; rw [hr]; exact HX.out.2)
        clear hr
        go_wp2_with fail
        go_ret
        exact ⟨_, rfl, ⟨fun _ => HF.out, fun _ => by omega⟩, st.ext0⟩
      | false =>
        have HF : Hid ((⟨kk, (ho, hd), nw, (bo, bd), (co, cd), we⟩ : CredT) ∉ l.take (j + 1)) := Lib.hid (by
          rw [credEq_eq, decide_eq_false_iff_not] at hr
          rw [HX.out.1]
          intro q
          rcases List.mem_append.1 q with q | q
          · exact HT.out q
          · exact hr (List.mem_singleton.1 q))
        clear hr
        go_wp2_with fail
        go_roundg (n - (j + 1))
        case measure => omega
        case rel => exact ⟨j + 1, by omega, by omega, by first | rfl | trivial | go_num, HF, by simpa [S] using st⟩
    · obtain rfl : j = n := by omega
      have HF : Hid ((⟨kk, (ho, hd), nw, (bo, bd), (co, cd), we⟩ : CredT) ∉ l) := Lib.hid (by have := HT.out; rwa [List.take_of_length_le (by have := HNL.out; omega)] at this)
      go_wp2_with fail
      go_ret
      exact ⟨_, rfl, ⟨fun q => by omega, fun q => absurd q HF.out⟩, st.ext0⟩
set_option maxRecDepth 100000 in
set_option maxHeartbeats 1000000 in
theorem credContains_any (a : Option Addr) (n c : Nat) (l : List CredT) (y : CredT) (W : World) (h : Fl W a n l) (hn : n ≤ 2000000) :
    Calls Try.prog 137 #[.slice a n c, cV y] W fun e w' => e = .returned (.bool (decide (y ∈ l))) ∧ Ext W w' := by
  have H := Lib.hid h
  clear h
  have HI := Lib.hid (credIndex_any a n c l y)
  obtain ⟨kk, ⟨ho, hd⟩, nw, ⟨bo, bd⟩, ⟨co, cd⟩, we⟩ := y
  have st := Own.startOld W
  unfold cV S at *
  (try simp only [Value.cells, List.cons_append, List.nil_append, List.set, spl, putIt, pick, List.map_cons, List.map_nil, List.getElem?_cons_zero, List.getElem?_cons_succ, Option.getD_some, List.drop_succ_cons, List.drop_zero, List.drop_nil, List.append_nil, unB] at st)
  (try clear hc); have hc := st.facts; (try simp only [factsOf, blkI, blkFacts, rowI, byI, datI, nullI, oldI, penI, rdI, rdAnyI, rdOverI, Nat.zero_add, Nat.reduceAdd, and_true, true_and, and_self] at hc)
  go_enter Try.func137, Try.ntmps137
  go_wp2_with ((((with_reducible refine wl_box ?_ (fun K hK => ?_)); rfl; refine owp_box (o := ⟨some 3, _, _, _, _, _⟩) rfl st ?_; apply Exists.intro; refine ⟨?_, ?_⟩; (focus (go_simp; try rfl)); (clear st; intro b3 w hb st; clear hb))); (try simp only [Value.cells, List.cons_append, List.nil_append, List.set, spl, putIt, pick, List.map_cons, List.map_nil, List.getElem?_cons_zero, List.getElem?_cons_succ, Option.getD_some, List.drop_succ_cons, List.drop_zero, List.drop_nil, List.append_nil, unB] at st); (try clear hc); have hc := st.facts; (try simp only [factsOf, blkI, blkFacts, rowI, byI, datI, nullI, oldI, penI, rdI, rdAnyI, rdOverI, Nat.zero_add, Nat.reduceAdd, and_true, true_and, and_self] at hc))
  refine (HI.out _ (st.oldFl (i := 0) get0 H.out) hn).mono ?_
  rintro en w' ⟨v, rfl, hv, hx⟩
  replace st := st.ext hx
  clear hx
  by_cases h0 : 0 ≤ v
  · have HF : Hid ((⟨kk, (ho, hd), nw, (bo, bd), (co, cd), we⟩ : CredT) ∈ l) := Lib.hid (hv.1 h0)
    clear hv
    go_wp2_with fail
    go_ret
    exact ⟨by rw [decide_eq_true HF.out]; simp [h0], st.ext0⟩
  · have HF : Hid ((⟨kk, (ho, hd), nw, (bo, bd), (co, cd), we⟩ : CredT) ∉ l) := Lib.hid (fun q => h0 (hv.2 q))
    clear hv
    go_wp2_with fail
    go_ret
    exact ⟨by rw [decide_eq_false HF.out]; simp; omega, st.ext0⟩
end Go.Proofs.Ytpenjnccdachaaa
