/- Logs: Check; Heads; At; Spoil. -/
import Derived.Test.YtcminppmmhinjaaLogE
import Derived.Test.YtcminppmmhinjaaCell
namespace Go.Proofs.Ytcminppmmhinjaa
set_option linter.unusedSimpArgs false
set_option linter.unusedVariables false
open Go Go.RowKit
theorem cellsL_hds1 (w : World) {a : Option Addr} {n : Nat} {xs : List HdT} (h : Fl w a n xs) (h0 : 0 < n) : ∃ b off, a = some ⟨b, off, none⟩ ∧ ∀ (j : Nat) (x : HdT), xs[j]? = some x → w.cell? ⟨b, off + j, none⟩ = some (.int .u64 x.h) := by
  obtain ⟨b, off, rfl, hc⟩ := h.2 h0
  refine ⟨b, off, rfl, fun j x hj => ?_⟩
  have := hc j x hj 0 _ rfl
  simpa [show Flt.k HdT = 1 from rfl] using this
set_option maxRecDepth 100000 in
set_option maxHeartbeats 1000000 in
theorem logLen_any (p m lc : Nat) (la : Option Addr) (W : World) (h0 : W.cell? ⟨p, 0, none⟩ = some (.slice la m lc)) : Calls Try.prog 29 #[.pointer (some ⟨p, 0, none⟩)] W fun e w' => e = .returned (.int .i64 (m : Int)) ∧ W = w' := by
  go_enter Try.func29, Try.ntmps29
  go_wp2_with fail
  go_ret
  exact ⟨rfl, rfl⟩
set_option maxRecDepth 100000 in
set_option maxHeartbeats 4000000 in
theorem logCheck_any (p m lc hk : Nat) (la ha : Option Addr) (es : List Ent) (ls : List LegT) (W : World) (h0 : W.cell? ⟨p, 0, none⟩ = some (.slice la m lc)) (h1 : W.cell? ⟨p, 1, none⟩ = some (.slice ha (m + 1) hk))
    (hl : Fl W la m ls) (hh : Fl W ha (m + 1) (hds es)) (hb : ∀ x ∈ ls, (x.n ≤ x.c ∧ x.c ≤ maxLen) ∧ By W x.a x.n x.xs) (he : es.length = m) (hm : m ≤ 1000000) :
    Calls Try.prog 30 #[.pointer (some ⟨p, 0, none⟩)] W fun e w' => e = .returned (.int .i64 (chkN es (ls.map ent) : Nat)) ∧ Ext W w' := by
  have HL := Lib.hid hl
  have HN : Hid (m = ls.length) := Lib.hid hl.1
  have HB := Lib.hid hb
  have HES := Lib.hid he
  have HG := Lib.hid (hds_get es)
  obtain ⟨gb, goff, rfl, hcell⟩ := cellsL_hds1 W hh (by omega)
  have HC := Lib.hid hcell
  have H0 := Lib.hid h0
  have H1 := Lib.hid h1
  have HBD := Lib.hid (fun j => lastH_bd (es.take j))
  obtain ⟨r, hr⟩ : ∃ r, chkN es (ls.map ent) = r := ⟨_, rfl⟩
  have HQ0 : Hid (r = chkFrom (badAt es (ls.map ent)) 0 m) := Lib.hid (by rw [← hr, ← he]; rfl)
  rw [hr]
  have st := Own.startOld W
  clear hl hb hcell hh h0 h1 hr he
  (try simp only [Value.cells, List.cons_append, List.nil_append, List.set, spl, putIt, pick, List.map_cons, List.map_nil, List.getElem?_cons_zero, List.getElem?_cons_succ, Option.getD_some, List.drop_succ_cons, List.drop_zero, List.drop_nil, List.append_nil, unB] at st)
  (try clear hc); have hc := st.facts; (try simp only [factsOf, blkI, blkFacts, rowI, byI, datI, nullI, oldI, penI, rdI, rdAnyI, rdOverI, Nat.zero_add, Nat.reduceAdd, and_true, true_and, and_self] at hc)
  go_enter Try.func30, Try.ntmps30
  go_wp2_with fail
  refine (logLen_any p m lc la _ H0.out).mono ?_
  rintro en w' ⟨rfl, rfl⟩
  go_wp2_with fail
  go_loopg [6] m (fun q i wr => ∃ j : Nat, j ≤ m ∧ q = m - j ∧ i = .int .i64 (j : Int) ∧ Hid (r = chkFrom (badAt es (ls.map ent)) j (m - j)) ∧ Own (fun _ => False) (fun _ => True) W [oldI W] wr)
  case atStart => exact ⟨0, by omega, by omega, rfl, Lib.hid (by rw [HQ0.out]; rfl), st⟩
  case round =>
    obtain ⟨j, hj, rfl, rfl, HQ, st'⟩ := hrel
    clear st hc
    have st := st'
    clear st'
    (try simp only [Value.cells, List.cons_append, List.nil_append, List.set, spl, putIt, pick, List.map_cons, List.map_nil, List.getElem?_cons_zero, List.getElem?_cons_succ, Option.getD_some, List.drop_succ_cons, List.drop_zero, List.drop_nil, List.append_nil, unB] at st)
    (try clear hc); have hc := st.facts; (try simp only [factsOf, blkI, blkFacts, rowI, byI, datI, nullI, oldI, penI, rdI, rdAnyI, rdOverI, Nat.zero_add, Nat.reduceAdd, and_true, true_and, and_self] at hc)
    by_cases hjn : j < m
    · have hjl : j < ls.length := by have := HN.out; omega
      obtain ⟨b, off, rfl, hcl0⟩ := HL.out.leg (by omega)
      have rl := hcl0 j ls[j] (List.getElem?_eq_getElem hjl)
      have rh := HC.out j _ (HG.out j (by have := HES.out; omega))
      have rh1 := HC.out (j + 1) _ (HG.out (j + 1) (by have := HES.out; omega))
      have HBA := Lib.hid (HB.out ls[j] (List.getElem_mem hjl))
      have HB0 := Lib.hid (HBD.out j)
      have HQ2 : Hid (r = if nextH (lastH (es.take j)) ls[j].o ls[j].xs != lastH (es.take (j + 1)) then j else chkFrom (badAt es (ls.map ent)) (j + 1) (m - (j + 1))) := Lib.hid (by
        rw [HQ.out, chkFrom_step _ _ _ hjn]
        have : badAt es (ls.map ent) j = (nextH (lastH (es.take j)) ls[j].o ls[j].xs != lastH (es.take (j + 1))) := by
          unfold badAt; rw [List.getElem?_map, List.getElem?_eq_getElem hjl]; rfl
        rw [this])
      clear hcl0 HQ
      simp only at rh rh1
      generalize ls[j] = x at *
      generalize lastH (es.take j) = hv at *
      generalize lastH (es.take (j + 1)) = hv1 at *
      obtain ⟨q, hq⟩ : ∃ q, nextH hv x.o x.xs = q := ⟨_, rfl⟩
      rw [hq] at HQ2
      have HNX := Lib.hid hq
      clear hq
      have hw1 : IntKind.i64.wrap ((j : Int) + 1) = (j : Int) + 1 := IntWalk.i64_in _ ⟨by omega, by omega⟩
      have RL := Lib.hid rl
      have RH := Lib.hid rh
      have RH1 := Lib.hid rh1
      clear rl rh rh1
      go_wp2_with fail
      refine Rg4.wp_region4 (Rel := Ext) #[0, 1, 3, 7, 0, 31, 63, 0, 128, 384, 896, 0, 3968, 8064, 16383, 0, 32768, 98304, 229376, 0, 524288, 2064384, 4161536, 8388607]
        [(14, .val (.int .u64 q))] [] [3, 6, 10, 13, 18, 22] (fun _ => True) [0, 1, 2, 3, 4, 5, 6, 7, 8, 9, 10, 11, 12, 13, 14, 15, 16, 17, 18, 19, 20, 21, 22, 23] (by kernel_rfl) (by kernel_rfl) (by kernel_rfl) (by kernel_rfl) Ext.refl (fun _ _ _ => Ext.trans) (show Rg4.PB _ by repeat (first | with_reducible exact Rg4.pb_body | with_reducible exact Rg4.pb_bodyD rfl | with_reducible refine Rg4.pb_then ?_ | with_reducible refine Rg4.pb_inBlock ?_ | with_reducible refine Rg4.pb_noGoto ?_)) (trivial) ?_
      replace st := st.drew
      change Rg4.wp4 _ _ _ _ _ _ _ _ _ (World.drew _) _ _
      generalize World.drew _ = w at st ⊢
      (try clear hc); have hc := st.facts; (try simp only [factsOf, blkI, blkFacts, rowI, byI, datI, nullI, oldI, penI, rdI, rdAnyI, rdOverI, Nat.zero_add, Nat.reduceAdd, and_true, true_and, and_self] at hc)
      (refine Rg4.w4_any (Rg4.want_none rfl) rfl ?_; apply Exists.intro; refine ⟨fun w' => ?_, ?_⟩; (focus (first | (go_simp; done) | (go_simp; first | rfl | (rw [if_neg] <;> first | rfl | omega) | (rw [if_pos] <;> first | rfl | omega)))); (try simp only [Act.put, List.setIfInBounds_toArray, List.set]))
      (refine Rg4.w4_any (Rg4.want_none rfl) rfl ?_; apply Exists.intro; refine ⟨fun w' => ?_, ?_⟩; (focus (first | (go_simp; done) | (go_simp; first | rfl | (rw [if_neg] <;> first | rfl | omega) | (rw [if_pos] <;> first | rfl | omega)))); (try simp only [Act.put, List.setIfInBounds_toArray, List.set]))
      (refine Rg4.w4_any (Rg4.want_none rfl) rfl ?_; apply Exists.intro; refine ⟨fun w' => ?_, ?_⟩; (focus (first | (go_simp; done) | (go_simp; first | rfl | (rw [if_neg] <;> first | rfl | omega) | (rw [if_pos] <;> first | rfl | omega)))); (try simp only [Act.put, List.setIfInBounds_toArray, List.set]))
      (refine Rg4.w4_read (Rg4.want_none rfl) rfl rfl ?_; apply Exists.intro; refine ⟨fun w' hw' hcl' => ?_, ?_⟩; focus (have st' := st.ext hw'; have hc' := st'.facts; (try simp only [factsOf, blkI, blkFacts, rowI, byI, datI, nullI, oldI, penI, rdI, rdAnyI, rdOverI, Nat.zero_add, Nat.reduceAdd, and_true, true_and, and_self] at hc'); have q0 := st'.oldCell (i := 0) get0 H0.out; have q1 := st'.oldCell (i := 0) get0 H1.out; have q2 := st'.oldCell (i := 0) get0 RL.out.1; have q3 := st'.oldCell (i := 0) get0 RL.out.2; have q4 := st'.oldCell (i := 0) get0 RH.out; have q5 := st'.oldCell (i := 0) get0 RH1.out; (focus (first | (go_simp; done) | (go_simp; first | rfl | (rw [if_neg] <;> first | rfl | omega) | (rw [if_pos] <;> first | rfl | omega))))); (try simp only [Act.put, List.setIfInBounds_toArray, List.set]))
      (refine Rg4.w4_any (Rg4.want_none rfl) rfl ?_; apply Exists.intro; refine ⟨fun w' => ?_, ?_⟩; (focus (first | (go_simp; done) | (go_simp; first | rfl | (rw [if_neg] <;> first | rfl | omega) | (rw [if_pos] <;> first | rfl | omega)))); (try simp only [Act.put, List.setIfInBounds_toArray, List.set]))
      (refine Rg4.w4_any (Rg4.want_none rfl) rfl ?_; apply Exists.intro; refine ⟨fun w' => ?_, ?_⟩; (focus (first | (go_simp; done) | (go_simp; first | rfl | (rw [if_neg] <;> first | rfl | omega) | (rw [if_pos] <;> first | rfl | omega)))); (try simp only [Act.put, List.setIfInBounds_toArray, List.set]))
      (refine Rg4.w4_read (Rg4.want_none rfl) rfl rfl ?_; apply Exists.intro; refine ⟨fun w' hw' hcl' => ?_, ?_⟩; focus (have st' := st.ext hw'; have hc' := st'.facts; (try simp only [factsOf, blkI, blkFacts, rowI, byI, datI, nullI, oldI, penI, rdI, rdAnyI, rdOverI, Nat.zero_add, Nat.reduceAdd, and_true, true_and, and_self] at hc'); have q0 := st'.oldCell (i := 0) get0 H0.out; have q1 := st'.oldCell (i := 0) get0 H1.out; have q2 := st'.oldCell (i := 0) get0 RL.out.1; have q3 := st'.oldCell (i := 0) get0 RL.out.2; have q4 := st'.oldCell (i := 0) get0 RH.out; have q5 := st'.oldCell (i := 0) get0 RH1.out; (focus (first | (go_simp; done) | (go_simp; first | rfl | (rw [if_neg] <;> first | rfl | omega) | (rw [if_pos] <;> first | rfl | omega))))); (try simp only [Act.put, List.setIfInBounds_toArray, List.set]))
      (refine Rg4.w4_any (Rg4.want_none rfl) rfl ?_; apply Exists.intro; refine ⟨fun w' => ?_, ?_⟩; (focus (first | (go_simp; done) | (go_simp; first | rfl | (rw [if_neg] <;> first | rfl | omega) | (rw [if_pos] <;> first | rfl | omega)))); (try simp only [Act.put, List.setIfInBounds_toArray, List.set]))
      (refine Rg4.w4_any (Rg4.want_none rfl) rfl ?_; apply Exists.intro; refine ⟨fun w' => ?_, ?_⟩; (focus (first | (go_simp; done) | (go_simp; first | rfl | (rw [if_neg] <;> first | rfl | omega) | (rw [if_pos] <;> first | rfl | omega)))); (try simp only [Act.put, List.setIfInBounds_toArray, List.set]))
      (refine Rg4.w4_any (Rg4.want_none rfl) rfl ?_; apply Exists.intro; refine ⟨fun w' => ?_, ?_⟩; (focus (first | (go_simp; done) | (go_simp; first | rfl | (rw [if_neg] <;> first | rfl | omega) | (rw [if_pos] <;> first | rfl | omega)))); (try simp only [Act.put, List.setIfInBounds_toArray, List.set]))
      (refine Rg4.w4_read (Rg4.want_none rfl) rfl rfl ?_; apply Exists.intro; refine ⟨fun w' hw' hcl' => ?_, ?_⟩; focus (have st' := st.ext hw'; have hc' := st'.facts; (try simp only [factsOf, blkI, blkFacts, rowI, byI, datI, nullI, oldI, penI, rdI, rdAnyI, rdOverI, Nat.zero_add, Nat.reduceAdd, and_true, true_and, and_self] at hc'); have q0 := st'.oldCell (i := 0) get0 H0.out; have q1 := st'.oldCell (i := 0) get0 H1.out; have q2 := st'.oldCell (i := 0) get0 RL.out.1; have q3 := st'.oldCell (i := 0) get0 RL.out.2; have q4 := st'.oldCell (i := 0) get0 RH.out; have q5 := st'.oldCell (i := 0) get0 RH1.out; (focus (first | (go_simp; done) | (go_simp; first | rfl | (rw [if_neg] <;> first | rfl | omega) | (rw [if_pos] <;> first | rfl | omega))))); (try simp only [Act.put, List.setIfInBounds_toArray, List.set]))
      (refine Rg4.w4_any (Rg4.want_none rfl) rfl ?_; apply Exists.intro; refine ⟨fun w' => ?_, ?_⟩; (focus (first | (go_simp; done) | (go_simp; first | rfl | (rw [if_neg] <;> first | rfl | omega) | (rw [if_pos] <;> first | rfl | omega)))); (try simp only [Act.put, List.setIfInBounds_toArray, List.set]))
      (refine Rg4.w4_any (Rg4.want_none rfl) rfl ?_; apply Exists.intro; refine ⟨fun w' => ?_, ?_⟩; (focus (first | (go_simp; done) | (go_simp; first | rfl | (rw [if_neg] <;> first | rfl | omega) | (rw [if_pos] <;> first | rfl | omega)))); (try simp only [Act.put, List.setIfInBounds_toArray, List.set]))
      (refine Rg4.w4_read (Rg4.want_none rfl) rfl rfl ?_; apply Exists.intro; refine ⟨fun w' hw' hcl' => ?_, ?_⟩; focus (have st' := st.ext hw'; have hc' := st'.facts; (try simp only [factsOf, blkI, blkFacts, rowI, byI, datI, nullI, oldI, penI, rdI, rdAnyI, rdOverI, Nat.zero_add, Nat.reduceAdd, and_true, true_and, and_self] at hc'); have q0 := st'.oldCell (i := 0) get0 H0.out; have q1 := st'.oldCell (i := 0) get0 H1.out; have q2 := st'.oldCell (i := 0) get0 RL.out.1; have q3 := st'.oldCell (i := 0) get0 RL.out.2; have q4 := st'.oldCell (i := 0) get0 RH.out; have q5 := st'.oldCell (i := 0) get0 RH1.out; (focus (first | (go_simp; done) | (go_simp; first | rfl | (rw [if_neg] <;> first | rfl | omega) | (rw [if_pos] <;> first | rfl | omega))))); (try simp only [Act.put, List.setIfInBounds_toArray, List.set]))
      refine Rg4.w4_some (Rg4.want_none rfl) rfl (fun w' hw' hcl' _ => ?_) ?_
      · refine Rg.relAt_call (by go_simp; exact ⟨rfl, rfl⟩) ?_
        have st' := st.ext hw'
        refine (logNext_any hv x _ HB0.out HBA.out.1 (st'.oldBy (i := 0) get0 HBA.out.2)).mono ?_
        rintro en w'' ⟨rfl, hx⟩
        exact ⟨_, rfl, hx, trivial, by rw [HNX.out]; rfl⟩
      rintro v ⟨_, _, _, rfl⟩
      (try simp only [Act.put, List.setIfInBounds_toArray, List.set])
      (refine Rg4.w4_any (Rg4.want_none rfl) rfl ?_; apply Exists.intro; refine ⟨fun w' => ?_, ?_⟩; (focus (first | (go_simp; done) | (go_simp; first | rfl | (rw [if_neg] <;> first | rfl | omega) | (rw [if_pos] <;> first | rfl | omega)))); (try simp only [Act.put, List.setIfInBounds_toArray, List.set]))
      (refine Rg4.w4_any (Rg4.want_none rfl) rfl ?_; apply Exists.intro; refine ⟨fun w' => ?_, ?_⟩; (focus (first | (go_simp; done) | (go_simp; first | rfl | (rw [if_neg] <;> first | rfl | omega) | (rw [if_pos] <;> first | rfl | omega)))); (try simp only [Act.put, List.setIfInBounds_toArray, List.set]))
      (refine Rg4.w4_any (Rg4.want_none rfl) rfl ?_; apply Exists.intro; refine ⟨fun w' => ?_, ?_⟩; (focus (first | (go_simp; done) | (go_simp; first | rfl | (rw [if_neg] <;> first | rfl | omega) | (rw [if_pos] <;> first | rfl | omega)))); (try simp only [Act.put, List.setIfInBounds_toArray, List.set]))
      (refine Rg4.w4_read (Rg4.want_none rfl) rfl rfl ?_; apply Exists.intro; refine ⟨fun w' hw' hcl' => ?_, ?_⟩; focus (have st' := st.ext hw'; have hc' := st'.facts; (try simp only [factsOf, blkI, blkFacts, rowI, byI, datI, nullI, oldI, penI, rdI, rdAnyI, rdOverI, Nat.zero_add, Nat.reduceAdd, and_true, true_and, and_self] at hc'); have q0 := st'.oldCell (i := 0) get0 H0.out; have q1 := st'.oldCell (i := 0) get0 H1.out; have q2 := st'.oldCell (i := 0) get0 RL.out.1; have q3 := st'.oldCell (i := 0) get0 RL.out.2; have q4 := st'.oldCell (i := 0) get0 RH.out; have q5 := st'.oldCell (i := 0) get0 RH1.out; (focus (first | (go_simp; done) | (go_simp; first | rfl | (rw [if_neg] <;> first | rfl | omega) | (rw [if_pos] <;> first | rfl | omega))))); (try simp only [Act.put, List.setIfInBounds_toArray, List.set]))
      (refine Rg4.w4_any (Rg4.want_none rfl) rfl ?_; apply Exists.intro; refine ⟨fun w' => ?_, ?_⟩; (focus (first | (go_simp; done) | (go_simp; first | rfl | (rw [if_neg] <;> first | rfl | omega) | (rw [if_pos] <;> first | rfl | omega)))); (try simp only [Act.put, List.setIfInBounds_toArray, List.set]))
      (refine Rg4.w4_any (Rg4.want_none rfl) rfl ?_; apply Exists.intro; refine ⟨fun w' => ?_, ?_⟩; (focus (first | (go_simp; done) | (go_simp; first | rfl | (rw [if_neg] <;> first | rfl | omega) | (rw [if_pos] <;> first | rfl | omega)))); (try simp only [Act.put, List.setIfInBounds_toArray, List.set]))
      (refine Rg4.w4_any (Rg4.want_none rfl) rfl ?_; apply Exists.intro; refine ⟨fun w' => ?_, ?_⟩; (focus (first | (go_simp; done) | (go_simp; first | rfl | (rw [if_neg] <;> first | rfl | omega) | (rw [if_pos] <;> first | rfl | omega)))); (try simp only [Act.put, List.setIfInBounds_toArray, List.set]))
      (refine Rg4.w4_read (Rg4.want_none rfl) rfl rfl ?_; apply Exists.intro; refine ⟨fun w' hw' hcl' => ?_, ?_⟩; focus (have st' := st.ext hw'; have hc' := st'.facts; (try simp only [factsOf, blkI, blkFacts, rowI, byI, datI, nullI, oldI, penI, rdI, rdAnyI, rdOverI, Nat.zero_add, Nat.reduceAdd, and_true, true_and, and_self] at hc'); have q0 := st'.oldCell (i := 0) get0 H0.out; have q1 := st'.oldCell (i := 0) get0 H1.out; have q2 := st'.oldCell (i := 0) get0 RL.out.1; have q3 := st'.oldCell (i := 0) get0 RL.out.2; have q4 := st'.oldCell (i := 0) get0 RH.out; have q5 := st'.oldCell (i := 0) get0 RH1.out; (focus (first | (go_simp; done) | (go_simp; first | rfl | (rw [if_neg] <;> first | rfl | omega) | (rw [if_pos] <;> first | rfl | omega))))); (try simp only [Act.put, List.setIfInBounds_toArray, List.set]))
      (refine Rg4.w4_any (Rg4.want_none rfl) rfl ?_; apply Exists.intro; refine ⟨fun w' => ?_, ?_⟩; (focus (first | (go_simp; done) | (go_simp; first | rfl | (rw [if_neg] <;> first | rfl | omega) | (rw [if_pos] <;> first | rfl | omega)))); (try simp only [Act.put, List.setIfInBounds_toArray, List.set]))
      refine Rg4.w4_nil (fun w' hw' hcl' _ => ?_); replace st := st.ext hw'; clear hw' hcl'; (try clear hc); have hc := st.facts; (try simp only [factsOf, blkI, blkFacts, rowI, byI, datI, nullI, oldI, penI, rdI, rdAnyI, rdOverI, Nat.zero_add, Nat.reduceAdd, and_true, true_and, and_self] at hc)
      by_cases hqe : q = hv1
      · subst hqe
        have HQ3 : Hid (r = chkFrom (badAt es (ls.map ent)) (j + 1) (m - (j + 1))) := Lib.hid (by rw [HQ2.out]; simp)
        go_wp2_with fail
        have st' := st.keep [0] (by decide) (by simp)
        go_roundg (m - (j + 1))
        case measure => omega
        case rel => exact ⟨j + 1, by omega, by omega, by go_num, HQ3, by simpa [pick] using st'⟩
      · have HQ3 : Hid (r = j) := Lib.hid (by rw [HQ2.out, if_pos (by simp; exact hqe)])
        go_wp2_with fail
        go_ret
        exact ⟨by rw [HQ3.out]; rfl, st.ext0⟩
    · obtain rfl : j = m := by omega
      have HQ3 : Hid (r = j) := Lib.hid (by rw [HQ.out, Nat.sub_self]; rfl)
      go_wp2_with fail
      refine (logLen_any p j lc la _ (st.oldCell (i := 0) get0 H0.out)).mono ?_
      rintro en w' ⟨rfl, rfl⟩
      go_wp2_with fail
      go_ret
      exact ⟨by rw [HQ3.out]; rfl, st.ext0⟩
theorem logLen0 (W : World) : Calls Try.prog 30 #[.pointer none] W fun e w' => e = .returned (.int .i64 0) ∧ W = w' := by
  go_enter Try.func30, Try.ntmps30
  go_wp2_with fail
  refine (logLen_nil _).mono ?_
  rintro en w' ⟨rfl, rfl⟩
  go_wp2_with fail
  go_loopg [6] 0 (fun q i wr => i = .int .i64 0 ∧ wr = W)
  case atStart => exact ⟨rfl, rfl⟩
  case round =>
    obtain ⟨rfl, rfl⟩ := hrel
    go_wp2_with fail
    refine (logLen_nil _).mono ?_
    rintro en w' ⟨rfl, rfl⟩
    go_wp2_with fail
    go_ret
    exact ⟨rfl, rfl⟩
set_option maxRecDepth 100000 in
set_option maxHeartbeats 2000000 in
theorem logHeads_any (a : Option Addr) (n c : Nat) (l : List LegT) (W : World) (h : Fl W a n l) (hk : ∀ x ∈ l, ((x.n ≤ x.c ∧ x.c ≤ maxLen) ∧ By W x.a x.n x.xs) ∧ x.n ≤ 100000) (hn : n ≤ 900000) :
    Calls Try.prog 32 #[.slice a n c] W fun e w' => ∃ ha hc, e = .returned (.slice ha (n + 1) hc) ∧ FreshI W w' (rowI 51 1 (.slice ha (n + 1) hc) (n + 1) (cellsL (hds (l.map ent)))) := by
  have HLA : Hid (LegsA (fun _ => True) W a n l) := Lib.hid ⟨h, fun _ _ _ => trivial, fun x hx => ⟨(hk x hx).1.1, (hk x hx).1.2, fun _ _ _ => trivial⟩⟩
  have HX : Hid (∀ x ∈ l, x.n ≤ 1000000) := Lib.hid (fun x hx => by have := (hk x hx).2; omega)
  have st := Own.startOld W
  clear h hk
  (try simp only [Value.cells, List.cons_append, List.nil_append, List.set, spl, putIt, pick, List.map_cons, List.map_nil, List.getElem?_cons_zero, List.getElem?_cons_succ, Option.getD_some, List.drop_succ_cons, List.drop_zero, List.drop_nil, List.append_nil, unB] at st)
  (try clear hc); have hc := st.facts; (try simp only [factsOf, blkI, blkFacts, rowI, byI, datI, nullI, oldI, penI, rdI, rdAnyI, rdOverI, Nat.zero_add, Nat.reduceAdd, and_true, true_and, and_self] at hc)
  go_enter Try.func32, Try.ntmps32
  go_wp2_with fail
  obtain ⟨fr', al', st', back⟩ := st.sub [] (by decide) (by simp)
  (try simp only [Value.cells, List.cons_append, List.nil_append, List.set, spl, putIt, pick, List.map_cons, List.map_nil, List.getElem?_cons_zero, List.getElem?_cons_succ, Option.getD_some, List.drop_succ_cons, List.drop_zero, List.drop_nil, List.append_nil, unB] at st')
  refine (logNew_c st').mono ?_
  clear st'
  rintro en w ⟨p, ha, hc0, rfl, st'⟩
  replace st := back _ _ (by simp) st'
  clear back st'
  (try simp only [Value.cells, List.cons_append, List.nil_append, List.set, spl, putIt, pick, List.map_cons, List.map_nil, List.getElem?_cons_zero, List.getElem?_cons_succ, Option.getD_some, List.drop_succ_cons, List.drop_zero, List.drop_nil, List.append_nil, unB] at st)
  (try clear hc); have hc := st.facts; (try simp only [factsOf, blkI, blkFacts, rowI, byI, datI, nullI, oldI, penI, rdI, rdAnyI, rdOverI, Nat.zero_add, Nat.reduceAdd, and_true, true_and, and_self] at hc)
  go_wp2_with fail
  replace st := st.shOld (i := 0) get0 (fun _ => True)
  (try simp only [Value.cells, List.cons_append, List.nil_append, List.set, spl, putIt, pick, List.map_cons, List.map_nil, List.getElem?_cons_zero, List.getElem?_cons_succ, Option.getD_some, List.drop_succ_cons, List.drop_zero, List.drop_nil, List.append_nil, unB] at st)
  (try clear hc); have hc := st.facts; (try simp only [factsOf, blkI, blkFacts, rowI, byI, datI, nullI, oldI, penI, rdI, rdAnyI, rdOverI, Nat.zero_add, Nat.reduceAdd, and_true, true_and, and_self] at hc)
  obtain ⟨fr', al', st', back⟩ := st.sub [1, 2, 3, 4, 5] (by decide) (by simp)
  (try simp only [Value.cells, List.cons_append, List.nil_append, List.set, spl, putIt, pick, List.map_cons, List.map_nil, List.getElem?_cons_zero, List.getElem?_cons_succ, Option.getD_some, List.drop_succ_cons, List.drop_zero, List.drop_nil, List.append_nil, unB] at st')
  refine (logAdd_c (m := 0) (ls := []) (by simpa [cellsL] using st') rfl a n c l HLA.out (by omega) HX.out).mono ?_
  clear st'
  rintro en w ⟨la', lc', ha', hc', cur, rfl, hcur, st'⟩
  replace st := back _ _ (by simp) st'
  clear back st'
  (try simp only [Value.cells, List.cons_append, List.nil_append, List.set, spl, putIt, pick, List.map_cons, List.map_nil, List.getElem?_cons_zero, List.getElem?_cons_succ, Option.getD_some, List.drop_succ_cons, List.drop_zero, List.drop_nil, List.append_nil, unB] at st)
  (try clear hc); have hc := st.facts; (try simp only [factsOf, blkI, blkFacts, rowI, byI, datI, nullI, oldI, penI, rdI, rdAnyI, rdOverI, Nat.zero_add, Nat.reduceAdd, and_true, true_and, and_self] at hc)
  simp only [List.map_nil, List.nil_append] at hcur
  rw [hcur] at st
  simp only [Nat.zero_add] at st
  (try simp only [Value.cells, List.cons_append, List.nil_append, List.set, spl, putIt, pick, List.map_cons, List.map_nil, List.getElem?_cons_zero, List.getElem?_cons_succ, Option.getD_some, List.drop_succ_cons, List.drop_zero, List.drop_nil, List.append_nil, unB] at st)
  (try clear hc); have hc := st.facts; (try simp only [factsOf, blkI, blkFacts, rowI, byI, datI, nullI, oldI, penI, rdI, rdAnyI, rdOverI, Nat.zero_add, Nat.reduceAdd, and_true, true_and, and_self] at hc)
  go_wp2_with fail
  go_ret
  exact ⟨ha', hc', rfl, st.toFresh (i := 3) get3⟩
end Go.Proofs.Ytcminppmmhinjaa
