/- Logs: the bytes of a head, the next head; the reference's. -/
import Derived.Test.YtcminppmmhinjaaLogA
import Derived.Test.YtcminppmmhinjaaTagC
import Derived.Test.YtcminppmmhinjaaRefTapeC
namespace Go.Proofs.Ytcminppmmhinjaa
set_option linter.unusedSimpArgs false
set_option linter.unusedVariables false
open Go Go.RowKit
theorem u8InfoL : ∃ i, Try.prog.info? 5 = some i ∧ i.zero = some (.int .u8 0) ∧ i.size = 1 ∧ i.bytes = 1 := info_parts (by kernel_rfl)
def outB (o : Bool) : UInt8 := if o then 1 else 0
def nextH (h : Int) (o : Bool) (xs : List UInt8) : Int := fnv fnv0 (be8 h ++ [outB o] ++ xs)
theorem nextH_bd (h : Int) (o : Bool) (xs : List UInt8) : 0 ≤ nextH h o xs ∧ nextH h o xs < 2 ^ 64 := ⟨fnv_nonneg _ _ (by decide), fnv_lt _ _ (by decide)⟩
theorem fnv0_bd : 0 ≤ fnv0 ∧ fnv0 < 2 ^ 64 := by decide
theorem be8_snoc (h : Int) (j : Nat) (hj : j < 8) : (be8 h).take (j + 1) = (be8 h).take j ++ [byteAt h j] := by
  have hl : (be8 h).length = 8 := by simp [be8]
  rw [← List.take_append_getElem (by omega)]
  simp [be8]
theorem be8_len (h : Int) : (be8 h).length = 8 := by simp [be8]
set_option maxRecDepth 100000 in
set_option maxHeartbeats 1000000 in
theorem logEight_any (h : Int) (W : World) (hh : 0 ≤ h ∧ h < 2 ^ 64) : Calls Try.prog 163 #[.int .u64 h] W fun e w' => ∃ a c, e = .returned (.slice a 8 c) ∧ (8 ≤ c ∧ c ≤ maxLen) ∧ By w' a 8 (be8 h) ∧ Ext W w' := by
  have st := (Own.startOld W).row_nil 5 1
  simp only [List.cons_append, List.nil_append] at st
  have HH := Lib.hid hh
  clear hh
  (try simp only [Value.cells, List.cons_append, List.nil_append, List.set, spl, putIt, pick, List.map_cons, List.map_nil, List.getElem?_cons_zero, List.getElem?_cons_succ, Option.getD_some, List.drop_succ_cons, List.drop_zero, List.drop_nil, List.append_nil, unB] at st)
  (try clear hc); have hc := st.facts; (try simp only [factsOf, blkI, blkFacts, rowI, byI, datI, nullI, oldI, penI, rdI, rdAnyI, rdOverI, Nat.zero_add, Nat.reduceAdd, and_true, true_and, and_self] at hc)
  go_enter Try.func163, Try.ntmps163
  go_wp2_with fail
  go_loopg [3, 5] 8 (fun k o i wr => ∃ j : Nat, j ≤ 8 ∧ k = 8 - j ∧ i = .int .i64 (j : Int) ∧ Own (fun _ => False) (fun _ => True) W [oldI W, rowI 5 1 o j (((be8 h).take j).map B)] wr)
  case atStart => exact ⟨0, by omega, by omega, rfl, by simpa using st⟩
  case round =>
    obtain ⟨j, hj, rfl, rfl, st'⟩ := hrel
    clear st hc
    have st := st'
    clear st'
    (try simp only [Value.cells, List.cons_append, List.nil_append, List.set, spl, putIt, pick, List.map_cons, List.map_nil, List.getElem?_cons_zero, List.getElem?_cons_succ, Option.getD_some, List.drop_succ_cons, List.drop_zero, List.drop_nil, List.append_nil, unB] at st)
    (try clear hc); have hc := st.facts; (try simp only [factsOf, blkI, blkFacts, rowI, byI, datI, nullI, oldI, penI, rdI, rdAnyI, rdOverI, Nat.zero_add, Nat.reduceAdd, and_true, true_and, and_self] at hc)
    by_cases hjn : j < 8
    · have hs := be8_snoc h j hjn
      have HS := Lib.hid (show ((be8 h).take (j + 1)).map B = ((be8 h).take j).map B ++ [B (byteAt h j)] from by rw [hs]; simp)
      obtain ⟨xs, hxs⟩ : ∃ xs, ((be8 h).take j).map B = xs := ⟨_, rfl⟩
      rw [hxs] at HS st
      clear hs hxs
      go_wp2_with (first
          | ((with_reducible refine wl_append ?_ (fun K hK => ?_)); (rfl); (obtain ⟨inf, hinf, hz0, hz1, hz2⟩ := u8InfoL); (refine owp_append rfl st 1 get1 Try.underlying30 hinf hz0 hz1 hz2 rfl (by decide) rfl rfl ((st.blk (i := 2) get2).flat rfl) (by first | exact cellsL_all _ | simp [Value.oneCell']) (by simp only [maxLen]; omega) (by omega) ?_); (clear hinf hz0 hz1 hz2 inf); (clear st; intro v' w st); (obtain ⟨va', vc', rfl⟩ := own_slice (st.row (i := 1) get1)); (try simp only [Value.cells, List.cons_append, List.nil_append, List.set, spl, putIt, pick, List.map_cons, List.map_nil, List.getElem?_cons_zero, List.getElem?_cons_succ, Option.getD_some, List.drop_succ_cons, List.drop_zero, List.drop_nil, List.append_nil, unB] at st); (try simp only [Nat.zero_add] at st); (try clear hc); have hc := st.facts; (try simp only [factsOf, blkI, blkFacts, rowI, byI, datI, nullI, oldI, penI, rdI, rdAnyI, rdOverI, Nat.zero_add, Nat.reduceAdd, and_true, true_and, and_self] at hc))
          | ((((with_reducible refine wl_buildSlice ?_ (fun K hK => ?_)); rfl; refine owp_buildSlice (o := ⟨some 15, _, _, _, _, _⟩) rfl st ?_; apply Exists.intro; apply Exists.intro; apply Exists.intro; apply Exists.intro; refine ⟨?_, ?_⟩; (focus (go_simp; (first | done | exact ⟨⟨rfl, rfl⟩, rfl⟩ | rfl))); (clear st; intro b15 w hb st; clear hb))); (try simp only [Value.cells, List.cons_append, List.nil_append, List.set, spl, putIt, pick, List.map_cons, List.map_nil, List.getElem?_cons_zero, List.getElem?_cons_succ, Option.getD_some, List.drop_succ_cons, List.drop_zero, List.drop_nil, List.append_nil, unB] at st); (try clear hc); have hc := st.facts; (try simp only [factsOf, blkI, blkFacts, rowI, byI, datI, nullI, oldI, penI, rdI, rdAnyI, rdOverI, Nat.zero_add, Nat.reduceAdd, and_true, true_and, and_self] at hc)))
      have st' := st.keep [0, 1] (by decide) (by simp)
      go_roundg (8 - (j + 1))
      case measure => omega
      case rel =>
        have e : 8 * (7 - j) = 56 - 8 * j := by omega
        exact ⟨j + 1, by omega, by omega, by go_num, by rw [HS.out]; simpa [pick, byteAt, B_mod, e] using st'⟩
    · obtain rfl : j = 8 := by omega
      rw [List.take_of_length_le (by rw [be8_len]; exact Nat.le_refl _)] at st
      obtain ⟨a, m, c, rfl, h1, h2, h3⟩ := own_by (st.row (i := 1) get1)
      obtain rfl : m = 8 := by rw [h3.1, be8_len]
      go_wp2_with fail
      go_ret
      exact ⟨a, c, rfl, ⟨h1, h2⟩, h3, st.ext0⟩
set_option maxRecDepth 100000 in
set_option maxHeartbeats 2000000 in
theorem logNext_any (h : Int) (x : LegT) (W : World) (hh : 0 ≤ h ∧ h < 2 ^ 64) (hc : x.n ≤ x.c ∧ x.c ≤ maxLen) (hb : By W x.a x.n x.xs) :
    Calls Try.prog 98 #[.int .u64 h, legV x] W fun e w' => e = .returned (.int .u64 (nextH h x.o x.xs)) ∧ Ext W w' := by
  have HE := Lib.hid (fun W => logEight_any h W hh)
  have HC := Lib.hid hc
  have HF : Hid (nextH h x.o x.xs = fnv fnv0 [be8 h, [outB x.o], x.xs].flatten) := Lib.hid (by unfold nextH; simp)
  have st := (Own.startOld W).addOldBy (i := 0) rfl hb
  obtain ⟨o, a, n, c, xs⟩ := x
  simp only at *
  clear hc hb hh
  obtain ⟨q, hq⟩ : ∃ q, nextH h o xs = q := ⟨_, rfl⟩
  rw [hq] at HF ⊢
  clear hq
  unfold legV
  simp only
  (try simp only [Value.cells, List.cons_append, List.nil_append, List.set, spl, putIt, pick, List.map_cons, List.map_nil, List.getElem?_cons_zero, List.getElem?_cons_succ, Option.getD_some, List.drop_succ_cons, List.drop_zero, List.drop_nil, List.append_nil, unB] at st)
  (try clear hc); have hc := st.facts; (try simp only [factsOf, blkI, blkFacts, rowI, byI, datI, nullI, oldI, penI, rdI, rdAnyI, rdOverI, Nat.zero_add, Nat.reduceAdd, and_true, true_and, and_self] at hc)
  cases o with
  | false =>
    go_enter Try.func98, Try.ntmps98
    go_wp2_with ((first
          | ((with_reducible refine wl_box ?_ (fun K hK => ?_)); rfl; refine owp_box (o := ⟨some 3, _, _, _, _, _⟩) rfl st ?_; apply Exists.intro; refine ⟨?_, ?_⟩; (focus (go_simp; try rfl)); (clear st; intro b3 w hb st; clear hb))
          | ((with_reducible refine wl_buildSlice ?_ (fun K hK => ?_)); rfl; refine owp_buildSlice (o := ⟨some 11, _, _, _, _, _⟩) rfl st ?_; apply Exists.intro; apply Exists.intro; apply Exists.intro; apply Exists.intro; refine ⟨?_, ?_⟩; (focus (go_simp; (first | done | exact ⟨⟨rfl, rfl⟩, rfl⟩ | rfl))); (clear st; intro b11 w hb st; clear hb))
          | ((with_reducible refine wl_buildSlice ?_ (fun K hK => ?_)); rfl; refine owp_buildSlice (o := ⟨some 14, _, _, _, _, _⟩) rfl st ?_; apply Exists.intro; apply Exists.intro; apply Exists.intro; apply Exists.intro; refine ⟨?_, ?_⟩; (focus (go_simp; (first | done | exact ⟨⟨rfl, rfl⟩, rfl⟩ | rfl))); (clear st; intro b14 w hb st; clear hb))); (try simp only [Value.cells, List.cons_append, List.nil_append, List.set, spl, putIt, pick, List.map_cons, List.map_nil, List.getElem?_cons_zero, List.getElem?_cons_succ, Option.getD_some, List.drop_succ_cons, List.drop_zero, List.drop_nil, List.append_nil, unB] at st); (try clear hc); have hc := st.facts; (try simp only [factsOf, blkI, blkFacts, rowI, byI, datI, nullI, oldI, penI, rdI, rdAnyI, rdOverI, Nat.zero_add, Nat.reduceAdd, and_true, true_and, and_self] at hc))
    refine Rg4.wp_region4 (Rel := Ext) #[0, 1, 0, 4, 0, 16, 63, 127, 255]
      [(1, ⟨fun v w => ∃ a c, v = .slice a 8 c ∧ (8 ≤ c ∧ c ≤ maxLen) ∧ By w a 8 (be8 h) , fun _ _ _ hx ⟨a, c, h1, h2, h3⟩ => ⟨a, c, h1, h2, h3.ext hx⟩⟩), (3, ⟨fun v w => ∃ b, v = .slice (some ⟨b, 0, none⟩) 1 1 ∧ By w (some ⟨b, 0, none⟩) 1 [0] , fun _ _ _ hx ⟨b, h1, h3⟩ => ⟨b, h1, h3.ext hx⟩⟩), (6, ⟨fun v w => ∃ b, v = .slice (some ⟨b, 0, none⟩) 3 3 ∧ Bys w (some ⟨b, 0, none⟩) 3 [be8 h, [0], xs] , fun _ _ _ hx ⟨b, h1, h3⟩ => ⟨b, h1, h3.ext hx⟩⟩), (7, .val (.int .u64 q))] [] [5] (fun _ => True) [0, 1, 2, 3, 4, 5, 6, 7, 8] (by kernel_rfl) (by kernel_rfl) (by kernel_rfl) (by kernel_rfl) Ext.refl (fun _ _ _ => Ext.trans) (show Rg4.PB _ by repeat (first | with_reducible exact Rg4.pb_body | with_reducible exact Rg4.pb_bodyD rfl | with_reducible refine Rg4.pb_then ?_ | with_reducible refine Rg4.pb_inBlock ?_ | with_reducible refine Rg4.pb_noGoto ?_)) (trivial) ?_
    replace st := st.drew
    change Rg4.wp4 _ _ _ _ _ _ _ _ _ (World.drew _) _ _
    generalize World.drew _ = w at st ⊢
    (try clear hc); have hc := st.facts; (try simp only [factsOf, blkI, blkFacts, rowI, byI, datI, nullI, oldI, penI, rdI, rdAnyI, rdOverI, Nat.zero_add, Nat.reduceAdd, and_true, true_and, and_self] at hc)
    (refine Rg4.w4_any (Rg4.want_none rfl) rfl ?_; apply Exists.intro; refine ⟨fun w' => ?_, ?_⟩; (focus (first | (go_simp; done) | (go_simp; first | rfl | (rw [if_neg] <;> first | rfl | omega) | (rw [if_pos] <;> first | rfl | omega)))); (try simp only [Act.put, List.setIfInBounds_toArray, List.set]))
    refine Rg4.w4_some (Rg4.want_none rfl) rfl (fun w' hw' hcl' _ => ?_) ?_
    · refine Rg.relAt_call (by go_simp; exact ⟨rfl, rfl⟩) ?_
      refine (HE.out _).mono ?_
      rintro en w'' ⟨a1, c1, rfl, hc1, hb1, hx⟩
      exact ⟨_, rfl, hx, trivial, a1, c1, rfl, hc1, hb1⟩
    rintro v ⟨_, _, _, a9, c9, rfl, hc9, _⟩
    (try simp only [Act.put, List.setIfInBounds_toArray, List.set])
    (refine Rg4.w4_any (Rg4.want_none rfl) rfl ?_; apply Exists.intro; refine ⟨fun w' => ?_, ?_⟩; (focus (first | (go_simp; done) | (go_simp; first | rfl | (rw [if_neg] <;> first | rfl | omega) | (rw [if_pos] <;> first | rfl | omega)))); (try simp only [Act.put, List.setIfInBounds_toArray, List.set]))
    refine Rg4.w4_some (Rg4.want_none rfl) rfl (fun w' hw' hcl' _ => ?_) ?_
    · refine Rg.relAt_value (v := .slice (some ⟨w'.heap.size, 0, none⟩) 1 1) (w' := w'.alloc (.cells #[.int .u8 0] 5)) ?_ ⟨Ext.new _ _, trivial, _, rfl, By.lit _ [.int .u8 0] _ _ _ _ _ rfl rfl ⟨rfl, trivial⟩⟩
      go_simp
    rintro v ⟨_, _, _, b11, rfl, _⟩
    (try simp only [Act.put, List.setIfInBounds_toArray, List.set])
    (refine Rg4.w4_any (Rg4.want_none rfl) rfl ?_; apply Exists.intro; refine ⟨fun w' => ?_, ?_⟩; (focus (first | (go_simp; done) | (go_simp; first | rfl | (rw [if_neg] <;> first | rfl | omega) | (rw [if_pos] <;> first | rfl | omega)))); (try simp only [Act.put, List.setIfInBounds_toArray, List.set]))
    (refine Rg4.w4_read (Rg4.want_none rfl) rfl rfl ?_; apply Exists.intro; refine ⟨fun w' hw' hcl' => ?_, ?_⟩; focus (have st' := st.ext hw'; have hc' := st'.facts; (try simp only [factsOf, blkI, blkFacts, rowI, byI, datI, nullI, oldI, penI, rdI, rdAnyI, rdOverI, Nat.zero_add, Nat.reduceAdd, and_true, true_and, and_self] at hc'); (focus (first | (go_simp; done) | (go_simp; first | rfl | (rw [if_neg] <;> first | rfl | omega) | (rw [if_pos] <;> first | rfl | omega))))); (try simp only [Act.put, List.setIfInBounds_toArray, List.set]))
    refine Rg4.w4_some (Rg4.want_none rfl) rfl (fun w' hw' hcl' hP => ?_) ?_
    · have hb9 : By w' a9 8 (be8 h) := by
        obtain ⟨a, c, h1, h2, h3⟩ := (hP 1 (by kernel_rfl)).1.2 rfl
        cases h1
        exact h3
      have hb11 : By w' (some ⟨b11, 0, none⟩) 1 [0] := by
        obtain ⟨b, h1, h3⟩ := (hP 3 (by kernel_rfl)).2 rfl
        cases h1
        exact h3
      have st' := st.ext hw'
      have hbx := st'.by (i := 1) get1
      have hx1 := Ext.new w' (.cells #[.slice a9 8 c9, .slice (some ⟨b11, 0, none⟩) 1 1, .slice a n c] 30)
      refine Rg.relAt_value (v := .slice (some ⟨w'.heap.size, 0, none⟩) 3 3) (w' := w'.alloc (.cells #[.slice a9 8 c9, .slice (some ⟨b11, 0, none⟩) 1 1, .slice a n c] 30)) ?_ ⟨hx1, trivial, _, rfl, Bys.lit _ [_, _, _] _ _ _ _ _ rfl rfl ⟨(hb9.ext hx1).isSl hc9.1 hc9.2, (hb11.ext hx1).isSl (by omega) (by simp [maxLen]), (hbx.ext hx1).isSl HC.out.1 HC.out.2, trivial⟩⟩
      go_simp
    rintro v ⟨_, _, _, b14, rfl, _⟩
    (try simp only [Act.put, List.setIfInBounds_toArray, List.set])

    refine Rg4.w4_some (Rg4.want_none rfl) rfl (fun w' hw' hcl' hP => ?_) ?_
    · have hbb : Bys w' (some ⟨b14, 0, none⟩) 3 [be8 h, [0], xs] := by
        obtain ⟨b, h1, h3⟩ := (hP 6 (by kernel_rfl)).2 rfl
        cases h1
        exact h3
      refine Rg.relAt_call (by go_simp; exact ⟨rfl, rfl⟩) ?_
      refine (sum_any _ 3 3 [be8 h, [0], xs] _ (by simp [maxLen]) hbb).mono ?_
      rintro en w'' ⟨rfl, rfl⟩
      exact ⟨_, rfl, Ext.refl _, trivial, by rw [HF.out]; rfl⟩
    rintro v ⟨_, _, _, rfl⟩
    (try simp only [Act.put, List.setIfInBounds_toArray, List.set])
    (refine Rg4.w4_any (Rg4.want_none rfl) rfl ?_; apply Exists.intro; refine ⟨fun w' => ?_, ?_⟩; (focus (first | (go_simp; done) | (go_simp; first | rfl | (rw [if_neg] <;> first | rfl | omega) | (rw [if_pos] <;> first | rfl | omega)))); (try simp only [Act.put, List.setIfInBounds_toArray, List.set]))
    refine Rg4.w4_nil (fun w' hw' hcl' _ => ?_); replace st := st.ext hw'; clear hw' hcl'; (try clear hc); have hc := st.facts; (try simp only [factsOf, blkI, blkFacts, rowI, byI, datI, nullI, oldI, penI, rdI, rdAnyI, rdOverI, Nat.zero_add, Nat.reduceAdd, and_true, true_and, and_self] at hc)
    go_wp2_with fail
    go_ret
    exact ⟨rfl, st.ext0⟩
  | true =>
    go_enter Try.func98, Try.ntmps98
    go_wp2_with ((first
          | ((with_reducible refine wl_box ?_ (fun K hK => ?_)); rfl; refine owp_box (o := ⟨some 3, _, _, _, _, _⟩) rfl st ?_; apply Exists.intro; refine ⟨?_, ?_⟩; (focus (go_simp; try rfl)); (clear st; intro b3 w hb st; clear hb))
          | ((with_reducible refine wl_buildSlice ?_ (fun K hK => ?_)); rfl; refine owp_buildSlice (o := ⟨some 11, _, _, _, _, _⟩) rfl st ?_; apply Exists.intro; apply Exists.intro; apply Exists.intro; apply Exists.intro; refine ⟨?_, ?_⟩; (focus (go_simp; (first | done | exact ⟨⟨rfl, rfl⟩, rfl⟩ | rfl))); (clear st; intro b11 w hb st; clear hb))
          | ((with_reducible refine wl_buildSlice ?_ (fun K hK => ?_)); rfl; refine owp_buildSlice (o := ⟨some 14, _, _, _, _, _⟩) rfl st ?_; apply Exists.intro; apply Exists.intro; apply Exists.intro; apply Exists.intro; refine ⟨?_, ?_⟩; (focus (go_simp; (first | done | exact ⟨⟨rfl, rfl⟩, rfl⟩ | rfl))); (clear st; intro b14 w hb st; clear hb))); (try simp only [Value.cells, List.cons_append, List.nil_append, List.set, spl, putIt, pick, List.map_cons, List.map_nil, List.getElem?_cons_zero, List.getElem?_cons_succ, Option.getD_some, List.drop_succ_cons, List.drop_zero, List.drop_nil, List.append_nil, unB] at st); (try clear hc); have hc := st.facts; (try simp only [factsOf, blkI, blkFacts, rowI, byI, datI, nullI, oldI, penI, rdI, rdAnyI, rdOverI, Nat.zero_add, Nat.reduceAdd, and_true, true_and, and_self] at hc))
    refine Rg4.wp_region4 (Rel := Ext) #[0, 1, 0, 4, 0, 16, 63, 127, 255]
      [(1, ⟨fun v w => ∃ a c, v = .slice a 8 c ∧ (8 ≤ c ∧ c ≤ maxLen) ∧ By w a 8 (be8 h) , fun _ _ _ hx ⟨a, c, h1, h2, h3⟩ => ⟨a, c, h1, h2, h3.ext hx⟩⟩), (3, ⟨fun v w => ∃ b, v = .slice (some ⟨b, 0, none⟩) 1 1 ∧ By w (some ⟨b, 0, none⟩) 1 [1] , fun _ _ _ hx ⟨b, h1, h3⟩ => ⟨b, h1, h3.ext hx⟩⟩), (6, ⟨fun v w => ∃ b, v = .slice (some ⟨b, 0, none⟩) 3 3 ∧ Bys w (some ⟨b, 0, none⟩) 3 [be8 h, [1], xs] , fun _ _ _ hx ⟨b, h1, h3⟩ => ⟨b, h1, h3.ext hx⟩⟩), (7, .val (.int .u64 q))] [] [5] (fun _ => True) [0, 1, 2, 3, 4, 5, 6, 7, 8] (by kernel_rfl) (by kernel_rfl) (by kernel_rfl) (by kernel_rfl) Ext.refl (fun _ _ _ => Ext.trans) (show Rg4.PB _ by repeat (first | with_reducible exact Rg4.pb_body | with_reducible exact Rg4.pb_bodyD rfl | with_reducible refine Rg4.pb_then ?_ | with_reducible refine Rg4.pb_inBlock ?_ | with_reducible refine Rg4.pb_noGoto ?_)) (trivial) ?_
    replace st := st.drew
    change Rg4.wp4 _ _ _ _ _ _ _ _ _ (World.drew _) _ _
    generalize World.drew _ = w at st ⊢
    (try clear hc); have hc := st.facts; (try simp only [factsOf, blkI, blkFacts, rowI, byI, datI, nullI, oldI, penI, rdI, rdAnyI, rdOverI, Nat.zero_add, Nat.reduceAdd, and_true, true_and, and_self] at hc)
    (refine Rg4.w4_any (Rg4.want_none rfl) rfl ?_; apply Exists.intro; refine ⟨fun w' => ?_, ?_⟩; (focus (first | (go_simp; done) | (go_simp; first | rfl | (rw [if_neg] <;> first | rfl | omega) | (rw [if_pos] <;> first | rfl | omega)))); (try simp only [Act.put, List.setIfInBounds_toArray, List.set]))
    refine Rg4.w4_some (Rg4.want_none rfl) rfl (fun w' hw' hcl' _ => ?_) ?_
    · refine Rg.relAt_call (by go_simp; exact ⟨rfl, rfl⟩) ?_
      refine (HE.out _).mono ?_
      rintro en w'' ⟨a1, c1, rfl, hc1, hb1, hx⟩
      exact ⟨_, rfl, hx, trivial, a1, c1, rfl, hc1, hb1⟩
    rintro v ⟨_, _, _, a9, c9, rfl, hc9, _⟩
    (try simp only [Act.put, List.setIfInBounds_toArray, List.set])
    (refine Rg4.w4_any (Rg4.want_none rfl) rfl ?_; apply Exists.intro; refine ⟨fun w' => ?_, ?_⟩; (focus (first | (go_simp; done) | (go_simp; first | rfl | (rw [if_neg] <;> first | rfl | omega) | (rw [if_pos] <;> first | rfl | omega)))); (try simp only [Act.put, List.setIfInBounds_toArray, List.set]))
    refine Rg4.w4_some (Rg4.want_none rfl) rfl (fun w' hw' hcl' _ => ?_) ?_
    · refine Rg.relAt_value (v := .slice (some ⟨w'.heap.size, 0, none⟩) 1 1) (w' := w'.alloc (.cells #[.int .u8 1] 5)) ?_ ⟨Ext.new _ _, trivial, _, rfl, By.lit _ [.int .u8 1] _ _ _ _ _ rfl rfl ⟨rfl, trivial⟩⟩
      go_simp
    rintro v ⟨_, _, _, b11, rfl, _⟩
    (try simp only [Act.put, List.setIfInBounds_toArray, List.set])
    (refine Rg4.w4_any (Rg4.want_none rfl) rfl ?_; apply Exists.intro; refine ⟨fun w' => ?_, ?_⟩; (focus (first | (go_simp; done) | (go_simp; first | rfl | (rw [if_neg] <;> first | rfl | omega) | (rw [if_pos] <;> first | rfl | omega)))); (try simp only [Act.put, List.setIfInBounds_toArray, List.set]))
    (refine Rg4.w4_read (Rg4.want_none rfl) rfl rfl ?_; apply Exists.intro; refine ⟨fun w' hw' hcl' => ?_, ?_⟩; focus (have st' := st.ext hw'; have hc' := st'.facts; (try simp only [factsOf, blkI, blkFacts, rowI, byI, datI, nullI, oldI, penI, rdI, rdAnyI, rdOverI, Nat.zero_add, Nat.reduceAdd, and_true, true_and, and_self] at hc'); (focus (first | (go_simp; done) | (go_simp; first | rfl | (rw [if_neg] <;> first | rfl | omega) | (rw [if_pos] <;> first | rfl | omega))))); (try simp only [Act.put, List.setIfInBounds_toArray, List.set]))
    refine Rg4.w4_some (Rg4.want_none rfl) rfl (fun w' hw' hcl' hP => ?_) ?_
    · have hb9 : By w' a9 8 (be8 h) := by
        obtain ⟨a, c, h1, h2, h3⟩ := (hP 1 (by kernel_rfl)).1.2 rfl
        cases h1
        exact h3
      have hb11 : By w' (some ⟨b11, 0, none⟩) 1 [1] := by
        obtain ⟨b, h1, h3⟩ := (hP 3 (by kernel_rfl)).2 rfl
        cases h1
        exact h3
      have st' := st.ext hw'
      have hbx := st'.by (i := 1) get1
      have hx1 := Ext.new w' (.cells #[.slice a9 8 c9, .slice (some ⟨b11, 0, none⟩) 1 1, .slice a n c] 30)
      refine Rg.relAt_value (v := .slice (some ⟨w'.heap.size, 0, none⟩) 3 3) (w' := w'.alloc (.cells #[.slice a9 8 c9, .slice (some ⟨b11, 0, none⟩) 1 1, .slice a n c] 30)) ?_ ⟨hx1, trivial, _, rfl, Bys.lit _ [_, _, _] _ _ _ _ _ rfl rfl ⟨(hb9.ext hx1).isSl hc9.1 hc9.2, (hb11.ext hx1).isSl (by omega) (by simp [maxLen]), (hbx.ext hx1).isSl HC.out.1 HC.out.2, trivial⟩⟩
      go_simp
    rintro v ⟨_, _, _, b14, rfl, _⟩
    (try simp only [Act.put, List.setIfInBounds_toArray, List.set])

    refine Rg4.w4_some (Rg4.want_none rfl) rfl (fun w' hw' hcl' hP => ?_) ?_
    · have hbb : Bys w' (some ⟨b14, 0, none⟩) 3 [be8 h, [1], xs] := by
        obtain ⟨b, h1, h3⟩ := (hP 6 (by kernel_rfl)).2 rfl
        cases h1
        exact h3
      refine Rg.relAt_call (by go_simp; exact ⟨rfl, rfl⟩) ?_
      refine (sum_any _ 3 3 [be8 h, [1], xs] _ (by simp [maxLen]) hbb).mono ?_
      rintro en w'' ⟨rfl, rfl⟩
      exact ⟨_, rfl, Ext.refl _, trivial, by rw [HF.out]; rfl⟩
    rintro v ⟨_, _, _, rfl⟩
    (try simp only [Act.put, List.setIfInBounds_toArray, List.set])
    (refine Rg4.w4_any (Rg4.want_none rfl) rfl ?_; apply Exists.intro; refine ⟨fun w' => ?_, ?_⟩; (focus (first | (go_simp; done) | (go_simp; first | rfl | (rw [if_neg] <;> first | rfl | omega) | (rw [if_pos] <;> first | rfl | omega)))); (try simp only [Act.put, List.setIfInBounds_toArray, List.set]))
    refine Rg4.w4_nil (fun w' hw' hcl' _ => ?_); replace st := st.ext hw'; clear hw' hcl'; (try clear hc); have hc := st.facts; (try simp only [factsOf, blkI, blkFacts, rowI, byI, datI, nullI, oldI, penI, rdI, rdAnyI, rdOverI, Nat.zero_add, Nat.reduceAdd, and_true, true_and, and_self] at hc)
    go_wp2_with fail
    go_ret
    exact ⟨rfl, st.ext0⟩
end Go.Proofs.Ytcminppmmhinjaa
