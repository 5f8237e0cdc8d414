/- The reference's names. -/
import Derived.Test.YtpenjnccdachaaaNameL
namespace Go.Proofs.Ytpenjnccdachaaa
set_option linter.unusedSimpArgs false
set_option linter.unusedVariables false
open Go Go.RowKit
theorem ba_get (l : List UInt8) (j : Nat) (h : j < (⟨l.toArray⟩ : ByteArray).size) : (⟨l.toArray⟩ : ByteArray)[j] = l[j]'(by simpa [ByteArray.size] using h) := by
  simp [ByteArray.getElem_eq_getElem_data]
set_option maxRecDepth 100000 in
set_option maxHeartbeats 1000000 in
theorem refRight_any (s : List UInt8) (W : World) (hs : s.length ≤ 1000000000) : Calls Try.prog 36 #[S s] W fun e w' => e = .returned (.bool (nameR s)) ∧ Ext W w' := by
  unfold S
  cases s with
  | nil =>
    go_enter Try.func36, Try.ntmps36
    go_wp2_with fail
    go_ret
    exact ⟨rfl, Ext.refl _⟩
  | cons c s =>
    have hsz : (⟨(c :: s).toArray⟩ : ByteArray).size = s.length + 1 := by simp [ByteArray.size]
    have hg0 : ∀ h, (⟨(c :: s).toArray⟩ : ByteArray)[0]'h = c := fun h => ba_get _ _ h
    have hlen : (c :: s).length = s.length + 1 := rfl
    have HL := Lib.hid (show nameR (c :: s) = (decide (s.length + 1 ≤ 16) && ltr c && (c :: s).all sgn) from rfl)
    by_cases h16 : s.length + 1 ≤ 16
    · by_cases hc1 : 97 ≤ c.toNat
      · by_cases hc2 : c.toNat ≤ 122
        · have hb1 : decide ((c.toNat : Int) < 97) = false := by simp; omega
          have hb2 : decide (122 < (c.toNat : Int)) = false := by simp; omega
          have HN : Hid (nameR (c :: s) = (c :: s).all sgn) := Lib.hid (by rw [HL.out]; simp [h16, ltr, hc1, hc2])
          rw [HN.out]
          generalize hA : (c :: s).all sgn = A at *
          have HA := Lib.hid hA
          clear HN HL hc1 hc2 hA
          go_enter Try.func36, Try.ntmps36
          go_wp2_with fail
          clear hb1 hb2 hg0
          generalize hS : c :: s = S at *
          clear hS
          have hA := HA.out
          subst hA
          clear HA
          go_loopw [3] (fun i wr => ∃ j : Nat, j ≤ S.length ∧ i = .int .i64 (j : Int) ∧ Hid ((S.take j).all sgn = true) ∧ Ext W wr) (fun i _ => S.length - (intOf i).toNat)
          case atStart => exact ⟨0, by omega, rfl, Lib.hid (by simp), Ext.refl _⟩
          case round =>
            obtain ⟨j, hj, rfl, HT, hx⟩ := hrel
            have HX := Lib.hid hx
            clear hx
            by_cases hjn : j < S.length
            · have hgj : ∀ h, (⟨S.toArray⟩ : ByteArray)[j]'h = S[j] := fun h => ba_get _ _ h
              have hts : S.take (j + 1) = S.take j ++ [S[j]] := (List.take_append_getElem hjn).symm
              have hall : S.all sgn = (S.take j ++ S[j] :: S.drop (j + 1)).all sgn := by rw [← List.drop_eq_getElem_cons hjn, List.take_append_drop]
              obtain ⟨x, hxj⟩ : ∃ x, S[j] = x := ⟨_, rfl⟩
              rw [hxj] at hts hall
              have hgx : ∀ h, S[j]'h = x := fun _ => hxj
              have hgy : ∀ h, (⟨S.toArray⟩ : ByteArray)[j]'h = x := fun h => (ba_get _ _ h).trans hxj
              clear hxj hgj
              have HX2 := Lib.hid (And.intro hts hall)
              clear hts hall
              have HOK : sgn x = true → Hid ((S.take (j + 1)).all sgn = true) := fun h => Lib.hid (by rw [HX2.out.1, List.all_append, HT.out]; simp [h])
              have HNO : sgn x = false → Hid (S.all sgn = false) := fun h => Lib.hid (by rw [HX2.out.2, List.all_append, List.all_cons, h]; simp)
              have hsg : sgn x = decide ((97 ≤ x.toNat ∧ x.toNat ≤ 122) ∨ (48 ≤ x.toNat ∧ x.toNat ≤ 57) ∨ x.toNat = 45) := by unfold sgn ltr; simp [Bool.or_assoc]
              have H3 := Lib.hid (And.intro HOK (And.intro HNO hsg))
              clear HOK HNO hsg HX2 HT
              go_wp2_with fail
              all_goals (try simp only [bne_eq_false_iff_eq, bne_iff_ne, ne_eq] at *)
              all_goals first
                | exact ⟨⟨j + 1, by omega, by go_num, H3.out.1 (by rw [H3.out.2.2]; simp; omega), HX.out⟩, by simp [intOf]; omega⟩
                | (go_ret; exact ⟨by rw [(H3.out.2.1 (by rw [H3.out.2.2]; simp; omega)).out]; rfl, HX.out⟩)
            · obtain rfl : j = S.length := by omega
              have e : S.all sgn = true := by have := HT.out; rwa [List.take_length] at this
              have HE := Lib.hid e
              clear e
              go_wp2_with fail
              go_ret
              exact ⟨by rw [HE.out]; rfl, HX.out⟩
        · have hb1 : decide ((c.toNat : Int) < 97) = false := by simp; omega
          have hb2 : decide (122 < (c.toNat : Int)) = true := by simp; omega
          have HN : Hid (nameR (c :: s) = false) := Lib.hid (by rw [HL.out]; simp [ltr, hc2])
          clear HL hc1 hc2
          go_enter Try.func36, Try.ntmps36
          go_wp2_with fail
          go_ret
          exact ⟨by rw [HN.out]; rfl, Ext.refl _⟩
      · have hb1 : decide ((c.toNat : Int) < 97) = true := by simp; omega
        have HN : Hid (nameR (c :: s) = false) := Lib.hid (by rw [HL.out]; simp [ltr, hc1])
        clear HL hc1
        go_enter Try.func36, Try.ntmps36
        go_wp2_with fail
        go_ret
        exact ⟨by rw [HN.out]; rfl, Ext.refl _⟩
    · have HN : Hid (nameR (c :: s) = false) := Lib.hid (by rw [HL.out]; simp [h16])
      clear HL
      go_enter Try.func36, Try.ntmps36
      go_wp2_with fail
      go_ret
      exact ⟨by rw [HN.out]; rfl, Ext.refl _⟩
set_option maxRecDepth 100000 in
set_option maxHeartbeats 1000000 in
theorem refHas_any (a : Option Addr) (n c : Nat) (l : List (List UInt8)) (s : List UInt8) (W : World) (h : Fl W a n l) (hn : n ≤ 9000000000000000000) : Calls Try.prog 41 #[.slice a n c, S s] W fun e w' => e = .returned (.bool (decide (s ∈ l))) ∧ Ext W w' := by
  have H := Lib.hid h
  have hnl : n = l.length := h.1
  have HNL := Lib.hid hnl
  clear h hnl
  have st := Own.startOld W
  (try simp only [Value.cells, List.cons_append, List.nil_append, List.set, spl, putIt, pick, List.map_cons, List.map_nil, List.getElem?_cons_zero, List.getElem?_cons_succ, Option.getD_some, List.drop_succ_cons, List.drop_zero, List.drop_nil, List.append_nil, unB] at st)
  (try clear hc); have hc := st.facts; (try simp only [factsOf, blkI, blkFacts, rowI, byI, datI, nullI, oldI, penI, rdI, rdAnyI, rdOverI, Nat.zero_add, Nat.reduceAdd, and_true, true_and, and_self] at hc)
  unfold S
  go_enter Try.func41, Try.ntmps41
  go_wp2_with fail
  go_loopw [9] (fun i wr => ∃ (j : Nat), j ≤ n ∧ i = .int .i64 (j : Int) ∧ Hid (∀ x ∈ l.take j, x ≠ s) ∧ Own (fun _ => False) (fun _ => True) W [oldI W] wr) (fun i _ => n - (intOf i).toNat)
  case atStart => exact ⟨0, by omega, rfl, Lib.hid (by simp), st⟩
  case round =>
    obtain ⟨j, hj, rfl, HT, st'⟩ := hrel
    clear st hc
    have st := st'
    clear st'
    (try simp only [Value.cells, List.cons_append, List.nil_append, List.set, spl, putIt, pick, List.map_cons, List.map_nil, List.getElem?_cons_zero, List.getElem?_cons_succ, Option.getD_some, List.drop_succ_cons, List.drop_zero, List.drop_nil, List.append_nil, unB] at st)
    (try clear hc); have hc := st.facts; (try simp only [factsOf, blkI, blkFacts, rowI, byI, datI, nullI, oldI, penI, rdI, rdAnyI, rdOverI, Nat.zero_add, Nat.reduceAdd, and_true, true_and, and_self] at hc)
    by_cases hjn : j < n
    · obtain ⟨b, off, ha, hcell⟩ := H.out.str (by omega)
      have hjl : j < l.length := by have := HNL.out; omega
      have r0 := st.oldCell (i := 0) get0 (hcell j l[j] (List.getElem?_eq_getElem hjl))
      have hts : l.take (j + 1) = l.take j ++ [l[j]] := (List.take_append_getElem hjl).symm
      have hin : l[j] ∈ l := List.getElem_mem hjl
      clear hcell
      generalize l[j] = x at *
      have HX := Lib.hid (And.intro hts hin)
      clear hts hin
      subst ha
      unfold S at r0
      by_cases hxs : x = s
      · subst hxs
        have hb : (x == x) = true := by simp
        go_wp2_with fail
        go_ret
        exact ⟨by rw [decide_eq_true HX.out.2]; rfl, st.ext0⟩
      · have hb : (x == s) = false := by simpa using hxs
        go_wp2_with fail
        exact ⟨⟨j + 1, by omega, by go_num, Lib.hid (fun y hy => by
          rw [HX.out.1] at hy
          rcases List.mem_append.1 hy with q | q
          · exact HT.out y q
          · rw [List.mem_singleton.1 q]; exact hxs), st⟩, by simp [intOf]; omega⟩
    · obtain rfl : j = n := by omega
      have HF : Hid (s ∉ l) := Lib.hid (fun hs => by have := HT.out; rw [List.take_of_length_le (by have := HNL.out; omega)] at this; exact this s hs rfl)
      go_wp2_with fail
      go_ret
      exact ⟨by rw [decide_eq_false HF.out]; rfl, st.ext0⟩
def sameL {α : Type} [DecidableEq α] (a b : List α) : Bool := decide (a = b)
set_option maxRecDepth 100000 in
set_option maxHeartbeats 1000000 in
theorem refSame_any (a : Option Addr) (n c : Nat) (l : List (List UInt8)) (a' : Option Addr) (n' c' : Nat) (l' : List (List UInt8)) (W : World) (h : Fl W a n l) (h' : Fl W a' n' l') (hn : n ≤ 9000000000000000000) (hn' : n' ≤ 9000000000000000000) :
    Calls Try.prog 37 #[.slice a n c, .slice a' n' c'] W fun e w' => e = .returned (.bool (decide (l = l'))) ∧ Ext W w' := by
  have H := Lib.hid h
  have H' := Lib.hid h'
  have HNL := Lib.hid (And.intro h.1 h'.1)
  clear h h'
  have st := Own.startOld W
  (try simp only [Value.cells, List.cons_append, List.nil_append, List.set, spl, putIt, pick, List.map_cons, List.map_nil, List.getElem?_cons_zero, List.getElem?_cons_succ, Option.getD_some, List.drop_succ_cons, List.drop_zero, List.drop_nil, List.append_nil, unB] at st)
  (try clear hc); have hc := st.facts; (try simp only [factsOf, blkI, blkFacts, rowI, byI, datI, nullI, oldI, penI, rdI, rdAnyI, rdOverI, Nat.zero_add, Nat.reduceAdd, and_true, true_and, and_self] at hc)
  by_cases hnn : n = n'
  · subst hnn
    go_enter Try.func37, Try.ntmps37
    go_wp2_with fail
    go_loopw [13] (fun i wr => ∃ (j : Nat), j ≤ n ∧ i = .int .i64 (j : Int) ∧ Hid (l.take j = l'.take j) ∧ Own (fun _ => False) (fun _ => True) W [oldI W] wr) (fun i _ => n - (intOf i).toNat)
    case atStart => exact ⟨0, by omega, rfl, Lib.hid (by simp), st⟩
    case round =>
      obtain ⟨j, hj, rfl, HT, st'⟩ := hrel
      clear st hc
      have st := st'
      clear st'
      (try simp only [Value.cells, List.cons_append, List.nil_append, List.set, spl, putIt, pick, List.map_cons, List.map_nil, List.getElem?_cons_zero, List.getElem?_cons_succ, Option.getD_some, List.drop_succ_cons, List.drop_zero, List.drop_nil, List.append_nil, unB] at st)
      (try clear hc); have hc := st.facts; (try simp only [factsOf, blkI, blkFacts, rowI, byI, datI, nullI, oldI, penI, rdI, rdAnyI, rdOverI, Nat.zero_add, Nat.reduceAdd, and_true, true_and, and_self] at hc)
      by_cases hjn : j < n
      · obtain ⟨b, off, ha, hcell⟩ := H.out.str (by omega)
        obtain ⟨b', off', ha', hcell'⟩ := H'.out.str (by omega)
        have hjl : j < l.length := by have := HNL.out; omega
        have hjl' : j < l'.length := by have := HNL.out; omega
        have HC := Lib.hid (And.intro (hcell j l[j] (List.getElem?_eq_getElem hjl)) (hcell' j l'[j] (List.getElem?_eq_getElem hjl')))
        have hts : l.take (j + 1) = l.take j ++ [l[j]] := (List.take_append_getElem hjl).symm
        have hts' : l'.take (j + 1) = l'.take j ++ [l'[j]] := (List.take_append_getElem hjl').symm
        have hne : l[j] ≠ l'[j] → l ≠ l' := fun h1 h2 => h1 (by subst h2; rfl)
        clear hcell hcell'
        generalize l[j] = x at *
        generalize l'[j] = y at *
        have HX := Lib.hid (And.intro hts (And.intro hts' hne))
        clear hts hts' hne
        subst ha
        subst ha'
        unfold S at HC
        go_wp2_with fail
        refine Rg4.wp_region4_eq #[0, 0, 3, 7, 0, 0, 48, 112, 255] [] [3, 7] (fun _ => True) [0, 1, 2, 3, 4, 5, 6, 7, 8] (by kernel_rfl) (by kernel_rfl) (by kernel_rfl) (by kernel_rfl) (show Rg4.PB _ by repeat (first | with_reducible exact Rg4.pb_body | with_reducible exact Rg4.pb_bodyD rfl | with_reducible refine Rg4.pb_then ?_ | with_reducible refine Rg4.pb_inBlock ?_ | with_reducible refine Rg4.pb_noGoto ?_)) (trivial) ?_
        replace st := st.drew
        change Rg4.wp4 _ _ _ _ _ _ _ _ _ (World.drew _) _ _
        generalize World.drew _ = w at st ⊢
        (try clear hc); have hc := st.facts; (try simp only [factsOf, blkI, blkFacts, rowI, byI, datI, nullI, oldI, penI, rdI, rdAnyI, rdOverI, Nat.zero_add, Nat.reduceAdd, and_true, true_and, and_self] at hc)
        (refine Rg4.w4_any (Rg4.want_none rfl) rfl ?_; apply Exists.intro; refine ⟨fun w' => ?_, ?_⟩; (focus (first | (go_simp; done) | (go_simp; first | rfl | (rw [if_neg] <;> first | rfl | omega) | (rw [if_pos] <;> first | rfl | omega)))); (try simp only [Act.put, List.setIfInBounds_toArray, List.set]))
        (refine Rg4.w4_any (Rg4.want_none rfl) rfl ?_; apply Exists.intro; refine ⟨fun w' => ?_, ?_⟩; (focus (first | (go_simp; done) | (go_simp; first | rfl | (rw [if_neg] <;> first | rfl | omega) | (rw [if_pos] <;> first | rfl | omega)))); (try simp only [Act.put, List.setIfInBounds_toArray, List.set]))
        (refine Rg4.w4_any (Rg4.want_none rfl) rfl ?_; apply Exists.intro; refine ⟨fun w' => ?_, ?_⟩; (focus (first | (go_simp; done) | (go_simp; first | rfl | (rw [if_neg] <;> first | rfl | omega) | (rw [if_pos] <;> first | rfl | omega)))); (try simp only [Act.put, List.setIfInBounds_toArray, List.set]))
        (refine Rg4.w4_read (Rg4.want_none rfl) rfl rfl ?_; apply Exists.intro; refine ⟨fun w' hw' hcl' => ?_, ?_⟩; focus (subst hw'; have r0 := st.oldCell (i := 0) get0 HC.out.1; have r1 := st.oldCell (i := 0) get0 HC.out.2; (focus (first | (go_simp; done) | (go_simp; first | rfl | (rw [if_neg] <;> first | rfl | omega) | (rw [if_pos] <;> first | rfl | omega))))); (try simp only [Act.put, List.setIfInBounds_toArray, List.set]))
        (refine Rg4.w4_any (Rg4.want_none rfl) rfl ?_; apply Exists.intro; refine ⟨fun w' => ?_, ?_⟩; (focus (first | (go_simp; done) | (go_simp; first | rfl | (rw [if_neg] <;> first | rfl | omega) | (rw [if_pos] <;> first | rfl | omega)))); (try simp only [Act.put, List.setIfInBounds_toArray, List.set]))
        (refine Rg4.w4_any (Rg4.want_none rfl) rfl ?_; apply Exists.intro; refine ⟨fun w' => ?_, ?_⟩; (focus (first | (go_simp; done) | (go_simp; first | rfl | (rw [if_neg] <;> first | rfl | omega) | (rw [if_pos] <;> first | rfl | omega)))); (try simp only [Act.put, List.setIfInBounds_toArray, List.set]))
        (refine Rg4.w4_any (Rg4.want_none rfl) rfl ?_; apply Exists.intro; refine ⟨fun w' => ?_, ?_⟩; (focus (first | (go_simp; done) | (go_simp; first | rfl | (rw [if_neg] <;> first | rfl | omega) | (rw [if_pos] <;> first | rfl | omega)))); (try simp only [Act.put, List.setIfInBounds_toArray, List.set]))
        (refine Rg4.w4_read (Rg4.want_none rfl) rfl rfl ?_; apply Exists.intro; refine ⟨fun w' hw' hcl' => ?_, ?_⟩; focus (subst hw'; have r0 := st.oldCell (i := 0) get0 HC.out.1; have r1 := st.oldCell (i := 0) get0 HC.out.2; (focus (first | (go_simp; done) | (go_simp; first | rfl | (rw [if_neg] <;> first | rfl | omega) | (rw [if_pos] <;> first | rfl | omega))))); (try simp only [Act.put, List.setIfInBounds_toArray, List.set]))
        (refine Rg4.w4_any (Rg4.want_none rfl) rfl ?_; apply Exists.intro; refine ⟨fun w' => ?_, ?_⟩; (focus (first | (go_simp; done) | (go_simp; first | rfl | (rw [if_neg] <;> first | rfl | omega) | (rw [if_pos] <;> first | rfl | omega)))); (try simp only [Act.put, List.setIfInBounds_toArray, List.set]))
        refine Rg4.w4_nil (fun w' hw' hcl' _ => ?_); subst hw'; clear hcl'
        by_cases hxy : x = y
        · subst hxy
          have hb : (!(x == x)) = false := by simp
          simp only [hb]
          go_wp2_with fail
          exact ⟨⟨j + 1, by omega, by go_num, Lib.hid (by rw [HX.out.1, HX.out.2.1, HT.out]), st⟩, by simp [intOf]; omega⟩
        · have HF : Hid (l ≠ l') := Lib.hid (HX.out.2.2 hxy)
          have hb : (!(x == y)) = true := by simpa using hxy
          simp only [hb]
          go_wp2_with fail
          go_ret
          exact ⟨by rw [decide_eq_false HF.out]; rfl, st.ext0⟩
      · obtain rfl : j = n := by omega
        have HF : Hid (l = l') := Lib.hid (by have := HT.out; rw [List.take_of_length_le (by have := HNL.out; omega), List.take_of_length_le (by have := HNL.out; omega)] at this; exact this)
        go_wp2_with fail
        go_ret
        exact ⟨by rw [decide_eq_true HF.out]; rfl, st.ext0⟩
  · have HF : Hid (l ≠ l') := Lib.hid (fun h => hnn (by rw [HNL.out.1, HNL.out.2, h]))
    go_enter Try.func37, Try.ntmps37
    go_wp2_with fail
    go_ret
    exact ⟨by rw [decide_eq_false HF.out]; rfl, st.ext0⟩
end Go.Proofs.Ytpenjnccdachaaa
