/- ententelaw03: long; the reference's Both; the law NameSets. -/
import Derived.Test.YtpenjnccdachaaaNameF
namespace Go.Proofs.Ytpenjnccdachaaa
set_option linter.unusedSimpArgs false
set_option linter.unusedVariables false
open Go Go.RowKit
/-- How great texts are. -/
def weight (l : List (List UInt8)) : Nat := (l.map fun s => s.length + 1).sum
theorem weight_snoc (l : List (List UInt8)) (x : List UInt8) : weight (l ++ [x]) = weight l + (x.length + 1) := by simp [weight]
theorem weight_cons (l : List (List UInt8)) (x : List UInt8) : weight (x :: l) = x.length + 1 + weight l := by simp [weight]
theorem weight_take : ∀ (l : List (List UInt8)) (j : Nat), weight (l.take j) ≤ weight l
  | [], j => by simp [weight]
  | x :: l, 0 => by simp [weight]
  | x :: l, j + 1 => by have := weight_take l j; rw [List.take_succ_cons, weight_cons, weight_cons]; omega
theorem weight_len : ∀ (l : List (List UInt8)), l.length ≤ weight l
  | [] => by simp [weight]
  | x :: l => by have := weight_len l; rw [weight_cons, List.length_cons]; omega
theorem weight_mem : ∀ (l : List (List UInt8)) (x : List UInt8), x ∈ l → x.length ≤ weight l
  | [], x, h => by simp at h
  | y :: l, x, h => by
    rw [weight_cons]
    rcases List.mem_cons.1 h with e | e
    · subst e; omega
    · have := weight_mem l x e; omega
set_option maxRecDepth 100000 in
set_option maxHeartbeats 1000000 in
theorem nameLong_any (a : Option Addr) (n c : Nat) (l : List (List UInt8)) (W : World) (h : Fl W a n l) (hw : weight l ≤ 2000000000) :
    Calls Try.prog 32 #[.slice a n c] W fun e w' => e = .returned (.bool (decide (600 < weight l))) ∧ Ext W w' := by
  have hnw : n ≤ 2000000000 := by have := weight_len l; have := h.1; omega
  have H := Lib.hid h
  have HN := Lib.hid (And.intro h.1 hw)
  have st := Own.startOld W
  clear h hw
  (try simp only [Value.cells, List.cons_append, List.nil_append, List.set, spl, putIt, pick, List.map_cons, List.map_nil, List.getElem?_cons_zero, List.getElem?_cons_succ, Option.getD_some, List.drop_succ_cons, List.drop_zero, List.drop_nil, List.append_nil, unB] at st)
  (try clear hc); have hc := st.facts; (try simp only [factsOf, blkI, blkFacts, rowI, byI, datI, nullI, oldI, penI, rdI, rdAnyI, rdOverI, Nat.zero_add, Nat.reduceAdd, and_true, true_and, and_self] at hc)
  go_enter Try.func32, Try.ntmps32
  go_wp2_with fail
  go_loopg [3, 8] n (fun k v i wr => ∃ (j q : Nat), j ≤ n ∧ k = n - j ∧ q ≤ 2000000000 ∧ Hid (q = weight (l.take j)) ∧ i = .int .i64 (j : Int) ∧ v = .int .i64 (q : Int) ∧ Own (fun _ => False) (fun _ => True) W [oldI W] wr)
  case atStart => exact ⟨0, 0, by omega, by omega, by omega, Lib.hid (by simp [weight]), rfl, rfl, st⟩
  case round =>
    obtain ⟨j, q, hj, rfl, hq, HQ, rfl, rfl, st'⟩ := hrel
    clear st hc
    have st := st'
    clear st'
    (try simp only [Value.cells, List.cons_append, List.nil_append, List.set, spl, putIt, pick, List.map_cons, List.map_nil, List.getElem?_cons_zero, List.getElem?_cons_succ, Option.getD_some, List.drop_succ_cons, List.drop_zero, List.drop_nil, List.append_nil, unB] at st)
    (try clear hc); have hc := st.facts; (try simp only [factsOf, blkI, blkFacts, rowI, byI, datI, nullI, oldI, penI, rdI, rdAnyI, rdOverI, Nat.zero_add, Nat.reduceAdd, and_true, true_and, and_self] at hc)
    by_cases hjn : j < n
    · obtain ⟨b, off, ha, hcell⟩ := H.out.str (by omega)
      have hjl : j < l.length := by have := HN.out.1; omega
      have r0 := st.oldCell (i := 0) get0 (hcell j l[j] (List.getElem?_eq_getElem hjl))
      have hts : l.take (j + 1) = l.take j ++ [l[j]] := (List.take_append_getElem hjl).symm
      have hw1 := weight_take l (j + 1)
      rw [hts, weight_snoc, ← HQ.out] at hw1
      have hw2 : q + (1 + l[j].length) ≤ 2000000000 := by have := HN.out.2; omega
      have HX : Hid (q + (1 + l[j].length) = weight (l.take (j + 1))) := Lib.hid (by rw [hts, weight_snoc, ← HQ.out]; omega)
      clear hcell hts hw1
      generalize l[j] = x at *
      clear hjl
      subst ha
      unfold S at r0
      have hsz : (⟨x.toArray⟩ : ByteArray).size = x.length := by simp [ByteArray.size]
      go_wp2_with fail
      go_roundg (n - (j + 1))
      case measure => omega
      case rel => exact ⟨j + 1, q + (1 + x.length), by omega, rfl, hw2, HX, by go_num, by go_num, st⟩
    · obtain rfl : j = n := by omega
      have htk : weight l = q := by rw [HQ.out, List.take_of_length_le (by have := HN.out.1; omega)]
      have HE := Lib.hid htk
      clear htk
      go_wp2_with fail
      go_ret
      refine ⟨?_, st.ext0⟩
      rw [HE.out]
      show Ending.returned (Value.bool (decide ((600 : Int) < (q : Int)))) = _
      congr 2
      rw [Bool.eq_iff_iff]; simp; omega
set_option maxRecDepth 100000 in
set_option maxHeartbeats 1000000 in
theorem refBoth_any (a : Option Addr) (n c : Nat) (l : List (List UInt8)) (a' : Option Addr) (n' c' : Nat) (l' : List (List UInt8)) (W : World) (h : Fl W a n l) (h' : Fl W a' n' l') (hn : n ≤ 900000) (hn' : n' ≤ 900000) (hs : ∀ x ∈ l, x.length ≤ 100000) :
    Calls Try.prog 34 #[.slice a n c, .slice a' n' c'] W fun e w' => ∃ va vc, e = .returned (.slice va (nameBoth l l').length vc) ∧ NewStr W w' va vc (nameBoth l l') := by
  have H := Lib.hid (And.intro h (And.intro h' hs))
  have HL : Hid ((nameSet l).length ≤ 900000) := Lib.hid (Nat.le_trans (nameSet_len l) (h.1 ▸ hn))
  clear h h' hs
  have st := (Own.startOld W).row_nil 9 1
  (try simp only [Value.cells, List.cons_append, List.nil_append, List.set, spl, putIt, pick, List.map_cons, List.map_nil, List.getElem?_cons_zero, List.getElem?_cons_succ, Option.getD_some, List.drop_succ_cons, List.drop_zero, List.drop_nil, List.append_nil, unB] at st)
  (try clear hc); have hc := st.facts; (try simp only [factsOf, blkI, blkFacts, rowI, byI, datI, nullI, oldI, penI, rdI, rdAnyI, rdOverI, Nat.zero_add, Nat.reduceAdd, and_true, true_and, and_self] at hc)
  go_enter Try.func34, Try.ntmps34
  go_wp2_with fail
  refine (refSet_c a n c l _ (st.oldFl (i := 0) get0 H.out.1) (by omega) (fun x hx => by have := H.out.2.2 x hx; omega)).mono ?_
  rintro en w ⟨va, vc, rfl, hnew⟩
  replace st := st.fresh hnew
  clear hnew
  have HB : Hid (nameBoth l l' = (nameSet l).filter fun x => decide (x ∈ l')) := Lib.hid rfl
  obtain ⟨p, hp⟩ : ∃ p, nameBoth l l' = p := ⟨_, rfl⟩
  rw [hp] at HB
  have HP := Lib.hid hp
  clear hp
  obtain ⟨ss, hss⟩ : ∃ ss, nameSet l = ss := ⟨_, rfl⟩
  rw [hss] at HB HL st ⊢
  obtain ⟨k0, hk0⟩ : ∃ k0, ss.length = k0 := ⟨_, rfl⟩
  rw [hk0] at HL st ⊢
  have HK := Lib.hid (And.intro hk0 hss)
  clear hk0 hss
  (try simp only [Value.cells, List.cons_append, List.nil_append, List.set, spl, putIt, pick, List.map_cons, List.map_nil, List.getElem?_cons_zero, List.getElem?_cons_succ, Option.getD_some, List.drop_succ_cons, List.drop_zero, List.drop_nil, List.append_nil, unB] at st)
  (try clear hc); have hc := st.facts; (try simp only [factsOf, blkI, blkFacts, rowI, byI, datI, nullI, oldI, penI, rdI, rdAnyI, rdOverI, Nat.zero_add, Nat.reduceAdd, and_true, true_and, and_self] at hc)
  have hk9 : k0 ≤ 900000 := HL.out
  go_wp2_with fail
  go_loopg [5, 11] k0 (fun k v i wr => ∃ (j m : Nat) (ua : Option Addr) (uc : Nat), j ≤ k0 ∧ k = k0 - j ∧ m ≤ j ∧ i = .int .i64 (j : Int) ∧ v = .slice ua m uc ∧ Own (fun _ => False) (fun _ => True) W [oldI W, rowI 9 1 (.slice ua m uc) m (cellsL ((ss.take j).filter fun x => decide (x ∈ l'))), rowI 9 1 (.slice va k0 vc) k0 (cellsL ss)] wr)
  case atStart => exact ⟨0, 0, none, 0, by omega, by omega, by omega, rfl, rfl, st⟩
  case round =>
    obtain ⟨j, m, ua, uc, hj, rfl, hmj, rfl, rfl, st'⟩ := hrel
    clear st hc
    have st := st'
    clear st'
    (try simp only [Value.cells, List.cons_append, List.nil_append, List.set, spl, putIt, pick, List.map_cons, List.map_nil, List.getElem?_cons_zero, List.getElem?_cons_succ, Option.getD_some, List.drop_succ_cons, List.drop_zero, List.drop_nil, List.append_nil, unB] at st)
    (try clear hc); have hc := st.facts; (try simp only [factsOf, blkI, blkFacts, rowI, byI, datI, nullI, oldI, penI, rdI, rdAnyI, rdOverI, Nat.zero_add, Nat.reduceAdd, and_true, true_and, and_self] at hc)
    by_cases hjn : j < k0
    · obtain ⟨g, cap', hv, hcap, hrow⟩ := st.rowAt (i := 2) get2 (by omega)
      injection hv with hv1 hv2 hv3
      subst hv1 hv3
      have hjl : j < ss.length := by have := HK.out.1; omega
      have r0 := hrow j (S ss[j]) (by rw [str_get, List.getElem?_eq_getElem hjl]; rfl)
      have hts : ss.take (j + 1) = ss.take j ++ [ss[j]] := (List.take_append_getElem hjl).symm
      clear hrow
      generalize ss[j] = x at *
      have HX := Lib.hid hts
      clear hts hjl
      unfold S at r0
      have hF := Lib.hid (st.oldFl (i := 0) get0 H.out.2.1)
      go_wp2_with fail
      refine (refHas_any _ _ _ l' x _ hF.out (by omega)).mono ?_
      rintro en w ⟨rfl, hx⟩
      replace st := st.ext hx
      clear hx hF r0
      (try simp only [Value.cells, List.cons_append, List.nil_append, List.set, spl, putIt, pick, List.map_cons, List.map_nil, List.getElem?_cons_zero, List.getElem?_cons_succ, Option.getD_some, List.drop_succ_cons, List.drop_zero, List.drop_nil, List.append_nil, unB] at st)
      (try clear hc); have hc := st.facts; (try simp only [factsOf, blkI, blkFacts, rowI, byI, datI, nullI, oldI, penI, rdI, rdAnyI, rdOverI, Nat.zero_add, Nat.reduceAdd, and_true, true_and, and_self] at hc)
      by_cases hr : x ∈ l'
      · have hr1 : decide (x ∈ l') = true := decide_eq_true hr
        rw [hr1]
        have HF : Hid ((ss.take (j + 1)).filter (fun x => decide (x ∈ l')) = (ss.take j).filter (fun x => decide (x ∈ l')) ++ [x]) := Lib.hid (by rw [HX.out, List.filter_append]; simp [hr])
        clear hr hr1
        go_wp2_with (first
            | ((with_reducible refine wl_append ?_ (fun K hK => ?_)); (rfl); (obtain ⟨inf, hinf, hz0, hz1, hz2⟩ := strInfo); (refine owp_append rfl st 1 get1 Try.underlying64 hinf hz0 hz1 hz2 rfl (by decide) rfl rfl ((st.blk (i := 3) get3).flat rfl) (by first | exact cellsL_all _ | simp [Value.oneCell']) (by simp only [maxLen]; omega) (by omega) ?_); (clear hinf hz0 hz1 hz2 inf); (clear st; intro v' w st); (obtain ⟨va', vc', rfl⟩ := own_slice (st.row (i := 1) get1)); (try simp only [Value.cells, List.cons_append, List.nil_append, List.set, spl, putIt, pick, List.map_cons, List.map_nil, List.getElem?_cons_zero, List.getElem?_cons_succ, Option.getD_some, List.drop_succ_cons, List.drop_zero, List.drop_nil, List.append_nil, unB] at st); (try simp only [Nat.zero_add] at st); (try clear hc); have hc := st.facts; (try simp only [factsOf, blkI, blkFacts, rowI, byI, datI, nullI, oldI, penI, rdI, rdAnyI, rdOverI, Nat.zero_add, Nat.reduceAdd, and_true, true_and, and_self] at hc))
            | ((with_reducible refine wl_buildSlice ?_ (fun K hK => ?_)); (rfl); ((refine owp_buildSlice (o := ⟨some 20, _, _, _, _, _⟩) rfl st ?_; apply Exists.intro; apply Exists.intro; apply Exists.intro; apply Exists.intro; refine ⟨?_, ?_⟩; (focus (go_simp; (first | done | exact ⟨⟨rfl, rfl⟩, rfl⟩ | rfl))); (clear st; intro b20 w hb st; clear hb)); (try simp only [Value.cells, List.cons_append, List.nil_append, List.set, spl, putIt, pick, List.map_cons, List.map_nil, List.getElem?_cons_zero, List.getElem?_cons_succ, Option.getD_some, List.drop_succ_cons, List.drop_zero, List.drop_nil, List.append_nil, unB] at st); (try clear hc); have hc := st.facts; (try simp only [factsOf, blkI, blkFacts, rowI, byI, datI, nullI, oldI, penI, rdI, rdAnyI, rdOverI, Nat.zero_add, Nat.reduceAdd, and_true, true_and, and_self] at hc))))
        have st' := st.keep [0, 1, 2] (by decide) (by simp)
        go_roundg (k0 - (j + 1))
        case measure => omega
        case rel => exact ⟨j + 1, m + 1, va', vc', by omega, rfl, by omega, by go_num, rfl, by rw [HF.out, cellsL_append, cellsL_one', str_cells]; simpa [pick] using st'⟩
      · have hr1 : decide (x ∈ l') = false := decide_eq_false hr
        rw [hr1]
        have HF : Hid ((ss.take (j + 1)).filter (fun x => decide (x ∈ l')) = (ss.take j).filter (fun x => decide (x ∈ l'))) := Lib.hid (by rw [HX.out, List.filter_append]; simp [hr])
        clear hr hr1
        go_wp2_with fail
        go_roundg (k0 - (j + 1))
        case measure => omega
        case rel => exact ⟨j + 1, m, ua, uc, by omega, rfl, by omega, by go_num, rfl, by rw [HF.out]; exact st⟩
    · obtain rfl : j = k0 := by omega
      have htk : ss.take j = ss := List.take_of_length_le (by have := HK.out.1; omega)
      rw [htk, ← HB.out] at st
      clear htk
      have hm : m = p.length := strLen (st.row (i := 1) get1)
      have hfr := st.toFresh (i := 1) get1
      subst hm
      have HF := Lib.hid hfr
      clear hfr st hc
      go_wp2_with fail
      go_ret
      rw [HP.out]
      exact ⟨ua, uc, rfl, HF.out⟩
end Go.Proofs.Ytpenjnccdachaaa
