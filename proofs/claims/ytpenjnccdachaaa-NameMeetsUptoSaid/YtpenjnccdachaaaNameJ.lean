/- The law NameMeets. -/
import Derived.Test.YtpenjnccdachaaaNameI
import Derived.Test.YtpenjnccdachaaaNumB
namespace Go.Proofs.Ytpenjnccdachaaa
set_option linter.unusedSimpArgs false
set_option linter.unusedVariables false
open Go Go.RowKit
theorem nameSet_mem (l : List (List UInt8)) (x : List UInt8) : x ∈ nameSet l ↔ x ∈ l ∧ nameR x = true := (nameSet_set l).2 x
theorem nameSet_of (l : List (List UInt8)) (h : l.Pairwise (fun x y => strLt x y = true)) (hr : ∀ x ∈ l, nameR x = true) : nameSet l = l :=
  (nameSet_set l).uniq (strOrd nameR) ⟨h, fun x => ⟨fun q => ⟨q, hr x q⟩, fun q => q.1⟩⟩
theorem nameSet_idem (l : List (List UInt8)) : nameSet (nameSet l) = nameSet l := nameSet_of _ (nameSet_set l).1 fun x hx => ((nameSet_mem l x).1 hx).2
theorem nameSet_comm (a b : List (List UInt8)) : nameSet (a ++ b) = nameSet (b ++ a) :=
  (nameSet_set _).mem (strOrd nameR) (nameSet_set _) fun x _ => by simp [or_comm]
theorem nameBoth_mem (a b : List (List UInt8)) (x : List UInt8) : x ∈ nameBoth a b ↔ (x ∈ a ∧ nameR x = true) ∧ x ∈ b := by
  unfold nameBoth
  rw [List.mem_filter, nameSet_mem, decide_eq_true_eq]
theorem nameBoth_pw (a b : List (List UInt8)) : (nameBoth a b).Pairwise (fun x y => strLt x y = true) := List.Pairwise.filter _ (nameSet_set a).1
theorem nameBoth_set (a b : List (List UInt8)) : nameSet (nameBoth a b) = nameBoth a b := nameSet_of _ (nameBoth_pw a b) fun x hx => ((nameBoth_mem a b x).1 hx).1.2
theorem nameBoth_comm (a b : List (List UInt8)) : nameBoth a b = nameBoth b a :=
  pairwise_ext (strOrd nameR).irr (strOrd nameR).tr (nameBoth_pw a b) (nameBoth_pw b a) fun x => by
    rw [nameBoth_mem, nameBoth_mem]; constructor <;> rintro ⟨⟨h1, h2⟩, h3⟩ <;> exact ⟨⟨h3, h2⟩, h1⟩
theorem within_of (a b : List (List UInt8)) (h : ∀ x ∈ a, nameR x = true → x ∈ b) : nameBoth a b = nameSet a := by
  unfold nameBoth
  exact List.filter_eq_self.2 fun x hx => by
    have := (nameSet_mem a x).1 hx
    exact decide_eq_true (h x this.1 this.2)
theorem rdName_put (s : List UInt8) (h : nameR s = true) : rdName (numB s.length ++ s) = .ok (s, []) := by
  have hl := nameR_len h
  have := rdText_put 16 s [] hl.2 (by omega)
  rw [List.append_nil] at this
  unfold rdName
  rw [show (16 : Int) = ((16 : Nat) : Int) from rfl, this]
  simp [h]
set_option maxRecDepth 100000 in
set_option maxHeartbeats 4000000 in
theorem nameMeets_all (a : Option Addr) (n c : Nat) (l : List (List UInt8)) (a' : Option Addr) (n' c' : Nat) (l' : List (List UInt8)) (W : World) (h : Fl W a n l) (h' : Fl W a' n' l') (hw : weight l ≤ 1048576) (hw' : weight l' ≤ 1048576) :
    Calls Try.prog 8 #[.slice a n c, .slice a' n' c'] W fun e w' => e = .returned (.bool true) ∧ Ext W w' := by
  have H := Lib.hid (And.intro h h')
  have HW := Lib.hid (And.intro hw hw')
  have st := Own.startOld W
  clear h h' hw hw'
  (try simp only [Value.cells, List.cons_append, List.nil_append, List.set, spl, putIt, pick, List.map_cons, List.map_nil, List.getElem?_cons_zero, List.getElem?_cons_succ, Option.getD_some, List.drop_succ_cons, List.drop_zero, List.drop_nil, List.append_nil, unB] at st)
  (try clear hc); have hc := st.facts; (try simp only [factsOf, blkI, blkFacts, rowI, byI, datI, nullI, oldI, penI, rdI, rdAnyI, rdOverI, Nat.zero_add, Nat.reduceAdd, and_true, true_and, and_self] at hc)
  go_enter Try.func8, Try.ntmps8
  go_wp2_with fail
  refine (nameFirst_any W).mono ?_
  rintro en w ⟨rfl, hx⟩
  replace st := st.ext hx
  clear hx
  (try clear hc); have hc := st.facts; (try simp only [factsOf, blkI, blkFacts, rowI, byI, datI, nullI, oldI, penI, rdI, rdAnyI, rdOverI, Nat.zero_add, Nat.reduceAdd, and_true, true_and, and_self] at hc)
  go_wp2_with fail
  refine (nameLong_any a n c l _ (st.oldFl (i := 0) get0 H.out.1) (by have := HW.out.1; omega)).mono ?_
  rintro en w ⟨rfl, hx⟩
  replace st := st.ext hx
  clear hx
  (try clear hc); have hc := st.facts; (try simp only [factsOf, blkI, blkFacts, rowI, byI, datI, nullI, oldI, penI, rdI, rdAnyI, rdOverI, Nat.zero_add, Nat.reduceAdd, and_true, true_and, and_self] at hc)
  by_cases h1 : 600 < weight l
  · have hb : decide (600 < weight l) = true := decide_eq_true h1
    rw [hb]
    go_wp2_with fail
    go_ret
    exact ⟨rfl, st.ext0⟩
  have hb : decide (600 < weight l) = false := decide_eq_false h1
  rw [hb]
  clear hb
  go_wp2_with fail
  refine (nameLong_any a' n' c' l' _ (st.oldFl (i := 0) get0 H.out.2) (by have := HW.out.2; omega)).mono ?_
  rintro en w ⟨rfl, hx⟩
  replace st := st.ext hx
  clear hx
  (try clear hc); have hc := st.facts; (try simp only [factsOf, blkI, blkFacts, rowI, byI, datI, nullI, oldI, penI, rdI, rdAnyI, rdOverI, Nat.zero_add, Nat.reduceAdd, and_true, true_and, and_self] at hc)
  by_cases h2 : 600 < weight l'
  · have hb : decide (600 < weight l') = true := decide_eq_true h2
    rw [hb]
    go_wp2_with fail
    go_ret
    exact ⟨rfl, st.ext0⟩
  have hb : decide (600 < weight l') = false := decide_eq_false h2
  rw [hb]
  clear hb
  have HM : Hid ((∀ x ∈ l, x.length ≤ 600) ∧ ∀ x ∈ l', x.length ≤ 600) := Lib.hid ⟨fun x hx => by have := weight_mem l x hx; omega, fun x hx => by have := weight_mem l' x hx; omega⟩
  have hn : n ≤ 600 := by have := weight_len l; have := H.out.1.1; omega
  have hn' : n' ≤ 600 := by have := weight_len l'; have := H.out.2.1; omega
  have HC := Lib.hid (And.intro (nameSet_comm l l') (nameBoth_comm l l'))
  obtain ⟨u, hu⟩ : ∃ u, nameSet (l ++ l') = u := ⟨_, rfl⟩
  obtain ⟨m, hm⟩ : ∃ m, nameBoth l l' = m := ⟨_, rfl⟩
  have HU := Lib.hid (And.intro hu hm)
  have HLE : Hid (u.length ≤ 1200 ∧ m.length ≤ 600) := Lib.hid (by
    have q1 := nameSet_len l
    have q2 := nameSet_len (l ++ l')
    have q3 : (nameBoth l l').length ≤ (nameSet l).length := List.length_filter_le _ _
    have q4 := H.out.1.1
    have q5 := H.out.2.1
    have q6 : (l ++ l').length = l.length + l'.length := List.length_append
    rw [← hu, ← hm]; omega)
  have HS : Hid (nameSet u = u ∧ nameSet m = m ∧ nameBoth m l = m ∧ nameBoth l u = nameSet l ∧ nameBoth l' u = nameSet l') := Lib.hid ⟨by rw [← hu]; exact nameSet_idem _, by rw [← hm]; exact nameBoth_set l l', by
      rw [within_of m l (fun x hx _ => by rw [← hm] at hx; exact ((nameBoth_mem l l' x).1 hx).1.1), ← hm]; exact nameBoth_set l l',
    within_of l u (fun x hx hr => by rw [← hu, nameSet_mem]; exact ⟨List.mem_append.2 (.inl hx), hr⟩), within_of l' u (fun x hx hr => by rw [← hu, nameSet_mem]; exact ⟨List.mem_append.2 (.inr hx), hr⟩)⟩
  have HR : Hid ((∀ x ∈ u, nameR x = true ∧ x.length ≤ 600) ∧ (∀ x ∈ m, x.length ≤ 600) ∧ ∀ x ∈ u, (decide (x ∈ m) = (decide (x ∈ l) && decide (x ∈ l')))) := Lib.hid ⟨fun x hx => by
      rw [← hu, nameSet_mem] at hx
      exact ⟨hx.2, by rcases List.mem_append.1 hx.1 with q | q; exact HM.out.1 x q; exact HM.out.2 x q⟩, fun x hx => by
      rw [← hm, nameBoth_mem] at hx; exact HM.out.1 x hx.1.1, fun x hx => by
      rw [← hu, nameSet_mem] at hx
      rw [Bool.eq_iff_iff, Bool.and_eq_true, decide_eq_true_eq, decide_eq_true_eq, decide_eq_true_eq, ← hm, nameBoth_mem]
      constructor
      · rintro ⟨⟨q1, _⟩, q2⟩; exact ⟨q1, q2⟩
      · rintro ⟨q1, q2⟩; exact ⟨⟨q1, hx.2⟩, q2⟩⟩
  clear h1 h2 hu hm
  go_wp2_with fail
  refine (union_any a n c l a' n' c' l' _ (st.oldFl (i := 0) get0 H.out.1) (st.oldFl (i := 0) get0 H.out.2) (by omega) (by omega) (fun x hx => by have := HM.out.1 x hx; omega) (fun x hx => by have := HM.out.2 x hx; omega)).mono ?_
  rintro en w ⟨u1, uc, rfl, hnew⟩
  rw [HU.out.1] at hnew ⊢
  replace st := st.fresh hnew
  clear hnew
  (try simp only [Value.cells, List.cons_append, List.nil_append, List.set, spl, putIt, pick, List.map_cons, List.map_nil, List.getElem?_cons_zero, List.getElem?_cons_succ, Option.getD_some, List.drop_succ_cons, List.drop_zero, List.drop_nil, List.append_nil, unB] at st)
  (try clear hc); have hc := st.facts; (try simp only [factsOf, blkI, blkFacts, rowI, byI, datI, nullI, oldI, penI, rdI, rdAnyI, rdOverI, Nat.zero_add, Nat.reduceAdd, and_true, true_and, and_self] at hc)
  go_wp2_with fail
  refine (both_any a n c l a' n' c' l' _ (st.oldFl (i := 0) get0 H.out.1) (st.oldFl (i := 0) get0 H.out.2) (by omega) (by omega) (fun x hx => by have := HM.out.1 x hx; omega)).mono ?_
  rintro en w ⟨m1, mc, rfl, hnew⟩
  rw [HU.out.2] at hnew ⊢
  replace st := st.fresh hnew
  clear hnew
  (try simp only [Value.cells, List.cons_append, List.nil_append, List.set, spl, putIt, pick, List.map_cons, List.map_nil, List.getElem?_cons_zero, List.getElem?_cons_succ, Option.getD_some, List.drop_succ_cons, List.drop_zero, List.drop_nil, List.append_nil, unB] at st)
  (try clear hc); have hc := st.facts; (try simp only [factsOf, blkI, blkFacts, rowI, byI, datI, nullI, oldI, penI, rdI, rdAnyI, rdOverI, Nat.zero_add, Nat.reduceAdd, and_true, true_and, and_self] at hc)
  go_wp2_with fail
  refine (isSet_any _ _ _ u _ (st.rowFl' (α := List UInt8) (xs := u) (i := 1) get1).2 (by have := HLE.out; omega) (fun x hx => by have := (HR.out.1 x hx).2; omega)).mono ?_
  rintro en w ⟨rfl, hx⟩
  replace st := st.ext hx
  clear hx
  (try clear hc); have hc := st.facts; (try simp only [factsOf, blkI, blkFacts, rowI, byI, datI, nullI, oldI, penI, rdI, rdAnyI, rdOverI, Nat.zero_add, Nat.reduceAdd, and_true, true_and, and_self] at hc)
  rw [show (decide (nameSet u = u)) = true from decide_eq_true HS.out.1]
  go_wp2_with fail
  refine (isSet_any _ _ _ m _ (st.rowFl' (α := List UInt8) (xs := m) (i := 2) get2).2 (by have := HLE.out; omega) (fun x hx => by have := HR.out.2.1 x hx; omega)).mono ?_
  rintro en w ⟨rfl, hx⟩
  replace st := st.ext hx
  clear hx
  (try clear hc); have hc := st.facts; (try simp only [factsOf, blkI, blkFacts, rowI, byI, datI, nullI, oldI, penI, rdI, rdAnyI, rdOverI, Nat.zero_add, Nat.reduceAdd, and_true, true_and, and_self] at hc)
  rw [show (decide (nameSet m = m)) = true from decide_eq_true HS.out.2.1]
  go_wp2_with fail
  refine (union_any a' n' c' l' a n c l _ (st.oldFl (i := 0) get0 H.out.2) (st.oldFl (i := 0) get0 H.out.1) (by omega) (by omega) (fun x hx => by have := HM.out.2 x hx; omega) (fun x hx => by have := HM.out.1 x hx; omega)).mono ?_
  rintro en w ⟨p1, pc, rfl, hnew⟩
  rw [← HC.out.1, HU.out.1] at hnew ⊢
  have hfx := hnew.fl.2
  replace st := st.ext hnew.1
  clear hnew
  (try simp only [Value.cells, List.cons_append, List.nil_append, List.set, spl, putIt, pick, List.map_cons, List.map_nil, List.getElem?_cons_zero, List.getElem?_cons_succ, Option.getD_some, List.drop_succ_cons, List.drop_zero, List.drop_nil, List.append_nil, unB] at st)
  (try clear hc); have hc := st.facts; (try simp only [factsOf, blkI, blkFacts, rowI, byI, datI, nullI, oldI, penI, rdI, rdAnyI, rdOverI, Nat.zero_add, Nat.reduceAdd, and_true, true_and, and_self] at hc)
  go_wp2_with fail
  refine (refSame_any _ _ _ _ _ _ _ _ _ ((st.rowFl' (α := List UInt8) (xs := u) (i := 1) get1).2) hfx (by have := HLE.out; omega) (by have := HLE.out; omega)).mono ?_
  rintro en w ⟨rfl, hx⟩
  replace st := st.ext hx
  clear hx
  (try simp only [Value.cells, List.cons_append, List.nil_append, List.set, spl, putIt, pick, List.map_cons, List.map_nil, List.getElem?_cons_zero, List.getElem?_cons_succ, Option.getD_some, List.drop_succ_cons, List.drop_zero, List.drop_nil, List.append_nil, unB] at st)
  (try clear hc); have hc := st.facts; (try simp only [factsOf, blkI, blkFacts, rowI, byI, datI, nullI, oldI, penI, rdI, rdAnyI, rdOverI, Nat.zero_add, Nat.reduceAdd, and_true, true_and, and_self] at hc)
  rw [show (decide (u = u)) = true from decide_eq_true rfl]
  clear hfx
  go_wp2_with fail
  refine (both_any a' n' c' l' a n c l _ (st.oldFl (i := 0) get0 H.out.2) (st.oldFl (i := 0) get0 H.out.1) (by omega) (by omega) (fun x hx => by have := HM.out.2 x hx; omega)).mono ?_
  rintro en w ⟨q1, qc, rfl, hnew⟩
  rw [← HC.out.2, HU.out.2] at hnew ⊢
  have hfx := hnew.fl.2
  replace st := st.ext hnew.1
  clear hnew
  (try simp only [Value.cells, List.cons_append, List.nil_append, List.set, spl, putIt, pick, List.map_cons, List.map_nil, List.getElem?_cons_zero, List.getElem?_cons_succ, Option.getD_some, List.drop_succ_cons, List.drop_zero, List.drop_nil, List.append_nil, unB] at st)
  (try clear hc); have hc := st.facts; (try simp only [factsOf, blkI, blkFacts, rowI, byI, datI, nullI, oldI, penI, rdI, rdAnyI, rdOverI, Nat.zero_add, Nat.reduceAdd, and_true, true_and, and_self] at hc)
  go_wp2_with fail
  refine (refSame_any _ _ _ _ _ _ _ _ _ ((st.rowFl' (α := List UInt8) (xs := m) (i := 2) get2).2) hfx (by have := HLE.out; omega) (by have := HLE.out; omega)).mono ?_
  rintro en w ⟨rfl, hx⟩
  replace st := st.ext hx
  clear hx
  (try simp only [Value.cells, List.cons_append, List.nil_append, List.set, spl, putIt, pick, List.map_cons, List.map_nil, List.getElem?_cons_zero, List.getElem?_cons_succ, Option.getD_some, List.drop_succ_cons, List.drop_zero, List.drop_nil, List.append_nil, unB] at st)
  (try clear hc); have hc := st.facts; (try simp only [factsOf, blkI, blkFacts, rowI, byI, datI, nullI, oldI, penI, rdI, rdAnyI, rdOverI, Nat.zero_add, Nat.reduceAdd, and_true, true_and, and_self] at hc)
  rw [show (decide (m = m)) = true from decide_eq_true rfl]
  clear hfx
  go_wp2_with fail
  refine (within_any _ _ _ m a n c l _ (st.rowFl' (α := List UInt8) (xs := m) (i := 2) get2).2 (st.oldFl (i := 0) get0 H.out.1) (by have := HLE.out; omega) (by omega) (fun x hx => by have := HR.out.2.1 x hx; omega)).mono ?_
  rintro en w ⟨rfl, hx⟩
  replace st := st.ext hx
  clear hx
  (try clear hc); have hc := st.facts; (try simp only [factsOf, blkI, blkFacts, rowI, byI, datI, nullI, oldI, penI, rdI, rdAnyI, rdOverI, Nat.zero_add, Nat.reduceAdd, and_true, true_and, and_self] at hc)
  rw [show (decide ((nameBoth m l).length = (nameSet m).length)) = true from decide_eq_true (by rw [HS.out.2.2.1, HS.out.2.1])]
  go_wp2_with fail
  refine (within_any a n c l _ _ _ u _ (st.oldFl (i := 0) get0 H.out.1) (st.rowFl' (α := List UInt8) (xs := u) (i := 1) get1).2 (by omega) (by have := HLE.out; omega) (fun x hx => by have := HM.out.1 x hx; omega)).mono ?_
  rintro en w ⟨rfl, hx⟩
  replace st := st.ext hx
  clear hx
  (try clear hc); have hc := st.facts; (try simp only [factsOf, blkI, blkFacts, rowI, byI, datI, nullI, oldI, penI, rdI, rdAnyI, rdOverI, Nat.zero_add, Nat.reduceAdd, and_true, true_and, and_self] at hc)
  rw [show (decide ((nameBoth l u).length = (nameSet l).length)) = true from decide_eq_true (by rw [HS.out.2.2.2.1])]
  go_wp2_with fail
  refine (within_any a' n' c' l' _ _ _ u _ (st.oldFl (i := 0) get0 H.out.2) (st.rowFl' (α := List UInt8) (xs := u) (i := 1) get1).2 (by omega) (by have := HLE.out; omega) (fun x hx => by have := HM.out.2 x hx; omega)).mono ?_
  rintro en w ⟨rfl, hx⟩
  replace st := st.ext hx
  clear hx
  (try clear hc); have hc := st.facts; (try simp only [factsOf, blkI, blkFacts, rowI, byI, datI, nullI, oldI, penI, rdI, rdAnyI, rdOverI, Nat.zero_add, Nat.reduceAdd, and_true, true_and, and_self] at hc)
  rw [show (decide ((nameBoth l' u).length = (nameSet l').length)) = true from decide_eq_true (by rw [HS.out.2.2.2.2])]
  obtain ⟨k0, hk0⟩ : ∃ k0, u.length = k0 := ⟨_, rfl⟩
  obtain ⟨k1, hk1⟩ : ∃ k1, m.length = k1 := ⟨_, rfl⟩
  rw [hk0, hk1] at HLE st ⊢
  have HK := Lib.hid (And.intro hk0 hk1)
  have hk9 : k0 ≤ 1200 ∧ k1 ≤ 600 := HLE.out
  clear hk0 hk1
  (try simp only [Value.cells, List.cons_append, List.nil_append, List.set, spl, putIt, pick, List.map_cons, List.map_nil, List.getElem?_cons_zero, List.getElem?_cons_succ, Option.getD_some, List.drop_succ_cons, List.drop_zero, List.drop_nil, List.append_nil, unB] at st)
  (try clear hc); have hc := st.facts; (try simp only [factsOf, blkI, blkFacts, rowI, byI, datI, nullI, oldI, penI, rdI, rdAnyI, rdOverI, Nat.zero_add, Nat.reduceAdd, and_true, true_and, and_self] at hc)
  go_wp2_with fail
  go_loopg [71] k0 (fun k i wr => ∃ (j : Nat), j ≤ k0 ∧ k = k0 - j ∧ i = .int .i64 (j : Int) ∧ Own (fun _ => False) (fun _ => True) W [oldI W, rowI 9 1 (.slice u1 k0 uc) k0 (cellsL u), rowI 9 1 (.slice m1 k1 mc) k1 (cellsL m)] wr)
  case atStart => exact ⟨0, by omega, by omega, rfl, st⟩
  case round =>
    obtain ⟨j, hj, rfl, rfl, st'⟩ := hrel
    clear st hc
    have st := st'
    clear st'
    (try simp only [Value.cells, List.cons_append, List.nil_append, List.set, spl, putIt, pick, List.map_cons, List.map_nil, List.getElem?_cons_zero, List.getElem?_cons_succ, Option.getD_some, List.drop_succ_cons, List.drop_zero, List.drop_nil, List.append_nil, unB] at st)
    (try clear hc); have hc := st.facts; (try simp only [factsOf, blkI, blkFacts, rowI, byI, datI, nullI, oldI, penI, rdI, rdAnyI, rdOverI, Nat.zero_add, Nat.reduceAdd, and_true, true_and, and_self] at hc)
    by_cases hjn : j < k0
    · obtain ⟨g, cap', hv, hcap, hrow⟩ := st.rowAt (i := 1) get1 (by omega)
      injection hv with hv1 hv2 hv3
      subst hv1 hv3
      have hjl : j < u.length := by have := HK.out.1; omega
      have r0 := hrow j (S u[j]) (by rw [str_get, List.getElem?_eq_getElem hjl]; rfl)
      have hxu := List.getElem_mem hjl
      clear hrow
      generalize u[j] = x at *
      have hx6 := (HR.out.1 x hxu).2
      have HX := Lib.hid (And.intro (HR.out.1 x hxu).1 (HR.out.2.2 x hxu))
      clear hjl hxu
      unfold S at r0
      go_wp2_with (first
          | ((with_reducible refine wl_box ?_ (fun K hK => ?_)); (rfl); ((refine owp_box (o := ⟨some 76, _, _, _, _, _⟩) rfl st ?_; apply Exists.intro; refine ⟨?_, ?_⟩; (focus (go_simp; try rfl)); (clear st; intro b76 w hb st; clear hb)); (try simp only [Value.cells, List.cons_append, List.nil_append, List.set, spl, putIt, pick, List.map_cons, List.map_nil, List.getElem?_cons_zero, List.getElem?_cons_succ, Option.getD_some, List.drop_succ_cons, List.drop_zero, List.drop_nil, List.append_nil, unB] at st); (try clear hc); have hc := st.facts; (try simp only [factsOf, blkI, blkFacts, rowI, byI, datI, nullI, oldI, penI, rdI, rdAnyI, rdOverI, Nat.zero_add, Nat.reduceAdd, and_true, true_and, and_self] at hc)))
          | ((with_reducible refine wl_alloc ?_ (fun K hK => ?_)); (rfl); ((refine owp_alloc (o := ⟨some 10, _, _, _, _, _⟩) rfl st ?_; apply Exists.intro; apply Exists.intro; refine ⟨?_, ?_⟩; (focus (first | (go_simp; done) | (go_simp; rfl))); (clear st; intro b10 w hb st; clear hb)); (try simp only [Value.cells, List.cons_append, List.nil_append, List.set, spl, putIt, pick, List.map_cons, List.map_nil, List.getElem?_cons_zero, List.getElem?_cons_succ, Option.getD_some, List.drop_succ_cons, List.drop_zero, List.drop_nil, List.append_nil, unB] at st); (try clear hc); have hc := st.facts; (try simp only [factsOf, blkI, blkFacts, rowI, byI, datI, nullI, oldI, penI, rdI, rdAnyI, rdOverI, Nat.zero_add, Nat.reduceAdd, and_true, true_and, and_self] at hc)))
          | ((with_reducible refine wl_store ?_ (fun K hK => ?_)); (rfl); ((refine owp_store rfl st ?_; apply Exists.intro; apply Exists.intro; refine ⟨?_, ?_, ?_⟩; (focus (go_simp; try rfl)); (focus (go_simp; try rfl)); (first | with_reducible refine ⟨0, _, _, _, _, get0, rfl, rfl, ?_, ?_, ?_, ?_⟩ | with_reducible refine ⟨1, _, _, _, _, get1, rfl, rfl, ?_, ?_, ?_, ?_⟩ | with_reducible refine ⟨2, _, _, _, _, get2, rfl, rfl, ?_, ?_, ?_, ?_⟩ | with_reducible refine ⟨3, _, _, _, _, get3, rfl, rfl, ?_, ?_, ?_, ?_⟩ | with_reducible refine ⟨4, _, _, _, _, get4, rfl, rfl, ?_, ?_, ?_, ?_⟩ | with_reducible refine ⟨5, _, _, _, _, get5, rfl, rfl, ?_, ?_, ?_, ?_⟩ | with_reducible refine ⟨6, _, _, _, _, get6, rfl, rfl, ?_, ?_, ?_, ?_⟩ | with_reducible refine ⟨7, _, _, _, _, get7, rfl, rfl, ?_, ?_, ?_, ?_⟩ | with_reducible refine ⟨8, _, _, _, _, get8, rfl, rfl, ?_, ?_, ?_, ?_⟩ | with_reducible refine ⟨9, _, _, _, _, get9, rfl, rfl, ?_, ?_, ?_, ?_⟩); (kernel_rfl); (simp [Value.cells]); (rfl); (clear st; intro w st)); (try simp only [Value.cells, List.cons_append, List.nil_append, List.set, spl, putIt, pick, List.map_cons, List.map_nil, List.getElem?_cons_zero, List.getElem?_cons_succ, Option.getD_some, List.drop_succ_cons, List.drop_zero, List.drop_nil, List.append_nil, unB] at st); (try clear hc); have hc := st.facts; (try simp only [factsOf, blkI, blkFacts, rowI, byI, datI, nullI, oldI, penI, rdI, rdAnyI, rdOverI, Nat.zero_add, Nat.reduceAdd, and_true, true_and, and_self] at hc))))
      replace st := st.newPen (i := 3) get3
      (try simp only [Value.cells, List.cons_append, List.nil_append, List.set, spl, putIt, pick, List.map_cons, List.map_nil, List.getElem?_cons_zero, List.getElem?_cons_succ, Option.getD_some, List.drop_succ_cons, List.drop_zero, List.drop_nil, List.append_nil, unB] at st)
      (try clear hc); have hc := st.facts; (try simp only [factsOf, blkI, blkFacts, rowI, byI, datI, nullI, oldI, penI, rdI, rdAnyI, rdOverI, Nat.zero_add, Nat.reduceAdd, and_true, true_and, and_self] at hc)
      obtain ⟨fr', al', st', back⟩ := st.sub [3] (by decide) (by simp)
      (try simp only [Value.cells, List.cons_append, List.nil_append, List.set, spl, putIt, pick, List.map_cons, List.map_nil, List.getElem?_cons_zero, List.getElem?_cons_succ, Option.getD_some, List.drop_succ_cons, List.drop_zero, List.drop_nil, List.append_nil, unB] at st')
      refine (namePut_yes st' x HX.out.1 (by simp)).mono ?_
      clear st'
      rintro en w ⟨rfl, st'⟩
      replace st := back _ _ (by simp) st'
      clear back st'
      (try simp only [Value.cells, List.cons_append, List.nil_append, List.set, spl, putIt, pick, List.map_cons, List.map_nil, List.getElem?_cons_zero, List.getElem?_cons_succ, Option.getD_some, List.drop_succ_cons, List.drop_zero, List.drop_nil, List.append_nil, unB] at st)
      (try clear hc); have hc := st.facts; (try simp only [factsOf, blkI, blkFacts, rowI, byI, datI, nullI, oldI, penI, rdI, rdAnyI, rdOverI, Nat.zero_add, Nat.reduceAdd, and_true, true_and, and_self] at hc)
      obtain ⟨q, hq⟩ : ∃ q, numB x.length ++ x = q := ⟨_, rfl⟩
      have hpl : q.length ≤ 1000 := by have := numF_len 10 x.length; rw [← hq]; simp [numB]; omega
      rw [hq] at st
      have HQ : Hid (rdName q = .ok (x, [])) := Lib.hid (by rw [← hq]; exact rdName_put x HX.out.1)
      clear hq
      go_wp2_with (first
          | ((with_reducible refine wl_box ?_ (fun K hK => ?_)); (rfl); ((refine owp_box (o := ⟨some 76, _, _, _, _, _⟩) rfl st ?_; apply Exists.intro; refine ⟨?_, ?_⟩; (focus (go_simp; try rfl)); (clear st; intro b76 w hb st; clear hb)); (try simp only [Value.cells, List.cons_append, List.nil_append, List.set, spl, putIt, pick, List.map_cons, List.map_nil, List.getElem?_cons_zero, List.getElem?_cons_succ, Option.getD_some, List.drop_succ_cons, List.drop_zero, List.drop_nil, List.append_nil, unB] at st); (try clear hc); have hc := st.facts; (try simp only [factsOf, blkI, blkFacts, rowI, byI, datI, nullI, oldI, penI, rdI, rdAnyI, rdOverI, Nat.zero_add, Nat.reduceAdd, and_true, true_and, and_self] at hc)))
          | ((with_reducible refine wl_alloc ?_ (fun K hK => ?_)); (rfl); ((refine owp_alloc (o := ⟨some 10, _, _, _, _, _⟩) rfl st ?_; apply Exists.intro; apply Exists.intro; refine ⟨?_, ?_⟩; (focus (first | (go_simp; done) | (go_simp; rfl))); (clear st; intro b10 w hb st; clear hb)); (try simp only [Value.cells, List.cons_append, List.nil_append, List.set, spl, putIt, pick, List.map_cons, List.map_nil, List.getElem?_cons_zero, List.getElem?_cons_succ, Option.getD_some, List.drop_succ_cons, List.drop_zero, List.drop_nil, List.append_nil, unB] at st); (try clear hc); have hc := st.facts; (try simp only [factsOf, blkI, blkFacts, rowI, byI, datI, nullI, oldI, penI, rdI, rdAnyI, rdOverI, Nat.zero_add, Nat.reduceAdd, and_true, true_and, and_self] at hc)))
          | ((with_reducible refine wl_store ?_ (fun K hK => ?_)); (rfl); ((refine owp_store rfl st ?_; apply Exists.intro; apply Exists.intro; refine ⟨?_, ?_, ?_⟩; (focus (go_simp; try rfl)); (focus (go_simp; try rfl)); (first | with_reducible refine ⟨0, _, _, _, _, get0, rfl, rfl, ?_, ?_, ?_, ?_⟩ | with_reducible refine ⟨1, _, _, _, _, get1, rfl, rfl, ?_, ?_, ?_, ?_⟩ | with_reducible refine ⟨2, _, _, _, _, get2, rfl, rfl, ?_, ?_, ?_, ?_⟩ | with_reducible refine ⟨3, _, _, _, _, get3, rfl, rfl, ?_, ?_, ?_, ?_⟩ | with_reducible refine ⟨4, _, _, _, _, get4, rfl, rfl, ?_, ?_, ?_, ?_⟩ | with_reducible refine ⟨5, _, _, _, _, get5, rfl, rfl, ?_, ?_, ?_, ?_⟩ | with_reducible refine ⟨6, _, _, _, _, get6, rfl, rfl, ?_, ?_, ?_, ?_⟩ | with_reducible refine ⟨7, _, _, _, _, get7, rfl, rfl, ?_, ?_, ?_, ?_⟩ | with_reducible refine ⟨8, _, _, _, _, get8, rfl, rfl, ?_, ?_, ?_, ?_⟩ | with_reducible refine ⟨9, _, _, _, _, get9, rfl, rfl, ?_, ?_, ?_, ?_⟩); (kernel_rfl); (simp [Value.cells]); (rfl); (clear st; intro w st)); (try simp only [Value.cells, List.cons_append, List.nil_append, List.set, spl, putIt, pick, List.map_cons, List.map_nil, List.getElem?_cons_zero, List.getElem?_cons_succ, Option.getD_some, List.drop_succ_cons, List.drop_zero, List.drop_nil, List.append_nil, unB] at st); (try clear hc); have hc := st.facts; (try simp only [factsOf, blkI, blkFacts, rowI, byI, datI, nullI, oldI, penI, rdI, rdAnyI, rdOverI, Nat.zero_add, Nat.reduceAdd, and_true, true_and, and_self] at hc))))
      obtain ⟨fr', al', st', back⟩ := st.sub [3] (by decide) (by simp)
      (try simp only [Value.cells, List.cons_append, List.nil_append, List.set, spl, putIt, pick, List.map_cons, List.map_nil, List.getElem?_cons_zero, List.getElem?_cons_succ, Option.getD_some, List.drop_succ_cons, List.drop_zero, List.drop_nil, List.append_nil, unB] at st')
      refine (penBytes_c st' (by omega)).mono ?_
      clear st'
      rintro en w ⟨pa, pc2, rfl, hpc, st'⟩
      replace st := back _ _ (by simp) st'
      clear back st'
      (try simp only [Value.cells, List.cons_append, List.nil_append, List.set, spl, putIt, pick, List.map_cons, List.map_nil, List.getElem?_cons_zero, List.getElem?_cons_succ, Option.getD_some, List.drop_succ_cons, List.drop_zero, List.drop_nil, List.append_nil, unB] at st)
      (try clear hc); have hc := st.facts; (try simp only [factsOf, blkI, blkFacts, rowI, byI, datI, nullI, oldI, penI, rdI, rdAnyI, rdOverI, Nat.zero_add, Nat.reduceAdd, and_true, true_and, and_self] at hc)
      go_wp2_with (first
          | ((with_reducible refine wl_box ?_ (fun K hK => ?_)); (rfl); ((refine owp_box (o := ⟨some 76, _, _, _, _, _⟩) rfl st ?_; apply Exists.intro; refine ⟨?_, ?_⟩; (focus (go_simp; try rfl)); (clear st; intro b76 w hb st; clear hb)); (try simp only [Value.cells, List.cons_append, List.nil_append, List.set, spl, putIt, pick, List.map_cons, List.map_nil, List.getElem?_cons_zero, List.getElem?_cons_succ, Option.getD_some, List.drop_succ_cons, List.drop_zero, List.drop_nil, List.append_nil, unB] at st); (try clear hc); have hc := st.facts; (try simp only [factsOf, blkI, blkFacts, rowI, byI, datI, nullI, oldI, penI, rdI, rdAnyI, rdOverI, Nat.zero_add, Nat.reduceAdd, and_true, true_and, and_self] at hc)))
          | ((with_reducible refine wl_alloc ?_ (fun K hK => ?_)); (rfl); ((refine owp_alloc (o := ⟨some 10, _, _, _, _, _⟩) rfl st ?_; apply Exists.intro; apply Exists.intro; refine ⟨?_, ?_⟩; (focus (first | (go_simp; done) | (go_simp; rfl))); (clear st; intro b10 w hb st; clear hb)); (try simp only [Value.cells, List.cons_append, List.nil_append, List.set, spl, putIt, pick, List.map_cons, List.map_nil, List.getElem?_cons_zero, List.getElem?_cons_succ, Option.getD_some, List.drop_succ_cons, List.drop_zero, List.drop_nil, List.append_nil, unB] at st); (try clear hc); have hc := st.facts; (try simp only [factsOf, blkI, blkFacts, rowI, byI, datI, nullI, oldI, penI, rdI, rdAnyI, rdOverI, Nat.zero_add, Nat.reduceAdd, and_true, true_and, and_self] at hc)))
          | ((with_reducible refine wl_store ?_ (fun K hK => ?_)); (rfl); ((refine owp_store rfl st ?_; apply Exists.intro; apply Exists.intro; refine ⟨?_, ?_, ?_⟩; (focus (go_simp; try rfl)); (focus (go_simp; try rfl)); (first | with_reducible refine ⟨0, _, _, _, _, get0, rfl, rfl, ?_, ?_, ?_, ?_⟩ | with_reducible refine ⟨1, _, _, _, _, get1, rfl, rfl, ?_, ?_, ?_, ?_⟩ | with_reducible refine ⟨2, _, _, _, _, get2, rfl, rfl, ?_, ?_, ?_, ?_⟩ | with_reducible refine ⟨3, _, _, _, _, get3, rfl, rfl, ?_, ?_, ?_, ?_⟩ | with_reducible refine ⟨4, _, _, _, _, get4, rfl, rfl, ?_, ?_, ?_, ?_⟩ | with_reducible refine ⟨5, _, _, _, _, get5, rfl, rfl, ?_, ?_, ?_, ?_⟩ | with_reducible refine ⟨6, _, _, _, _, get6, rfl, rfl, ?_, ?_, ?_, ?_⟩ | with_reducible refine ⟨7, _, _, _, _, get7, rfl, rfl, ?_, ?_, ?_, ?_⟩ | with_reducible refine ⟨8, _, _, _, _, get8, rfl, rfl, ?_, ?_, ?_, ?_⟩ | with_reducible refine ⟨9, _, _, _, _, get9, rfl, rfl, ?_, ?_, ?_, ?_⟩); (kernel_rfl); (simp [Value.cells]); (rfl); (clear st; intro w st)); (try simp only [Value.cells, List.cons_append, List.nil_append, List.set, spl, putIt, pick, List.map_cons, List.map_nil, List.getElem?_cons_zero, List.getElem?_cons_succ, Option.getD_some, List.drop_succ_cons, List.drop_zero, List.drop_nil, List.append_nil, unB] at st); (try clear hc); have hc := st.facts; (try simp only [factsOf, blkI, blkFacts, rowI, byI, datI, nullI, oldI, penI, rdI, rdAnyI, rdOverI, Nat.zero_add, Nat.reduceAdd, and_true, true_and, and_self] at hc))))
      refine (readGet_c (i := 4) (b := b10) (z := [S []]) st get4 (st.by (i := 5) get5) hpc (by omega) 50 (fun _ _ => by kernel_rfl) (rdName q) (fun s => [S s]) (fun fr al w r st => meetsGet_c st (by omega))).mono ?_
      rintro en w ⟨r1, rfl, st'⟩
      rw [HQ.out] at st' ⊢
      simp only [gotE, gotZ, if_true, S] at st' ⊢
      clear st
      have st := st'.keep [1, 2, 3, 5] (by decide) (by simp)
      clear st'
      simp only [pick, List.map_cons, List.map_nil, List.set, List.getElem?_cons_zero, List.getElem?_cons_succ, Option.getD_some] at st
      have hbb : (!(x == x)) = false := by simp
      (try simp only [Value.cells, List.cons_append, List.nil_append, List.set, spl, putIt, pick, List.map_cons, List.map_nil, List.getElem?_cons_zero, List.getElem?_cons_succ, Option.getD_some, List.drop_succ_cons, List.drop_zero, List.drop_nil, List.append_nil, unB] at st)
      (try clear hc); have hc := st.facts; (try simp only [factsOf, blkI, blkFacts, rowI, byI, datI, nullI, oldI, penI, rdI, rdAnyI, rdOverI, Nat.zero_add, Nat.reduceAdd, and_true, true_and, and_self] at hc)
      go_wp2_with (first
          | ((with_reducible refine wl_box ?_ (fun K hK => ?_)); (rfl); ((refine owp_box (o := ⟨some 76, _, _, _, _, _⟩) rfl st ?_; apply Exists.intro; refine ⟨?_, ?_⟩; (focus (go_simp; try rfl)); (clear st; intro b76 w hb st; clear hb)); (try simp only [Value.cells, List.cons_append, List.nil_append, List.set, spl, putIt, pick, List.map_cons, List.map_nil, List.getElem?_cons_zero, List.getElem?_cons_succ, Option.getD_some, List.drop_succ_cons, List.drop_zero, List.drop_nil, List.append_nil, unB] at st); (try clear hc); have hc := st.facts; (try simp only [factsOf, blkI, blkFacts, rowI, byI, datI, nullI, oldI, penI, rdI, rdAnyI, rdOverI, Nat.zero_add, Nat.reduceAdd, and_true, true_and, and_self] at hc)))
          | ((with_reducible refine wl_alloc ?_ (fun K hK => ?_)); (rfl); ((refine owp_alloc (o := ⟨some 10, _, _, _, _, _⟩) rfl st ?_; apply Exists.intro; apply Exists.intro; refine ⟨?_, ?_⟩; (focus (first | (go_simp; done) | (go_simp; rfl))); (clear st; intro b10 w hb st; clear hb)); (try simp only [Value.cells, List.cons_append, List.nil_append, List.set, spl, putIt, pick, List.map_cons, List.map_nil, List.getElem?_cons_zero, List.getElem?_cons_succ, Option.getD_some, List.drop_succ_cons, List.drop_zero, List.drop_nil, List.append_nil, unB] at st); (try clear hc); have hc := st.facts; (try simp only [factsOf, blkI, blkFacts, rowI, byI, datI, nullI, oldI, penI, rdI, rdAnyI, rdOverI, Nat.zero_add, Nat.reduceAdd, and_true, true_and, and_self] at hc)))
          | ((with_reducible refine wl_store ?_ (fun K hK => ?_)); (rfl); ((refine owp_store rfl st ?_; apply Exists.intro; apply Exists.intro; refine ⟨?_, ?_, ?_⟩; (focus (go_simp; try rfl)); (focus (go_simp; try rfl)); (first | with_reducible refine ⟨0, _, _, _, _, get0, rfl, rfl, ?_, ?_, ?_, ?_⟩ | with_reducible refine ⟨1, _, _, _, _, get1, rfl, rfl, ?_, ?_, ?_, ?_⟩ | with_reducible refine ⟨2, _, _, _, _, get2, rfl, rfl, ?_, ?_, ?_, ?_⟩ | with_reducible refine ⟨3, _, _, _, _, get3, rfl, rfl, ?_, ?_, ?_, ?_⟩ | with_reducible refine ⟨4, _, _, _, _, get4, rfl, rfl, ?_, ?_, ?_, ?_⟩ | with_reducible refine ⟨5, _, _, _, _, get5, rfl, rfl, ?_, ?_, ?_, ?_⟩ | with_reducible refine ⟨6, _, _, _, _, get6, rfl, rfl, ?_, ?_, ?_, ?_⟩ | with_reducible refine ⟨7, _, _, _, _, get7, rfl, rfl, ?_, ?_, ?_, ?_⟩ | with_reducible refine ⟨8, _, _, _, _, get8, rfl, rfl, ?_, ?_, ?_, ?_⟩ | with_reducible refine ⟨9, _, _, _, _, get9, rfl, rfl, ?_, ?_, ?_, ?_⟩); (kernel_rfl); (simp [Value.cells]); (rfl); (clear st; intro w st)); (try simp only [Value.cells, List.cons_append, List.nil_append, List.set, spl, putIt, pick, List.map_cons, List.map_nil, List.getElem?_cons_zero, List.getElem?_cons_succ, Option.getD_some, List.drop_succ_cons, List.drop_zero, List.drop_nil, List.append_nil, unB] at st); (try clear hc); have hc := st.facts; (try simp only [factsOf, blkI, blkFacts, rowI, byI, datI, nullI, oldI, penI, rdI, rdAnyI, rdOverI, Nat.zero_add, Nat.reduceAdd, and_true, true_and, and_self] at hc))))
      refine (nameHas_any _ _ _ m x _ (st.rowFl' (α := List UInt8) (xs := m) (i := 2) get2).2 (by omega) (by omega)).mono ?_
      rintro en w ⟨rfl, hx⟩
      replace st := st.ext hx
      clear hx
      (try clear hc); have hc := st.facts; (try simp only [factsOf, blkI, blkFacts, rowI, byI, datI, nullI, oldI, penI, rdI, rdAnyI, rdOverI, Nat.zero_add, Nat.reduceAdd, and_true, true_and, and_self] at hc)
      rw [HX.out.1, HX.out.2]
      go_wp2_with (first
          | ((with_reducible refine wl_box ?_ (fun K hK => ?_)); (rfl); ((refine owp_box (o := ⟨some 76, _, _, _, _, _⟩) rfl st ?_; apply Exists.intro; refine ⟨?_, ?_⟩; (focus (go_simp; try rfl)); (clear st; intro b76 w hb st; clear hb)); (try simp only [Value.cells, List.cons_append, List.nil_append, List.set, spl, putIt, pick, List.map_cons, List.map_nil, List.getElem?_cons_zero, List.getElem?_cons_succ, Option.getD_some, List.drop_succ_cons, List.drop_zero, List.drop_nil, List.append_nil, unB] at st); (try clear hc); have hc := st.facts; (try simp only [factsOf, blkI, blkFacts, rowI, byI, datI, nullI, oldI, penI, rdI, rdAnyI, rdOverI, Nat.zero_add, Nat.reduceAdd, and_true, true_and, and_self] at hc)))
          | ((with_reducible refine wl_alloc ?_ (fun K hK => ?_)); (rfl); ((refine owp_alloc (o := ⟨some 10, _, _, _, _, _⟩) rfl st ?_; apply Exists.intro; apply Exists.intro; refine ⟨?_, ?_⟩; (focus (first | (go_simp; done) | (go_simp; rfl))); (clear st; intro b10 w hb st; clear hb)); (try simp only [Value.cells, List.cons_append, List.nil_append, List.set, spl, putIt, pick, List.map_cons, List.map_nil, List.getElem?_cons_zero, List.getElem?_cons_succ, Option.getD_some, List.drop_succ_cons, List.drop_zero, List.drop_nil, List.append_nil, unB] at st); (try clear hc); have hc := st.facts; (try simp only [factsOf, blkI, blkFacts, rowI, byI, datI, nullI, oldI, penI, rdI, rdAnyI, rdOverI, Nat.zero_add, Nat.reduceAdd, and_true, true_and, and_self] at hc)))
          | ((with_reducible refine wl_store ?_ (fun K hK => ?_)); (rfl); ((refine owp_store rfl st ?_; apply Exists.intro; apply Exists.intro; refine ⟨?_, ?_, ?_⟩; (focus (go_simp; try rfl)); (focus (go_simp; try rfl)); (first | with_reducible refine ⟨0, _, _, _, _, get0, rfl, rfl, ?_, ?_, ?_, ?_⟩ | with_reducible refine ⟨1, _, _, _, _, get1, rfl, rfl, ?_, ?_, ?_, ?_⟩ | with_reducible refine ⟨2, _, _, _, _, get2, rfl, rfl, ?_, ?_, ?_, ?_⟩ | with_reducible refine ⟨3, _, _, _, _, get3, rfl, rfl, ?_, ?_, ?_, ?_⟩ | with_reducible refine ⟨4, _, _, _, _, get4, rfl, rfl, ?_, ?_, ?_, ?_⟩ | with_reducible refine ⟨5, _, _, _, _, get5, rfl, rfl, ?_, ?_, ?_, ?_⟩ | with_reducible refine ⟨6, _, _, _, _, get6, rfl, rfl, ?_, ?_, ?_, ?_⟩ | with_reducible refine ⟨7, _, _, _, _, get7, rfl, rfl, ?_, ?_, ?_, ?_⟩ | with_reducible refine ⟨8, _, _, _, _, get8, rfl, rfl, ?_, ?_, ?_, ?_⟩ | with_reducible refine ⟨9, _, _, _, _, get9, rfl, rfl, ?_, ?_, ?_, ?_⟩); (kernel_rfl); (simp [Value.cells]); (rfl); (clear st; intro w st)); (try simp only [Value.cells, List.cons_append, List.nil_append, List.set, spl, putIt, pick, List.map_cons, List.map_nil, List.getElem?_cons_zero, List.getElem?_cons_succ, Option.getD_some, List.drop_succ_cons, List.drop_zero, List.drop_nil, List.append_nil, unB] at st); (try clear hc); have hc := st.facts; (try simp only [factsOf, blkI, blkFacts, rowI, byI, datI, nullI, oldI, penI, rdI, rdAnyI, rdOverI, Nat.zero_add, Nat.reduceAdd, and_true, true_and, and_self] at hc))))
      refine (nameHas_any a n c l x _ (st.oldFl (i := 0) get0 H.out.1) (by omega) (by omega)).mono ?_
      rintro en w ⟨rfl, hx⟩
      replace st := st.ext hx
      clear hx
      (try clear hc); have hc := st.facts; (try simp only [factsOf, blkI, blkFacts, rowI, byI, datI, nullI, oldI, penI, rdI, rdAnyI, rdOverI, Nat.zero_add, Nat.reduceAdd, and_true, true_and, and_self] at hc)
      rw [HX.out.1]
      cases hxl : decide (x ∈ l) with
      | true =>
        go_wp2_with (first
            | ((with_reducible refine wl_box ?_ (fun K hK => ?_)); (rfl); ((refine owp_box (o := ⟨some 76, _, _, _, _, _⟩) rfl st ?_; apply Exists.intro; refine ⟨?_, ?_⟩; (focus (go_simp; try rfl)); (clear st; intro b76 w hb st; clear hb)); (try simp only [Value.cells, List.cons_append, List.nil_append, List.set, spl, putIt, pick, List.map_cons, List.map_nil, List.getElem?_cons_zero, List.getElem?_cons_succ, Option.getD_some, List.drop_succ_cons, List.drop_zero, List.drop_nil, List.append_nil, unB] at st); (try clear hc); have hc := st.facts; (try simp only [factsOf, blkI, blkFacts, rowI, byI, datI, nullI, oldI, penI, rdI, rdAnyI, rdOverI, Nat.zero_add, Nat.reduceAdd, and_true, true_and, and_self] at hc)))
            | ((with_reducible refine wl_alloc ?_ (fun K hK => ?_)); (rfl); ((refine owp_alloc (o := ⟨some 10, _, _, _, _, _⟩) rfl st ?_; apply Exists.intro; apply Exists.intro; refine ⟨?_, ?_⟩; (focus (first | (go_simp; done) | (go_simp; rfl))); (clear st; intro b10 w hb st; clear hb)); (try simp only [Value.cells, List.cons_append, List.nil_append, List.set, spl, putIt, pick, List.map_cons, List.map_nil, List.getElem?_cons_zero, List.getElem?_cons_succ, Option.getD_some, List.drop_succ_cons, List.drop_zero, List.drop_nil, List.append_nil, unB] at st); (try clear hc); have hc := st.facts; (try simp only [factsOf, blkI, blkFacts, rowI, byI, datI, nullI, oldI, penI, rdI, rdAnyI, rdOverI, Nat.zero_add, Nat.reduceAdd, and_true, true_and, and_self] at hc)))
            | ((with_reducible refine wl_store ?_ (fun K hK => ?_)); (rfl); ((refine owp_store rfl st ?_; apply Exists.intro; apply Exists.intro; refine ⟨?_, ?_, ?_⟩; (focus (go_simp; try rfl)); (focus (go_simp; try rfl)); (first | with_reducible refine ⟨0, _, _, _, _, get0, rfl, rfl, ?_, ?_, ?_, ?_⟩ | with_reducible refine ⟨1, _, _, _, _, get1, rfl, rfl, ?_, ?_, ?_, ?_⟩ | with_reducible refine ⟨2, _, _, _, _, get2, rfl, rfl, ?_, ?_, ?_, ?_⟩ | with_reducible refine ⟨3, _, _, _, _, get3, rfl, rfl, ?_, ?_, ?_, ?_⟩ | with_reducible refine ⟨4, _, _, _, _, get4, rfl, rfl, ?_, ?_, ?_, ?_⟩ | with_reducible refine ⟨5, _, _, _, _, get5, rfl, rfl, ?_, ?_, ?_, ?_⟩ | with_reducible refine ⟨6, _, _, _, _, get6, rfl, rfl, ?_, ?_, ?_, ?_⟩ | with_reducible refine ⟨7, _, _, _, _, get7, rfl, rfl, ?_, ?_, ?_, ?_⟩ | with_reducible refine ⟨8, _, _, _, _, get8, rfl, rfl, ?_, ?_, ?_, ?_⟩ | with_reducible refine ⟨9, _, _, _, _, get9, rfl, rfl, ?_, ?_, ?_, ?_⟩); (kernel_rfl); (simp [Value.cells]); (rfl); (clear st; intro w st)); (try simp only [Value.cells, List.cons_append, List.nil_append, List.set, spl, putIt, pick, List.map_cons, List.map_nil, List.getElem?_cons_zero, List.getElem?_cons_succ, Option.getD_some, List.drop_succ_cons, List.drop_zero, List.drop_nil, List.append_nil, unB] at st); (try clear hc); have hc := st.facts; (try simp only [factsOf, blkI, blkFacts, rowI, byI, datI, nullI, oldI, penI, rdI, rdAnyI, rdOverI, Nat.zero_add, Nat.reduceAdd, and_true, true_and, and_self] at hc))))
        refine (nameHas_any a' n' c' l' x _ (st.oldFl (i := 0) get0 H.out.2) (by omega) (by omega)).mono ?_
        rintro en w ⟨rfl, hx⟩
        replace st := st.ext hx
        clear hx
        (try clear hc); have hc := st.facts; (try simp only [factsOf, blkI, blkFacts, rowI, byI, datI, nullI, oldI, penI, rdI, rdAnyI, rdOverI, Nat.zero_add, Nat.reduceAdd, and_true, true_and, and_self] at hc)
        rw [HX.out.1]
        cases hxl' : decide (x ∈ l') with
        | true =>
          go_wp2_with (first
              | ((with_reducible refine wl_box ?_ (fun K hK => ?_)); (rfl); ((refine owp_box (o := ⟨some 76, _, _, _, _, _⟩) rfl st ?_; apply Exists.intro; refine ⟨?_, ?_⟩; (focus (go_simp; try rfl)); (clear st; intro b76 w hb st; clear hb)); (try simp only [Value.cells, List.cons_append, List.nil_append, List.set, spl, putIt, pick, List.map_cons, List.map_nil, List.getElem?_cons_zero, List.getElem?_cons_succ, Option.getD_some, List.drop_succ_cons, List.drop_zero, List.drop_nil, List.append_nil, unB] at st); (try clear hc); have hc := st.facts; (try simp only [factsOf, blkI, blkFacts, rowI, byI, datI, nullI, oldI, penI, rdI, rdAnyI, rdOverI, Nat.zero_add, Nat.reduceAdd, and_true, true_and, and_self] at hc)))
              | ((with_reducible refine wl_alloc ?_ (fun K hK => ?_)); (rfl); ((refine owp_alloc (o := ⟨some 10, _, _, _, _, _⟩) rfl st ?_; apply Exists.intro; apply Exists.intro; refine ⟨?_, ?_⟩; (focus (first | (go_simp; done) | (go_simp; rfl))); (clear st; intro b10 w hb st; clear hb)); (try simp only [Value.cells, List.cons_append, List.nil_append, List.set, spl, putIt, pick, List.map_cons, List.map_nil, List.getElem?_cons_zero, List.getElem?_cons_succ, Option.getD_some, List.drop_succ_cons, List.drop_zero, List.drop_nil, List.append_nil, unB] at st); (try clear hc); have hc := st.facts; (try simp only [factsOf, blkI, blkFacts, rowI, byI, datI, nullI, oldI, penI, rdI, rdAnyI, rdOverI, Nat.zero_add, Nat.reduceAdd, and_true, true_and, and_self] at hc)))
              | ((with_reducible refine wl_store ?_ (fun K hK => ?_)); (rfl); ((refine owp_store rfl st ?_; apply Exists.intro; apply Exists.intro; refine ⟨?_, ?_, ?_⟩; (focus (go_simp; try rfl)); (focus (go_simp; try rfl)); (first | with_reducible refine ⟨0, _, _, _, _, get0, rfl, rfl, ?_, ?_, ?_, ?_⟩ | with_reducible refine ⟨1, _, _, _, _, get1, rfl, rfl, ?_, ?_, ?_, ?_⟩ | with_reducible refine ⟨2, _, _, _, _, get2, rfl, rfl, ?_, ?_, ?_, ?_⟩ | with_reducible refine ⟨3, _, _, _, _, get3, rfl, rfl, ?_, ?_, ?_, ?_⟩ | with_reducible refine ⟨4, _, _, _, _, get4, rfl, rfl, ?_, ?_, ?_, ?_⟩ | with_reducible refine ⟨5, _, _, _, _, get5, rfl, rfl, ?_, ?_, ?_, ?_⟩ | with_reducible refine ⟨6, _, _, _, _, get6, rfl, rfl, ?_, ?_, ?_, ?_⟩ | with_reducible refine ⟨7, _, _, _, _, get7, rfl, rfl, ?_, ?_, ?_, ?_⟩ | with_reducible refine ⟨8, _, _, _, _, get8, rfl, rfl, ?_, ?_, ?_, ?_⟩ | with_reducible refine ⟨9, _, _, _, _, get9, rfl, rfl, ?_, ?_, ?_, ?_⟩); (kernel_rfl); (simp [Value.cells]); (rfl); (clear st; intro w st)); (try simp only [Value.cells, List.cons_append, List.nil_append, List.set, spl, putIt, pick, List.map_cons, List.map_nil, List.getElem?_cons_zero, List.getElem?_cons_succ, Option.getD_some, List.drop_succ_cons, List.drop_zero, List.drop_nil, List.append_nil, unB] at st); (try clear hc); have hc := st.facts; (try simp only [factsOf, blkI, blkFacts, rowI, byI, datI, nullI, oldI, penI, rdI, rdAnyI, rdOverI, Nat.zero_add, Nat.reduceAdd, and_true, true_and, and_self] at hc))))
          have st' := st.keep [0, 1, 2] (by decide) (by simp)
          go_roundg (k0 - (j + 1))
          case measure => omega
          case rel => exact ⟨j + 1, by omega, rfl, by go_num, by simpa [pick] using st'⟩
        | false =>
          go_wp2_with (first
              | ((with_reducible refine wl_box ?_ (fun K hK => ?_)); (rfl); ((refine owp_box (o := ⟨some 76, _, _, _, _, _⟩) rfl st ?_; apply Exists.intro; refine ⟨?_, ?_⟩; (focus (go_simp; try rfl)); (clear st; intro b76 w hb st; clear hb)); (try simp only [Value.cells, List.cons_append, List.nil_append, List.set, spl, putIt, pick, List.map_cons, List.map_nil, List.getElem?_cons_zero, List.getElem?_cons_succ, Option.getD_some, List.drop_succ_cons, List.drop_zero, List.drop_nil, List.append_nil, unB] at st); (try clear hc); have hc := st.facts; (try simp only [factsOf, blkI, blkFacts, rowI, byI, datI, nullI, oldI, penI, rdI, rdAnyI, rdOverI, Nat.zero_add, Nat.reduceAdd, and_true, true_and, and_self] at hc)))
              | ((with_reducible refine wl_alloc ?_ (fun K hK => ?_)); (rfl); ((refine owp_alloc (o := ⟨some 10, _, _, _, _, _⟩) rfl st ?_; apply Exists.intro; apply Exists.intro; refine ⟨?_, ?_⟩; (focus (first | (go_simp; done) | (go_simp; rfl))); (clear st; intro b10 w hb st; clear hb)); (try simp only [Value.cells, List.cons_append, List.nil_append, List.set, spl, putIt, pick, List.map_cons, List.map_nil, List.getElem?_cons_zero, List.getElem?_cons_succ, Option.getD_some, List.drop_succ_cons, List.drop_zero, List.drop_nil, List.append_nil, unB] at st); (try clear hc); have hc := st.facts; (try simp only [factsOf, blkI, blkFacts, rowI, byI, datI, nullI, oldI, penI, rdI, rdAnyI, rdOverI, Nat.zero_add, Nat.reduceAdd, and_true, true_and, and_self] at hc)))
              | ((with_reducible refine wl_store ?_ (fun K hK => ?_)); (rfl); ((refine owp_store rfl st ?_; apply Exists.intro; apply Exists.intro; refine ⟨?_, ?_, ?_⟩; (focus (go_simp; try rfl)); (focus (go_simp; try rfl)); (first | with_reducible refine ⟨0, _, _, _, _, get0, rfl, rfl, ?_, ?_, ?_, ?_⟩ | with_reducible refine ⟨1, _, _, _, _, get1, rfl, rfl, ?_, ?_, ?_, ?_⟩ | with_reducible refine ⟨2, _, _, _, _, get2, rfl, rfl, ?_, ?_, ?_, ?_⟩ | with_reducible refine ⟨3, _, _, _, _, get3, rfl, rfl, ?_, ?_, ?_, ?_⟩ | with_reducible refine ⟨4, _, _, _, _, get4, rfl, rfl, ?_, ?_, ?_, ?_⟩ | with_reducible refine ⟨5, _, _, _, _, get5, rfl, rfl, ?_, ?_, ?_, ?_⟩ | with_reducible refine ⟨6, _, _, _, _, get6, rfl, rfl, ?_, ?_, ?_, ?_⟩ | with_reducible refine ⟨7, _, _, _, _, get7, rfl, rfl, ?_, ?_, ?_, ?_⟩ | with_reducible refine ⟨8, _, _, _, _, get8, rfl, rfl, ?_, ?_, ?_, ?_⟩ | with_reducible refine ⟨9, _, _, _, _, get9, rfl, rfl, ?_, ?_, ?_, ?_⟩); (kernel_rfl); (simp [Value.cells]); (rfl); (clear st; intro w st)); (try simp only [Value.cells, List.cons_append, List.nil_append, List.set, spl, putIt, pick, List.map_cons, List.map_nil, List.getElem?_cons_zero, List.getElem?_cons_succ, Option.getD_some, List.drop_succ_cons, List.drop_zero, List.drop_nil, List.append_nil, unB] at st); (try clear hc); have hc := st.facts; (try simp only [factsOf, blkI, blkFacts, rowI, byI, datI, nullI, oldI, penI, rdI, rdAnyI, rdOverI, Nat.zero_add, Nat.reduceAdd, and_true, true_and, and_self] at hc))))
          have st' := st.keep [0, 1, 2] (by decide) (by simp)
          go_roundg (k0 - (j + 1))
          case measure => omega
          case rel => exact ⟨j + 1, by omega, rfl, by go_num, by simpa [pick] using st'⟩
      | false =>
        go_wp2_with (first
            | ((with_reducible refine wl_box ?_ (fun K hK => ?_)); (rfl); ((refine owp_box (o := ⟨some 76, _, _, _, _, _⟩) rfl st ?_; apply Exists.intro; refine ⟨?_, ?_⟩; (focus (go_simp; try rfl)); (clear st; intro b76 w hb st; clear hb)); (try simp only [Value.cells, List.cons_append, List.nil_append, List.set, spl, putIt, pick, List.map_cons, List.map_nil, List.getElem?_cons_zero, List.getElem?_cons_succ, Option.getD_some, List.drop_succ_cons, List.drop_zero, List.drop_nil, List.append_nil, unB] at st); (try clear hc); have hc := st.facts; (try simp only [factsOf, blkI, blkFacts, rowI, byI, datI, nullI, oldI, penI, rdI, rdAnyI, rdOverI, Nat.zero_add, Nat.reduceAdd, and_true, true_and, and_self] at hc)))
            | ((with_reducible refine wl_alloc ?_ (fun K hK => ?_)); (rfl); ((refine owp_alloc (o := ⟨some 10, _, _, _, _, _⟩) rfl st ?_; apply Exists.intro; apply Exists.intro; refine ⟨?_, ?_⟩; (focus (first | (go_simp; done) | (go_simp; rfl))); (clear st; intro b10 w hb st; clear hb)); (try simp only [Value.cells, List.cons_append, List.nil_append, List.set, spl, putIt, pick, List.map_cons, List.map_nil, List.getElem?_cons_zero, List.getElem?_cons_succ, Option.getD_some, List.drop_succ_cons, List.drop_zero, List.drop_nil, List.append_nil, unB] at st); (try clear hc); have hc := st.facts; (try simp only [factsOf, blkI, blkFacts, rowI, byI, datI, nullI, oldI, penI, rdI, rdAnyI, rdOverI, Nat.zero_add, Nat.reduceAdd, and_true, true_and, and_self] at hc)))
            | ((with_reducible refine wl_store ?_ (fun K hK => ?_)); (rfl); ((refine owp_store rfl st ?_; apply Exists.intro; apply Exists.intro; refine ⟨?_, ?_, ?_⟩; (focus (go_simp; try rfl)); (focus (go_simp; try rfl)); (first | with_reducible refine ⟨0, _, _, _, _, get0, rfl, rfl, ?_, ?_, ?_, ?_⟩ | with_reducible refine ⟨1, _, _, _, _, get1, rfl, rfl, ?_, ?_, ?_, ?_⟩ | with_reducible refine ⟨2, _, _, _, _, get2, rfl, rfl, ?_, ?_, ?_, ?_⟩ | with_reducible refine ⟨3, _, _, _, _, get3, rfl, rfl, ?_, ?_, ?_, ?_⟩ | with_reducible refine ⟨4, _, _, _, _, get4, rfl, rfl, ?_, ?_, ?_, ?_⟩ | with_reducible refine ⟨5, _, _, _, _, get5, rfl, rfl, ?_, ?_, ?_, ?_⟩ | with_reducible refine ⟨6, _, _, _, _, get6, rfl, rfl, ?_, ?_, ?_, ?_⟩ | with_reducible refine ⟨7, _, _, _, _, get7, rfl, rfl, ?_, ?_, ?_, ?_⟩ | with_reducible refine ⟨8, _, _, _, _, get8, rfl, rfl, ?_, ?_, ?_, ?_⟩ | with_reducible refine ⟨9, _, _, _, _, get9, rfl, rfl, ?_, ?_, ?_, ?_⟩); (kernel_rfl); (simp [Value.cells]); (rfl); (clear st; intro w st)); (try simp only [Value.cells, List.cons_append, List.nil_append, List.set, spl, putIt, pick, List.map_cons, List.map_nil, List.getElem?_cons_zero, List.getElem?_cons_succ, Option.getD_some, List.drop_succ_cons, List.drop_zero, List.drop_nil, List.append_nil, unB] at st); (try clear hc); have hc := st.facts; (try simp only [factsOf, blkI, blkFacts, rowI, byI, datI, nullI, oldI, penI, rdI, rdAnyI, rdOverI, Nat.zero_add, Nat.reduceAdd, and_true, true_and, and_self] at hc))))
        have st' := st.keep [0, 1, 2] (by decide) (by simp)
        go_roundg (k0 - (j + 1))
        case measure => omega
        case rel => exact ⟨j + 1, by omega, rfl, by go_num, by simpa [pick] using st'⟩
    · obtain rfl : j = k0 := by omega
      go_wp2_with fail
      go_ret
      exact ⟨rfl, st.ext0⟩
end Go.Proofs.Ytpenjnccdachaaa
