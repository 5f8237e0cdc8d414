/- LogSpoils. -/
import Derived.Test.YtcminppmmhinjaaLogH
namespace Go.Proofs.Ytcminppmmhinjaa
set_option linter.unusedSimpArgs false
set_option linter.unusedVariables false
open Go Go.RowKit
theorem cur_at {cur l : List LegT} (hc : cur.map ent = l.map ent) {k : Nat} {y : LegT} (hk : l[k]? = some y) : ∃ x, cur[k]? = some x ∧ x.o = y.o ∧ x.xs = y.xs := by
  have h := congrArg (·[k]?) hc
  simp only [List.getElem?_map, hk, Option.map_some] at h
  cases hx : cur[k]? with
  | none => rw [hx] at h; cases h
  | some x =>
    rw [hx] at h
    simp only [Option.map_some, Option.some.injEq, ent, Prod.mk.injEq] at h
    exact ⟨x, rfl, h.1, h.2⟩
theorem cur_len {cur l : List LegT} (hc : cur.map ent = l.map ent) : cur.length = l.length := by
  have := congrArg List.length hc
  simpa using this
theorem cur_n {cur l : List LegT} {w W : World} {N : Nat} (hc : cur.map ent = l.map ent) (f : ∀ x ∈ cur, (x.n ≤ x.c ∧ x.c ≤ maxLen) ∧ By w x.a x.n x.xs) (hk : ∀ x ∈ l, By W x.a x.n x.xs) (hN : ∀ x ∈ l, x.n ≤ N) : ∀ x ∈ cur, x.n ≤ N := by
  intro x hx
  obtain ⟨k, hk1⟩ := List.getElem?_of_mem hx
  have hkl : k < l.length := by rw [← cur_len hc]; exact (List.getElem?_eq_some_iff.1 hk1).1
  obtain ⟨x', h1, h2, h3⟩ := cur_at hc (List.getElem?_eq_getElem hkl)
  rw [hk1] at h1
  cases h1
  have hm := List.getElem_mem hkl
  have e1 := (f x hx).2.1
  have e2 := (hk _ hm).1
  have := hN _ hm
  rw [h3] at e1
  omega
theorem map_ent_set (cur : List LegT) (k : Nat) (x : LegT) (ys : List UInt8) : (cur.set k { x with xs := ys }).map ent = (cur.map ent).set k (x.o, ys) := by rw [List.map_set]; rfl
theorem set_back {α : Type} (l : List α) (k : Nat) (u v : α) (h : l[k]? = some v) : (l.set k u).set k v = l := by
  rw [List.set_set]
  have hk := (List.getElem?_eq_some_iff.1 h)
  obtain ⟨h1, h2⟩ := hk
  rw [← h2, List.set_getElem_self]
set_option maxRecDepth 100000 in
set_option maxHeartbeats 4000000 in
theorem logSpoils_all (a : Option Addr) (n c : Nat) (l : List LegT) (i bit : Int) (W : World) (h : Fl W a n l) (hk : ∀ x ∈ l, (x.n ≤ x.c ∧ x.c ≤ maxLen) ∧ By W x.a x.n x.xs) (hs : legW l ≤ 100000000000) :
    Calls Try.prog 6 #[.slice a n c, .int .i64 i, .int .i64 bit] W fun e w' => e = .returned (.bool true) ∧ Ext W w' := by
  have H := Lib.hid h
  have HN : Hid (n = l.length) := Lib.hid h.1
  have HK := Lib.hid hk
  have HBY : Hid (∀ x ∈ l, By W x.a x.n x.xs) := Lib.hid (fun x hx => (hk x hx).2)
  have HGR := Lib.hid (fun W' (hx : Ext W W') => logGreat_any a n c l W' (Arr.ext h hx) hs)
  have HLE := Lib.hid (legW_len l)
  have HME := Lib.hid (legW_mem l)
  obtain ⟨wl, hwl⟩ : ∃ w, legW l = w := ⟨_, rfl⟩
  rw [hwl] at HGR HLE HME
  have st := Own.startOld W
  clear h hk hs hwl
  (try simp only [Value.cells, List.cons_append, List.nil_append, List.set, spl, putIt, pick, List.map_cons, List.map_nil, List.getElem?_cons_zero, List.getElem?_cons_succ, Option.getD_some, List.drop_succ_cons, List.drop_zero, List.drop_nil, List.append_nil, unB] at st)
  (try clear hc); have hc := st.facts; (try simp only [factsOf, blkI, blkFacts, rowI, byI, datI, nullI, oldI, penI, rdI, rdAnyI, rdOverI, Nat.zero_add, Nat.reduceAdd, and_true, true_and, and_self] at hc)
  go_enter Try.func6, Try.ntmps6
  go_wp2_with fail
  refine (logFirst_any _).mono ?_
  rintro en w ⟨rfl, hx⟩
  replace st := st.ext hx
  clear hx
  (try clear hc); have hc := st.facts; (try simp only [factsOf, blkI, blkFacts, rowI, byI, datI, nullI, oldI, penI, rdI, rdAnyI, rdOverI, Nat.zero_add, Nat.reduceAdd, and_true, true_and, and_self] at hc)
  go_wp2_with fail
  refine (HGR.out _ st.ext0).mono ?_
  rintro en w ⟨rfl, hx⟩
  replace st := st.ext hx
  clear hx
  (try clear hc); have hc := st.facts; (try simp only [factsOf, blkI, blkFacts, rowI, byI, datI, nullI, oldI, penI, rdI, rdAnyI, rdOverI, Nat.zero_add, Nat.reduceAdd, and_true, true_and, and_self] at hc)
  by_cases h1 : 5000 < wl
  · skip
    go_wp2_with fail
    go_ret
    exact ⟨rfl, st.ext0⟩
  have hn : n ≤ 250 := by have := HLE.out; have := HN.out; omega
  have HX : Hid (∀ x ∈ l, x.n ≤ 1000000) := Lib.hid (fun x hx => by have := HME.out x hx; omega)
  have HLA : Hid (LegsA (fun _ => True) W a n l) := Lib.hid ⟨H.out, fun _ _ _ => trivial, fun x hx => ⟨(HK.out x hx).1, (HK.out x hx).2, fun _ _ _ => trivial⟩⟩
  clear HME HLE HGR
  go_wp2_with fail
  obtain ⟨fr', al', st', back⟩ := st.sub [] (by decide) (by simp)
  (try simp only [Value.cells, List.cons_append, List.nil_append, List.set, spl, putIt, pick, List.map_cons, List.map_nil, List.getElem?_cons_zero, List.getElem?_cons_succ, Option.getD_some, List.drop_succ_cons, List.drop_zero, List.drop_nil, List.append_nil, unB] at st')
  refine (logNew_c st').mono ?_
  clear st'
  rintro en w ⟨p, ha, hk, rfl, st'⟩
  replace st := back _ _ (by simp) st'
  clear back st'
  (try simp only [Value.cells, List.cons_append, List.nil_append, List.set, spl, putIt, pick, List.map_cons, List.map_nil, List.getElem?_cons_zero, List.getElem?_cons_succ, Option.getD_some, List.drop_succ_cons, List.drop_zero, List.drop_nil, List.append_nil, unB] at st)
  (try clear hc); have hc := st.facts; (try simp only [factsOf, blkI, blkFacts, rowI, byI, datI, nullI, oldI, penI, rdI, rdAnyI, rdOverI, Nat.zero_add, Nat.reduceAdd, and_true, true_and, and_self] at hc)
  replace st := st.shOld (i := 0) get0 (fun _ => True)
  simp only [List.cons_append, List.nil_append] at st
  have st' := st.keep [1, 2, 3, 4, 5, 0] (by decide) (by simp)
  clear st
  simp only [pick, List.map_cons, List.map_nil, List.getElem?_cons_zero, List.getElem?_cons_succ, Option.getD_some] at st'
  have st := st'
  clear st'
  (try simp only [Value.cells, List.cons_append, List.nil_append, List.set, spl, putIt, pick, List.map_cons, List.map_nil, List.getElem?_cons_zero, List.getElem?_cons_succ, Option.getD_some, List.drop_succ_cons, List.drop_zero, List.drop_nil, List.append_nil, unB] at st)
  (try clear hc); have hc := st.facts; (try simp only [factsOf, blkI, blkFacts, rowI, byI, datI, nullI, oldI, penI, rdI, rdAnyI, rdOverI, Nat.zero_add, Nat.reduceAdd, and_true, true_and, and_self] at hc)
  go_wp2_with fail
  obtain ⟨fr', al', st', back⟩ := st.sub [0, 1, 2, 3, 4] (by decide) (by simp)
  (try simp only [Value.cells, List.cons_append, List.nil_append, List.set, spl, putIt, pick, List.map_cons, List.map_nil, List.getElem?_cons_zero, List.getElem?_cons_succ, Option.getD_some, List.drop_succ_cons, List.drop_zero, List.drop_nil, List.append_nil, unB] at st')
  refine (logAdd_c (m := 0) (ls := []) (by simpa [cellsL] using st') rfl a n c l HLA.out (by omega) HX.out).mono ?_
  clear st'
  rintro en w ⟨la, lc, ha', hk', cur, rfl, hcur, st'⟩
  replace st := back _ _ (by simp) st'
  clear back st'
  (try simp only [Value.cells, List.cons_append, List.nil_append, List.set, spl, putIt, pick, List.map_cons, List.map_nil, List.getElem?_cons_zero, List.getElem?_cons_succ, Option.getD_some, List.drop_succ_cons, List.drop_zero, List.drop_nil, List.append_nil, unB] at st)
  (try clear hc); have hc := st.facts; (try simp only [factsOf, blkI, blkFacts, rowI, byI, datI, nullI, oldI, penI, rdI, rdAnyI, rdOverI, Nat.zero_add, Nat.reduceAdd, and_true, true_and, and_self] at hc)
  simp only [List.map_nil, List.nil_append] at hcur
  have HCU := Lib.hid hcur
  obtain ⟨es, hes⟩ : ∃ es, l.map ent = es := ⟨_, rfl⟩
  have HES0 := Lib.hid hes
  have HES : Hid (es.length = n) := Lib.hid (by rw [← hes, List.length_map, HN.out])
  have HCU2 : Hid (cur.map ent = es) := Lib.hid (by rw [hcur, hes])
  rw [hcur, hes] at st
  simp only [Nat.zero_add] at st
  clear hcur hes
  (try simp only [Value.cells, List.cons_append, List.nil_append, List.set, spl, putIt, pick, List.map_cons, List.map_nil, List.getElem?_cons_zero, List.getElem?_cons_succ, Option.getD_some, List.drop_succ_cons, List.drop_zero, List.drop_nil, List.append_nil, unB] at st)
  (try clear hc); have hc := st.facts; (try simp only [factsOf, blkI, blkFacts, rowI, byI, datI, nullI, oldI, penI, rdI, rdAnyI, rdOverI, Nat.zero_add, Nat.reduceAdd, and_true, true_and, and_self] at hc)
  by_cases i0 : i < 0
  · skip
    rcases Nat.eq_zero_or_pos n with hz | hz
    · subst hz
      go_wp2_with fail
      obtain ⟨f0, f1, f2, f3, f4⟩ := logF st
      refine (logSpoil_out _ _ p 0 lc la cur _ f0 f2 (cur_n HCU.out f4 HBY.out HX.out) (by omega) (.inl i0)).mono ?_
      rintro en w' ⟨rfl, rfl⟩
      clear f0 f1 f2 f3 f4
      go_wp2_with fail
      obtain ⟨f0, f1, f2, f3, f4⟩ := logF st
      refine (logCheck_any p 0 lc hk' la ha' es cur _ f0 f1 f2 f3 f4 HES.out (by omega)).mono ?_
      rintro en w ⟨rfl, hx⟩
      clear f0 f1 f2 f3 f4
      replace st := st.ext hx
      clear hx
      rw [HCU2.out, chkN_self, HES.out]
      (try simp only [Value.cells, List.cons_append, List.nil_append, List.set, spl, putIt, pick, List.map_cons, List.map_nil, List.getElem?_cons_zero, List.getElem?_cons_succ, Option.getD_some, List.drop_succ_cons, List.drop_zero, List.drop_nil, List.append_nil, unB] at st)
      (try clear hc); have hc := st.facts; (try simp only [factsOf, blkI, blkFacts, rowI, byI, datI, nullI, oldI, penI, rdI, rdAnyI, rdOverI, Nat.zero_add, Nat.reduceAdd, and_true, true_and, and_self] at hc)
      go_wp2_with fail
      go_ret
      exact ⟨by simp, st.ext0⟩
    · have hz' : ((n : Int) == 0) = false := by simp; omega
      go_wp2_with fail
      obtain ⟨f0, f1, f2, f3, f4⟩ := logF st
      refine (logSpoil_out _ _ p n lc la cur _ f0 f2 (cur_n HCU.out f4 HBY.out HX.out) (by omega) (.inl i0)).mono ?_
      rintro en w' ⟨rfl, rfl⟩
      clear f0 f1 f2 f3 f4
      go_wp2_with fail
      obtain ⟨f0, f1, f2, f3, f4⟩ := logF st
      refine (logCheck_any p n lc hk' la ha' es cur _ f0 f1 f2 f3 f4 HES.out (by omega)).mono ?_
      rintro en w ⟨rfl, hx⟩
      clear f0 f1 f2 f3 f4
      replace st := st.ext hx
      clear hx
      rw [HCU2.out, chkN_self, HES.out]
      (try simp only [Value.cells, List.cons_append, List.nil_append, List.set, spl, putIt, pick, List.map_cons, List.map_nil, List.getElem?_cons_zero, List.getElem?_cons_succ, Option.getD_some, List.drop_succ_cons, List.drop_zero, List.drop_nil, List.append_nil, unB] at st)
      (try clear hc); have hc := st.facts; (try simp only [factsOf, blkI, blkFacts, rowI, byI, datI, nullI, oldI, penI, rdI, rdAnyI, rdOverI, Nat.zero_add, Nat.reduceAdd, and_true, true_and, and_self] at hc)
      go_wp2_with fail
      go_ret
      exact ⟨by simp, st.ext0⟩
  by_cases i1 : (n : Int) ≤ i
  · skip
    rcases Nat.eq_zero_or_pos n with hz | hz
    · subst hz
      go_wp2_with fail
      obtain ⟨f0, f1, f2, f3, f4⟩ := logF st
      refine (logSpoil_out _ _ p 0 lc la cur _ f0 f2 (cur_n HCU.out f4 HBY.out HX.out) (by omega) (.inr (.inl i1))).mono ?_
      rintro en w' ⟨rfl, rfl⟩
      clear f0 f1 f2 f3 f4
      go_wp2_with fail
      obtain ⟨f0, f1, f2, f3, f4⟩ := logF st
      refine (logCheck_any p 0 lc hk' la ha' es cur _ f0 f1 f2 f3 f4 HES.out (by omega)).mono ?_
      rintro en w ⟨rfl, hx⟩
      clear f0 f1 f2 f3 f4
      replace st := st.ext hx
      clear hx
      rw [HCU2.out, chkN_self, HES.out]
      (try simp only [Value.cells, List.cons_append, List.nil_append, List.set, spl, putIt, pick, List.map_cons, List.map_nil, List.getElem?_cons_zero, List.getElem?_cons_succ, Option.getD_some, List.drop_succ_cons, List.drop_zero, List.drop_nil, List.append_nil, unB] at st)
      (try clear hc); have hc := st.facts; (try simp only [factsOf, blkI, blkFacts, rowI, byI, datI, nullI, oldI, penI, rdI, rdAnyI, rdOverI, Nat.zero_add, Nat.reduceAdd, and_true, true_and, and_self] at hc)
      go_wp2_with fail
      go_ret
      exact ⟨by simp, st.ext0⟩
    · have hz' : ((n : Int) == 0) = false := by simp; omega
      go_wp2_with fail
      obtain ⟨f0, f1, f2, f3, f4⟩ := logF st
      refine (logSpoil_out _ _ p n lc la cur _ f0 f2 (cur_n HCU.out f4 HBY.out HX.out) (by omega) (.inr (.inl i1))).mono ?_
      rintro en w' ⟨rfl, rfl⟩
      clear f0 f1 f2 f3 f4
      go_wp2_with fail
      obtain ⟨f0, f1, f2, f3, f4⟩ := logF st
      refine (logCheck_any p n lc hk' la ha' es cur _ f0 f1 f2 f3 f4 HES.out (by omega)).mono ?_
      rintro en w ⟨rfl, hx⟩
      clear f0 f1 f2 f3 f4
      replace st := st.ext hx
      clear hx
      rw [HCU2.out, chkN_self, HES.out]
      (try simp only [Value.cells, List.cons_append, List.nil_append, List.set, spl, putIt, pick, List.map_cons, List.map_nil, List.getElem?_cons_zero, List.getElem?_cons_succ, Option.getD_some, List.drop_succ_cons, List.drop_zero, List.drop_nil, List.append_nil, unB] at st)
      (try clear hc); have hc := st.facts; (try simp only [factsOf, blkI, blkFacts, rowI, byI, datI, nullI, oldI, penI, rdI, rdAnyI, rdOverI, Nat.zero_add, Nat.reduceAdd, and_true, true_and, and_self] at hc)
      go_wp2_with fail
      go_ret
      exact ⟨by simp, st.ext0⟩
  obtain ⟨k, rfl⟩ : ∃ k : Nat, i = (k : Int) := ⟨i.toNat, by omega⟩
  by_cases b0 : bit < 0
  · have hz' : ((n : Int) == 0) = false := by simp; omega
    go_wp2_with fail
    obtain ⟨f0, f1, f2, f3, f4⟩ := logF st
    refine (logSpoil_out _ _ p n lc la cur _ f0 f2 (cur_n HCU.out f4 HBY.out HX.out) (by omega) (.inr (.inr (.inl b0)))).mono ?_
    rintro en w' ⟨rfl, rfl⟩
    clear f0 f1 f2 f3 f4
    go_wp2_with fail
    obtain ⟨f0, f1, f2, f3, f4⟩ := logF st
    refine (logCheck_any p n lc hk' la ha' es cur _ f0 f1 f2 f3 f4 HES.out (by omega)).mono ?_
    rintro en w ⟨rfl, hx⟩
    clear f0 f1 f2 f3 f4
    replace st := st.ext hx
    clear hx
    rw [HCU2.out, chkN_self, HES.out]
    (try simp only [Value.cells, List.cons_append, List.nil_append, List.set, spl, putIt, pick, List.map_cons, List.map_nil, List.getElem?_cons_zero, List.getElem?_cons_succ, Option.getD_some, List.drop_succ_cons, List.drop_zero, List.drop_nil, List.append_nil, unB] at st)
    (try clear hc); have hc := st.facts; (try simp only [factsOf, blkI, blkFacts, rowI, byI, datI, nullI, oldI, penI, rdI, rdAnyI, rdOverI, Nat.zero_add, Nat.reduceAdd, and_true, true_and, and_self] at hc)
    go_wp2_with fail
    go_ret
    exact ⟨by simp, st.ext0⟩
  obtain ⟨b, rfl⟩ : ∃ b : Nat, bit = (b : Int) := ⟨bit.toNat, by omega⟩
  have hkl : k < l.length := by have := HN.out; omega
  obtain ⟨x, hx1, hx2, hx3⟩ := cur_at HCU.out (List.getElem?_eq_getElem hkl)
  obtain ⟨gb, goff, ha0, hcell⟩ := H.out.leg (by omega)
  have RL := Lib.hid (hcell k l[k] (List.getElem?_eq_getElem hkl))
  have hyn : l[k].n = x.n := by
    obtain ⟨f0, f1, f2, f3, f4⟩ := logF st
    rw [(f4 x (List.mem_of_getElem? hx1)).2.1, (HBY.out _ (List.getElem_mem hkl)).1, hx3]
  have hxn : x.n ≤ 1000000 := by rw [← hyn]; exact HX.out _ (List.getElem_mem hkl)
  have hxl : x.n = x.xs.length := by
    obtain ⟨f0, f1, f2, f3, f4⟩ := logF st
    exact (f4 x (List.mem_of_getElem? hx1)).2.1
  have HXL := Lib.hid hxl
  have hek : es[k]? = some (x.o, x.xs) := by rw [← HES0.out, List.getElem?_map, List.getElem?_eq_getElem hkl, hx2, hx3]; rfl
  clear hx2 hx3 hcell hxl
  generalize l[k] = y at *
  obtain ⟨yo, ya, yn, yc, ys⟩ := y
  simp only at hyn RL
  subst hyn
  subst ha0
  have r1 := st.oldCell (i := 5) get5 RL.out.2
  have hz' : ((n : Int) == 0) = false := by simp; omega
  by_cases b1 : 8 * (x.n : Int) ≤ (b : Int)
  · have hb' : decide ((b : Int) < 8 * (x.n : Int)) = false := decide_eq_false (by omega)
    go_wp2_with fail
    obtain ⟨f0, f1, f2, f3, f4⟩ := logF st
    refine (logSpoil_out _ _ p n lc la cur _ f0 f2 (cur_n HCU.out f4 HBY.out HX.out) (by omega) (.inr (.inr (.inr ⟨x, by simpa using hx1, b1⟩)))).mono ?_
    rintro en w' ⟨rfl, rfl⟩
    clear f0 f1 f2 f3 f4
    go_wp2_with fail
    obtain ⟨f0, f1, f2, f3, f4⟩ := logF st
    refine (logCheck_any p n lc hk' la ha' es cur _ f0 f1 f2 f3 f4 HES.out (by omega)).mono ?_
    rintro en w ⟨rfl, hx⟩
    clear f0 f1 f2 f3 f4
    replace st := st.ext hx
    clear hx
    rw [HCU2.out, chkN_self, HES.out]
    (try simp only [Value.cells, List.cons_append, List.nil_append, List.set, spl, putIt, pick, List.map_cons, List.map_nil, List.getElem?_cons_zero, List.getElem?_cons_succ, Option.getD_some, List.drop_succ_cons, List.drop_zero, List.drop_nil, List.append_nil, unB] at st)
    (try clear hc); have hc := st.facts; (try simp only [factsOf, blkI, blkFacts, rowI, byI, datI, nullI, oldI, penI, rdI, rdAnyI, rdOverI, Nat.zero_add, Nat.reduceAdd, and_true, true_and, and_self] at hc)
    go_wp2_with fail
    go_ret
    exact ⟨by simp, st.ext0⟩
  have hb : b < 8 * x.n := by omega
  have hb' : decide ((b : Int) < 8 * (x.n : Int)) = true := decide_eq_true (by omega)
  obtain ⟨xb, hxb⟩ : ∃ xb, x.xs[b / 8]? = some xb := ⟨_, List.getElem?_eq_getElem (by rw [← HXL.out]; omega)⟩
  have HXB := Lib.hid hxb
  have HX1 := Lib.hid hx1
  have HEK := Lib.hid hek
  clear hx1 hxb hek
  go_wp2_with fail
  obtain ⟨fr', al', st', back⟩ := st.sub [0, 1, 2, 3] (by decide) (by simp)
  (try simp only [Value.cells, List.cons_append, List.nil_append, List.set, spl, putIt, pick, List.map_cons, List.map_nil, List.getElem?_cons_zero, List.getElem?_cons_succ, Option.getD_some, List.drop_succ_cons, List.drop_zero, List.drop_nil, List.append_nil, unB] at st')
  refine (logSpoil_c (k := k) (b := b) (x := x) (xb := xb) st' (by rw [cur_len HCU.out, HN.out]) (by omega) HX1.out hb hxn HXB.out).mono ?_
  clear st'
  rintro en w ⟨rfl, st'⟩
  replace st := back _ _ (by simp) st'
  clear back st'
  (try simp only [Value.cells, List.cons_append, List.nil_append, List.set, spl, putIt, pick, List.map_cons, List.map_nil, List.getElem?_cons_zero, List.getElem?_cons_succ, Option.getD_some, List.drop_succ_cons, List.drop_zero, List.drop_nil, List.append_nil, unB] at st)
  (try clear hc); have hc := st.facts; (try simp only [factsOf, blkI, blkFacts, rowI, byI, datI, nullI, oldI, penI, rdI, rdAnyI, rdOverI, Nat.zero_add, Nat.reduceAdd, and_true, true_and, and_self] at hc)
  obtain ⟨j, hj⟩ : ∃ j, b / 8 = j := ⟨_, rfl⟩
  obtain ⟨r, hr⟩ : ∃ r, b % 8 = r := ⟨_, rfl⟩
  rw [hj, hr] at st
  rw [hj] at HXB
  have hr8 : r < 8 := by omega
  have hjl : j < x.xs.length := by rw [← HXL.out]; omega
  have hset := map_ent_set cur k x (x.xs.set j (turn xb r))
  rw [HCU2.out] at hset
  have hxe : x.xs[j] = xb := by have := HXB.out; rw [List.getElem?_eq_getElem hjl] at this; exact Option.some.inj this
  have HCK : Hid (chkN es ((cur.set k { x with xs := x.xs.set j (turn xb r) }).map ent) = k) := Lib.hid (by
    rw [hset]
    exact chkN_spoiled es k j x.o x.xs (turn xb r) HEK.out hjl (by rw [hxe]; exact turn_ne xb r hr8))
  have HX2 : Hid ((cur.set k { x with xs := x.xs.set j (turn xb r) })[k]? = some { x with xs := x.xs.set j (turn xb r) }) := Lib.hid (by
    rw [List.getElem?_set, if_pos rfl, if_pos (List.getElem?_eq_some_iff.1 HX1.out).1])
  have HXB2 : Hid ((x.xs.set j (turn xb r))[j]? = some (turn xb r)) := Lib.hid (by rw [List.getElem?_set, if_pos rfl, if_pos hjl])
  have HBK : Hid ((x.xs.set j (turn xb r)).set j (turn (turn xb r) r) = x.xs) := Lib.hid (by rw [turn_turn _ _ hr8]; exact set_back _ _ _ _ HXB.out)
  have HCB : Hid ((cur.set k { x with xs := x.xs.set j (turn xb r) }).set k x = cur) := Lib.hid (set_back _ _ _ _ HX1.out)
  have HCL : Hid ((cur.set k { x with xs := x.xs.set j (turn xb r) }).length = n) := Lib.hid (by rw [List.length_set, cur_len HCU.out, HN.out])
  obtain ⟨ys2, hys2⟩ : ∃ ys2, x.xs.set j (turn xb r) = ys2 := ⟨_, rfl⟩
  rw [hys2] at st HCK HX2 HXB2 HBK HCB HCL
  obtain ⟨cur2, hcur2⟩ : ∃ cur2, cur.set k { x with xs := ys2 } = cur2 := ⟨_, rfl⟩
  rw [hcur2] at st HCK HX2 HCB HCL
  have HJ := Lib.hid hj
  have HR := Lib.hid hr
  clear hset hxe hys2 hcur2 hj hr hjl
  (try simp only [Value.cells, List.cons_append, List.nil_append, List.set, spl, putIt, pick, List.map_cons, List.map_nil, List.getElem?_cons_zero, List.getElem?_cons_succ, Option.getD_some, List.drop_succ_cons, List.drop_zero, List.drop_nil, List.append_nil, unB] at st)
  (try clear hc); have hc := st.facts; (try simp only [factsOf, blkI, blkFacts, rowI, byI, datI, nullI, oldI, penI, rdI, rdAnyI, rdOverI, Nat.zero_add, Nat.reduceAdd, and_true, true_and, and_self] at hc)
  go_wp2_with fail
  obtain ⟨f0, f1, f2, f3, f4⟩ := logF st
  refine (logCheck_any p n lc hk' la ha' es cur2 _ f0 f1 f2 f3 f4 HES.out (by omega)).mono ?_
  rintro en w ⟨rfl, hx⟩
  clear f0 f1 f2 f3 f4
  replace st := st.ext hx
  clear hx
  rw [HCK.out]
  (try simp only [Value.cells, List.cons_append, List.nil_append, List.set, spl, putIt, pick, List.map_cons, List.map_nil, List.getElem?_cons_zero, List.getElem?_cons_succ, Option.getD_some, List.drop_succ_cons, List.drop_zero, List.drop_nil, List.append_nil, unB] at st)
  (try clear hc); have hc := st.facts; (try simp only [factsOf, blkI, blkFacts, rowI, byI, datI, nullI, oldI, penI, rdI, rdAnyI, rdOverI, Nat.zero_add, Nat.reduceAdd, and_true, true_and, and_self] at hc)
  go_wp2_with fail
  obtain ⟨fr', al', st', back⟩ := st.sub [0, 1, 2, 3] (by decide) (by simp)
  (try simp only [Value.cells, List.cons_append, List.nil_append, List.set, spl, putIt, pick, List.map_cons, List.map_nil, List.getElem?_cons_zero, List.getElem?_cons_succ, Option.getD_some, List.drop_succ_cons, List.drop_zero, List.drop_nil, List.append_nil, unB] at st')
  refine (logSpoil_c (k := k) (b := b) (x := { x with xs := ys2 }) (xb := turn xb r) st' HCL.out (by omega) HX2.out hb hxn (by rw [HJ.out]; exact HXB2.out)).mono ?_
  clear st'
  rintro en w ⟨rfl, st'⟩
  replace st := back _ _ (by simp) st'
  clear back st'
  (try simp only [Value.cells, List.cons_append, List.nil_append, List.set, spl, putIt, pick, List.map_cons, List.map_nil, List.getElem?_cons_zero, List.getElem?_cons_succ, Option.getD_some, List.drop_succ_cons, List.drop_zero, List.drop_nil, List.append_nil, unB] at st)
  (try clear hc); have hc := st.facts; (try simp only [factsOf, blkI, blkFacts, rowI, byI, datI, nullI, oldI, penI, rdI, rdAnyI, rdOverI, Nat.zero_add, Nat.reduceAdd, and_true, true_and, and_self] at hc)
  rw [HJ.out, HR.out] at st
  simp only [HBK.out] at st
  rw [show (⟨x.o, x.a, x.n, x.c, x.xs⟩ : LegT) = x from rfl, HCB.out] at st
  (try simp only [Value.cells, List.cons_append, List.nil_append, List.set, spl, putIt, pick, List.map_cons, List.map_nil, List.getElem?_cons_zero, List.getElem?_cons_succ, Option.getD_some, List.drop_succ_cons, List.drop_zero, List.drop_nil, List.append_nil, unB] at st)
  (try clear hc); have hc := st.facts; (try simp only [factsOf, blkI, blkFacts, rowI, byI, datI, nullI, oldI, penI, rdI, rdAnyI, rdOverI, Nat.zero_add, Nat.reduceAdd, and_true, true_and, and_self] at hc)
  go_wp2_with fail
  obtain ⟨f0, f1, f2, f3, f4⟩ := logF st
  refine (logCheck_any p n lc hk' la ha' es cur _ f0 f1 f2 f3 f4 HES.out (by omega)).mono ?_
  rintro en w ⟨rfl, hx⟩
  clear f0 f1 f2 f3 f4
  replace st := st.ext hx
  clear hx
  rw [HCU2.out, chkN_self, HES.out]
  (try simp only [Value.cells, List.cons_append, List.nil_append, List.set, spl, putIt, pick, List.map_cons, List.map_nil, List.getElem?_cons_zero, List.getElem?_cons_succ, Option.getD_some, List.drop_succ_cons, List.drop_zero, List.drop_nil, List.append_nil, unB] at st)
  (try clear hc); have hc := st.facts; (try simp only [factsOf, blkI, blkFacts, rowI, byI, datI, nullI, oldI, penI, rdI, rdAnyI, rdOverI, Nat.zero_add, Nat.reduceAdd, and_true, true_and, and_self] at hc)
  go_wp2_with fail
  go_ret
  exact ⟨by simp, st.ext0⟩
end Go.Proofs.Ytcminppmmhinjaa
