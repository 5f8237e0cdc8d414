/- Nets: Flying, Double. -/
import Derived.Test.YtcminppmmhinjaaNetC
namespace Go.Proofs.Ytcminppmmhinjaa
set_option linter.unusedSimpArgs false
set_option linter.unusedVariables false
open Go Go.RowKit Go.Conc
/-- Bytes that slices of one's own lead to: shared. -/
def frD (xs : List FrT) : Dat where
  Q s w := ∀ x ∈ xs, frOk s w x
  st := fun h hag x hx => (h x hx).agree hag
section
variable {fr al : Nat → Prop} {w0 w : World} {L : List It}
theorem Own.frNil (st : Own fr al w0 L w) : Own fr al w0 (L ++ [datI (frD [])]) w := st.bare (fun x hx => by simp at hx)
theorem Own.frPush (st : Own fr al w0 L w) {i j : Nat} {xs : List FrT} {x : FrT} (hi : L[i]? = some (datI (frD xs))) (hj : L[j]? = some (byI x.a x.n x.xs)) (hij : i ≠ j) (hc : x.n ≤ x.c ∧ x.c ≤ maxLen) : Own fr al w0 ((L.set i (datI (frD (xs ++ [x])))).set j nullI) w :=
  st.conv2 hi hj hij fun e s e' s' h1 ⟨h2, h3⟩ _ _ => ⟨fun _ => False, fun b => s b ∨ s' b, fun y hy => by
    rcases List.mem_append.1 hy with hy | hy
    · exact (h1 y hy).mono fun _ q => .inl q
    · rw [List.mem_singleton.1 hy]
      exact ⟨hc, h2, fun h0 ad had => .inr (h3 h0 ad had)⟩, fun _ q => q.elim, fun b hb => by rcases hb with q | q; exact .inr (.inl q); exact .inr (.inr (.inr q)), fun _ q => q.elim⟩
theorem Own.frAt (st : Own fr al w0 L w) {i : Nat} {xs : List FrT} (hi : L[i]? = some (datI (frD xs))) : ∀ x ∈ xs, (x.n ≤ x.c ∧ x.c ≤ maxLen) ∧ By w x.a x.n x.xs := fun x hx => let ⟨_, _, h, _⟩ := st.get hi; ⟨(h x hx).1, (h x hx).2.1⟩
end
theorem flip_step (bss : List (List UInt8)) (j : Nat) (h : j < bss.length) : bss.drop j ++ bss.take j = bss[j] :: (bss.drop (j + 1) ++ bss.take j) ∧ (bss.drop (j + 1) ++ bss.take j) ++ [bss[j]] = bss.drop (j + 1) ++ bss.take (j + 1) := by
  constructor
  · rw [← List.cons_append, List.getElem_cons_drop]
  · rw [List.append_assoc, List.take_append_getElem]
section
variable {fr al : Nat → Prop} {w0 w : World}
set_option maxRecDepth 100000 in
set_option maxHeartbeats 4000000 in
theorem netFlying_c {p c : Nat} {v0 v1 : Value} {bss : List (List UInt8)} (to : Int) (hv : wayV v0 v1 to = .chan (some c)) (st : Own fr al w0 [blkI p [v0, v1], chI c bss] w) (hl : bss.length ≤ 64) (hx : ∀ x ∈ bss, x.length ≤ 1000000) :
    Calls Try.prog 22 #[.pointer (some ⟨p, 0, none⟩), .int .i64 to] w fun e w' => ∃ oa oc xs, e = .returned (.slice oa bss.length oc) ∧ xs.map FrT.xs = bss ∧
      Own fr al w0 [blkI p [v0, v1], chI c bss, rowI 30 1 (.slice oa bss.length oc) bss.length (cellsL xs), datI (frD xs)] w' := by
  have HX := Lib.hid hx
  have HFS := Lib.hid (flip_step bss)
  obtain ⟨n, hn⟩ : ∃ n, bss.length = n := ⟨_, rfl⟩
  have HN := Lib.hid hn
  have HV := Lib.hid hv
  rw [hn] at hl ⊢
  clear hx hv hn
  go_enter Try.func22, Try.ntmps22
  go_wp2_with fail
  refine (netLen_c to HV.out st).mono ?_
  rintro en w' ⟨rfl, rfl⟩
  rw [HN.out]
  go_wp2_with fail
  replace st := (st.row_nil 30 1).frNil
  simp only [List.cons_append, List.nil_append] at st
  go_loopg [5, 11] n (fun k o i wr => ∃ (j : Nat) (oa : Option Addr) (oc : Nat) (xs : List FrT), j ≤ n ∧ k = n - j ∧ i = .int .i64 (j : Int) ∧ o = .slice oa j oc ∧ Hid (xs.map FrT.xs = bss.take j) ∧
    Own fr al w0 [blkI p [v0, v1], chI c (bss.drop j ++ bss.take j), rowI 30 1 (.slice oa j oc) j (cellsL xs), datI (frD xs)] wr)
  case atStart => exact ⟨0, none, 0, [], by omega, by omega, rfl, rfl, Lib.hid rfl, by simpa [cellsL] using st⟩
  case round =>
    obtain ⟨j, oa, oc, xs, hj, rfl, rfl, rfl, HQ, st'⟩ := hrel
    clear st
    have st := st'
    clear st'
    by_cases hjn : j < n
    · have hjl : j < bss.length := by rw [HN.out]; exact hjn
      obtain ⟨e1, e2⟩ := HFS.out j hjl
      have hxl := HX.out _ (List.getElem_mem hjl)
      have HTK : Hid (bss.take (j + 1) = bss.take j ++ [bss[j]]) := Lib.hid (by rw [List.take_append_getElem])
      have hll : (bss.drop (j + 1) ++ bss.take j).length < 64 := by have := HN.out; simp only [List.length_append, List.length_drop, List.length_take]; omega
      rw [e1] at st
      generalize bss[j] = x at *
      obtain ⟨l, hl'⟩ : ∃ l, bss.drop (j + 1) ++ bss.take j = l := ⟨_, rfl⟩
      rw [hl'] at st e2 hll
      have HE2 := Lib.hid e2
      clear e1 e2 hl'
      (try simp only [Value.cells, List.cons_append, List.nil_append, List.set, spl, putIt, pick, List.map_cons, List.map_nil, List.getElem?_cons_zero, List.getElem?_cons_succ, Option.getD_some, List.drop_succ_cons, List.drop_zero, List.drop_nil, List.append_nil, unB] at st)
      (try clear hc); have hc := st.facts; (try simp only [factsOf, blkI, blkFacts, rowI, byI, datI, nullI, oldI, penI, rdI, rdAnyI, rdOverI, Nat.zero_add, Nat.reduceAdd, and_true, true_and, and_self] at hc)
      go_wp2_with fail
      refine (netNext_some to HV.out st).mono ?_
      rintro en w ⟨a, m, cc, rfl, hc2, st2⟩
      clear st
      have st := st2
      clear st2
      simp only [List.cons_append, List.nil_append] at st
      have hml : m ≤ 1000000 := by rw [(st.by (i := 4) get4).1]; exact hxl
      (try simp only [Value.cells, List.cons_append, List.nil_append, List.set, spl, putIt, pick, List.map_cons, List.map_nil, List.getElem?_cons_zero, List.getElem?_cons_succ, Option.getD_some, List.drop_succ_cons, List.drop_zero, List.drop_nil, List.append_nil, unB] at st)
      (try clear hc); have hc := st.facts; (try simp only [factsOf, blkI, blkFacts, rowI, byI, datI, nullI, oldI, penI, rdI, rdAnyI, rdOverI, Nat.zero_add, Nat.reduceAdd, and_true, true_and, and_self] at hc)
      go_wp2_with fail
      refine (clone_any a m cc x _ (st.by (i := 4) get4) hc2 (by omega)).mono ?_
      rintro en w ⟨v, rfl, hrow, hx⟩
      have hrow' := hrow
      obtain ⟨a2, m2, c2, rfl, h1, h2, h3⟩ := own_by hrow'
      obtain rfl : m2 = m := by rw [h3.1]; exact (st.by (i := 4) get4).1.symm
      replace st := st.newRow hx hrow
      clear hrow' h3 hrow hx
      simp only [List.cons_append, List.nil_append] at st
      replace st := st.freezeRow (i := 5) get5
      (try simp only [Value.cells, List.cons_append, List.nil_append, List.set, spl, putIt, pick, List.map_cons, List.map_nil, List.getElem?_cons_zero, List.getElem?_cons_succ, Option.getD_some, List.drop_succ_cons, List.drop_zero, List.drop_nil, List.append_nil, unB] at st)
      (try clear hc); have hc := st.facts; (try simp only [factsOf, blkI, blkFacts, rowI, byI, datI, nullI, oldI, penI, rdI, rdAnyI, rdOverI, Nat.zero_add, Nat.reduceAdd, and_true, true_and, and_self] at hc)
      go_wp2_with (first
          | ((with_reducible refine wl_append ?_ (fun K hK => ?_)); (rfl); (obtain ⟨inf, hinf, hz0, hz1, hz2⟩ := sliceInfo); (refine owp_append rfl st 2 get2 Try.underlying38 hinf hz0 hz1 hz2 rfl (by decide) rfl rfl ((st.blk (i := 6) get6).flat rfl) (by first | exact cellsL_all _ | simp [Value.oneCell']) (by simp only [maxLen]; omega) (by omega) ?_); (clear hinf hz0 hz1 hz2 inf); (clear st; intro v' w st); (obtain ⟨va', vc', rfl⟩ := own_slice (st.row (i := 2) get2)); (try simp only [Value.cells, List.cons_append, List.nil_append, List.set, spl, putIt, pick, List.map_cons, List.map_nil, List.getElem?_cons_zero, List.getElem?_cons_succ, Option.getD_some, List.drop_succ_cons, List.drop_zero, List.drop_nil, List.append_nil, unB] at st); (try simp only [Nat.zero_add] at st); (try clear hc); have hc := st.facts; (try simp only [factsOf, blkI, blkFacts, rowI, byI, datI, nullI, oldI, penI, rdI, rdAnyI, rdOverI, Nat.zero_add, Nat.reduceAdd, and_true, true_and, and_self] at hc))
          | ((((with_reducible refine wl_buildSlice ?_ (fun K hK => ?_)); rfl; refine owp_buildSlice (o := ⟨some 22, _, _, _, _, _⟩) rfl st ?_; apply Exists.intro; apply Exists.intro; apply Exists.intro; apply Exists.intro; refine ⟨?_, ?_⟩; (focus (go_simp; (first | done | exact ⟨⟨rfl, rfl⟩, rfl⟩ | rfl))); (clear st; intro b22 w hb st; clear hb))); (try simp only [Value.cells, List.cons_append, List.nil_append, List.set, spl, putIt, pick, List.map_cons, List.map_nil, List.getElem?_cons_zero, List.getElem?_cons_succ, Option.getD_some, List.drop_succ_cons, List.drop_zero, List.drop_nil, List.append_nil, unB] at st); (try clear hc); have hc := st.facts; (try simp only [factsOf, blkI, blkFacts, rowI, byI, datI, nullI, oldI, penI, rdI, rdAnyI, rdOverI, Nat.zero_add, Nat.reduceAdd, and_true, true_and, and_self] at hc)))
      replace st := st.frPush (i := 3) (j := 5) (x := ⟨a2, m2, c2, x⟩) get3 get5 (by decide) ⟨h1, h2⟩
      (try simp only [Value.cells, List.cons_append, List.nil_append, List.set, spl, putIt, pick, List.map_cons, List.map_nil, List.getElem?_cons_zero, List.getElem?_cons_succ, Option.getD_some, List.drop_succ_cons, List.drop_zero, List.drop_nil, List.append_nil, unB] at st)
      (try clear hc); have hc := st.facts; (try simp only [factsOf, blkI, blkFacts, rowI, byI, datI, nullI, oldI, penI, rdI, rdAnyI, rdOverI, Nat.zero_add, Nat.reduceAdd, and_true, true_and, and_self] at hc)
      refine (netSend_room to HV.out st hll a m2 cc x (st.by (i := 4) get4) hc2 (by omega)).mono ?_
      rintro en w ⟨rfl, st2⟩
      clear st
      have st := st2.keep [0, 1, 2, 3] (by decide) (by simp)
      clear st2
      simp only [pick, List.map_cons, List.map_nil, List.getElem?_cons_zero, List.getElem?_cons_succ, Option.getD_some] at st
      rw [HE2.out] at st
      go_wp2_with fail
      go_roundg (n - (j + 1))
      case measure => omega
      case rel =>
        refine ⟨j + 1, va', vc', xs ++ [⟨a2, m2, c2, x⟩], by omega, by omega, by go_num, rfl, Lib.hid (by rw [List.map_append, HQ.out, HTK.out]; rfl), ?_⟩
        have e : cellsL (xs ++ [(⟨a2, m2, c2, x⟩ : FrT)]) = cellsL xs ++ [.slice a2 m2 c2] := by rw [cellsL_append]; rfl
        rw [e]
        exact st
    · obtain rfl : j = n := by omega
      have e : bss.drop j ++ bss.take j = bss := by rw [← HN.out]; simp
      have hm : xs.map FrT.xs = bss := by rw [HQ.out, ← HN.out]; simp
      rw [e] at st
      go_wp2_with fail
      go_ret
      exact ⟨oa, oc, xs, rfl, hm, st⟩
/-- What flies behind Double. -/
def dblL (bss : List (List UInt8)) : List (List UInt8) := match bss with
  | [] => []
  | x :: l => if (x :: l).length < 64 then x :: l ++ [x] else x :: l
def dblB (bss : List (List UInt8)) : Bool := !bss.isEmpty && decide (bss.length < 64)
theorem Own.frRow0 {L : List It} (st : Own fr al w0 L w) {i n m c : Nat} {a : Option Addr} {E : TypeId} {x : FrT} {xs : List FrT} (hi : L[i]? = some (rowI E 1 (.slice a n c) n (cellsL (x :: xs)))) (h0 : 0 < n) : ∃ g, a = some ⟨g, 0, none⟩ ∧ w.cell? ⟨g, 0, none⟩ = some (.slice x.a x.n x.c) := by
  obtain ⟨g, cap, hv, _, hcell⟩ := st.rowAt hi h0
  injection hv with q1 q2 q3
  subst q1
  exact ⟨g, rfl, hcell 0 _ rfl⟩
set_option maxRecDepth 100000 in
set_option maxHeartbeats 2000000 in
theorem netDouble_c {p c : Nat} {v0 v1 : Value} {bss : List (List UInt8)} (to : Int) (hv : wayV v0 v1 to = .chan (some c)) (st : Own fr al w0 [blkI p [v0, v1], chI c bss] w) (hl : bss.length ≤ 64) (hx : ∀ x ∈ bss, x.length ≤ 1000000) :
    Calls Try.prog 19 #[.pointer (some ⟨p, 0, none⟩), .int .i64 to] w fun e w' => e = .returned (.bool (dblB bss)) ∧ Own fr al w0 [blkI p [v0, v1], chI c (dblL bss)] w' := by
  have HF := Lib.hid (netFlying_c to hv st hl hx)
  cases bss with
  | nil =>
    clear st
    go_enter Try.func19, Try.ntmps19
    go_wp2_with fail
    refine HF.out.mono ?_
    rintro en w' ⟨oa, oc, xs, rfl, hm, st⟩
    simp only [List.length_nil]
    go_wp2_with fail
    go_ret
    exact ⟨rfl, st.keep [0, 1] (by decide) (by simp)⟩
  | cons x l =>
    have hxl : x.length ≤ 1000000 := hx x (by simp)
    obtain ⟨n, hn⟩ : ∃ n, (x :: l).length = n := ⟨_, rfl⟩
    have hn0 : 0 < n := by rw [← hn]; simp
    have HB : Hid (dblB (x :: l) = decide (n < 64)) := Lib.hid (by unfold dblB; rw [hn]; rfl)
    have HD : Hid (dblL (x :: l) = if n < 64 then (x :: l) ++ [x] else x :: l) := Lib.hid (by rw [← hn]; rfl)
    rw [hn] at HF hl
    have HN := Lib.hid hn
    clear st hx hn
    have HV := Lib.hid hv
    clear hv
    go_enter Try.func19, Try.ntmps19
    go_wp2_with fail
    refine HF.out.mono ?_
    rintro en w' ⟨oa, oc, xs, rfl, hm, st⟩
    clear HF
    obtain ⟨y, ys, rfl⟩ : ∃ y ys, xs = y :: ys := by
      cases xs with
      | nil => simp at hm
      | cons y ys => exact ⟨y, ys, rfl⟩
    have hy : y.xs = x := by simp at hm; exact hm.1
    clear hm
    obtain ⟨g, rfl, r0⟩ := st.frRow0 (m := 0) (c := oc) (i := 2) get2 hn0
    obtain ⟨hyc, hyb⟩ := st.frAt (i := 3) get3 y (by simp)
    rw [hy] at hyb
    have hyn : y.n ≤ 1000000 := by rw [hyb.1]; exact hxl
    by_cases hr : n < 64
    · go_wp2_with fail
      refine (netSend_room to HV.out st (by rw [HN.out]; exact hr) y.a y.n y.c x hyb hyc (by omega)).mono ?_
      rintro en w' ⟨rfl, st2⟩
      go_wp2_with fail
      go_ret
      exact ⟨by rw [HB.out, decide_eq_true hr]; rfl, by rw [HD.out, if_pos hr]; exact st2.keep [0, 1] (by decide) (by simp)⟩
    · go_wp2_with fail
      refine (netSend_full to HV.out st (by rw [HN.out]; omega) y.a y.n y.c x hyb hyc (by omega)).mono ?_
      rintro en w' ⟨rfl, st2⟩
      go_wp2_with fail
      go_ret
      exact ⟨by rw [HB.out, decide_eq_false hr]; rfl, by rw [HD.out, if_neg hr]; exact st2.keep [0, 1] (by decide) (by simp)⟩
end
set_option maxRecDepth 100000 in
set_option maxHeartbeats 1000000 in
theorem netFlying_no (q : Value) (to : Int) (W : World) (hw : Calls Try.prog 89 #[q, .int .i64 to] W fun e w' => e = .returned (.chan none) ∧ W = w') : Calls Try.prog 22 #[q, .int .i64 to] W fun e w' => e = .returned (.slice none 0 0) ∧ W = w' := by
  go_enter Try.func22, Try.ntmps22
  go_wp2_with fail
  refine (netLen_no q to _ hw).mono ?_
  rintro en w' ⟨rfl, rfl⟩
  go_wp2_with fail
  go_loopg [5, 11] 0 (fun k o i wr => i = .int .i64 0 ∧ o = .slice none 0 0 ∧ wr = W)
  case atStart => exact ⟨rfl, rfl, rfl⟩
  case round =>
    obtain ⟨rfl, rfl, rfl⟩ := hrel
    go_wp2_with fail
    go_ret
    exact ⟨rfl, rfl⟩
set_option maxRecDepth 100000 in
set_option maxHeartbeats 1000000 in
theorem netDouble_no (q : Value) (to : Int) (W : World) (hw : Calls Try.prog 89 #[q, .int .i64 to] W fun e w' => e = .returned (.chan none) ∧ W = w') : Calls Try.prog 19 #[q, .int .i64 to] W fun e w' => e = .returned (.bool false) ∧ W = w' := by
  go_enter Try.func19, Try.ntmps19
  go_wp2_with fail
  refine (netFlying_no q to _ hw).mono ?_
  rintro en w' ⟨rfl, rfl⟩
  go_wp2_with fail
  go_ret
  exact ⟨rfl, rfl⟩
end Go.Proofs.Ytcminppmmhinjaa
