/- slices.IndexFunc and slices.DeleteFunc at []Cred. -/
import Derived.Test.YtdkemfimhdjdiaaSlRoleC
import Derived.Test.YtdkemfimhdjdiaaCredF
namespace Go.Proofs.Ytdkemfimhdjdiaa
set_option linter.unusedSimpArgs false
set_option linter.unusedVariables false
open Go Go.RowKit
def zC : CredT := ⟨0, ([], []), [], ([], []), ([], []), []⟩
theorem cred_cells (x : CredT) : Flt.cells x = [.int .i64 x.k, .string ⟨x.h.1.toArray⟩, .string ⟨x.h.2.toArray⟩, .string ⟨x.w.toArray⟩, .string ⟨x.b.1.toArray⟩, .string ⟨x.b.2.toArray⟩, .string ⟨x.c.1.toArray⟩, .string ⟨x.c.2.toArray⟩, .string ⟨x.e.toArray⟩] := rfl
theorem credInfo : ∃ i, Try.prog.info? 98 = some i ∧ i.zero = some (cV zC) ∧ i.size = 9 ∧ i.bytes = 136 := info_parts (by kernel_rfl)
theorem credLen {w : World} {n : Nat} {v : Value} {E : TypeId} {xs : List CredT} (h : w.ownsRow 0 E 9 v n (cellsL xs)) : n = xs.length := by
  have := h.1
  rw [cellsL_len, fltCred_k] at this
  omega
theorem cred_get {xs : List CredT} {j : Nat} {x : CredT} (h : xs[j]? = some x) : (cellsL xs)[j * 9]? = some (.int .i64 x.k) ∧ (cellsL xs)[j * 9 + 1]? = some (S x.h.1) ∧ (cellsL xs)[j * 9 + 2]? = some (S x.h.2) ∧ (cellsL xs)[j * 9 + 3]? = some (S x.w) ∧ (cellsL xs)[j * 9 + 4]? = some (S x.b.1) ∧ (cellsL xs)[j * 9 + 5]? = some (S x.b.2) ∧ (cellsL xs)[j * 9 + 6]? = some (S x.c.1) ∧ (cellsL xs)[j * 9 + 7]? = some (S x.c.2) ∧ (cellsL xs)[j * 9 + 8]? = some (S x.e) :=
  ⟨cellsL_get (i := j) (j := 0) h (by decide), cellsL_get (i := j) (j := 1) h (by decide), cellsL_get (i := j) (j := 2) h (by decide), cellsL_get (i := j) (j := 3) h (by decide), cellsL_get (i := j) (j := 4) h (by decide), cellsL_get (i := j) (j := 5) h (by decide), cellsL_get (i := j) (j := 6) h (by decide), cellsL_get (i := j) (j := 7) h (by decide), cellsL_get (i := j) (j := 8) h (by decide)⟩
set_option maxRecDepth 100000 in
set_option maxHeartbeats 1000000 in
theorem indexFuncCred_c {fr al : Nat → Prop} {w0 w : World} {n c : Nat} {a : Option Addr} {xs : List CredT} (st : Own fr al w0 [rowI 98 9 (.slice a n c) n (cellsL xs)] w) (hn : n ≤ 2000000) (F : FuncId) (cap : Array Value) (p : CredT → Bool)
    (hi : ∀ w x, (callFunc F (#[x] ++ cap)).run Try.prog w = .ok (.enter F (#[x] ++ cap)) w)
    (hp : ∀ x ∈ xs, ∀ w, Calls Try.prog F (#[cV x] ++ cap) w fun e w' => e = .returned (.bool (p x)) ∧ Ext w w') :
    Calls Try.prog 120 #[.slice a n c, .func (.func F) #[] cap] w fun e w' => ∃ v, e = .returned (.int .i64 v) ∧ IxIs p xs v ∧ Own fr al w0 [rowI 98 9 (.slice a n c) n (cellsL xs)] w' := by
  have HP := Lib.hid hp
  have HN : Hid (n = xs.length) := Lib.hid (credLen (st.row (i := 0) get0))
  clear hp
  (try simp only [Value.cells, List.cons_append, List.nil_append, List.set, spl, putIt, pick, List.map_cons, List.map_nil, List.getElem?_cons_zero, List.getElem?_cons_succ, Option.getD_some, List.drop_succ_cons, List.drop_zero, List.drop_nil, List.append_nil, unB] at st)
  (try clear hc); have hc := st.facts; (try simp only [factsOf, blkI, blkFacts, rowI, byI, datI, nullI, oldI, penI, rdI, rdAnyI, rdOverI, Nat.zero_add, Nat.reduceAdd, and_true, true_and, and_self] at hc)
  go_enter Try.func120, Try.ntmps120
  go_wp2_with fail
  go_loopg [8] n (fun k i wr => ∃ (j : Nat), j ≤ n ∧ k = n - j ∧ i = .int .i64 (j : Int) ∧ Hid (∀ x ∈ xs.take j, p x = false) ∧ Own fr al w0 [rowI 98 9 (.slice a n c) n (cellsL xs)] wr)
  case atStart => exact ⟨0, by omega, by omega, rfl, Lib.hid (by simp), st⟩
  case round =>
    obtain ⟨j, hj, rfl, rfl, HT, st'⟩ := hrel
    clear st hc
    have st := st'
    clear st'
    (try simp only [Value.cells, List.cons_append, List.nil_append, List.set, spl, putIt, pick, List.map_cons, List.map_nil, List.getElem?_cons_zero, List.getElem?_cons_succ, Option.getD_some, List.drop_succ_cons, List.drop_zero, List.drop_nil, List.append_nil, unB] at st)
    (try clear hc); have hc := st.facts; (try simp only [factsOf, blkI, blkFacts, rowI, byI, datI, nullI, oldI, penI, rdI, rdAnyI, rdOverI, Nat.zero_add, Nat.reduceAdd, and_true, true_and, and_self] at hc)
    by_cases hjn : j < n
    · obtain ⟨g, cap', hv, hcap, hrow⟩ := st.rowAt (i := 0) get0 (by omega)
      injection hv with hv1 hv2 hv3
      subst hv1 hv3
      have hjl : j < xs.length := by have := HN.out; omega
      have r0 := hrow (j * 9) (.int .i64 xs[j].k) (cred_get (List.getElem?_eq_getElem hjl)).1
      have r1 := hrow (j * 9 + 1) (S xs[j].h.1) (cred_get (List.getElem?_eq_getElem hjl)).2.1
      have r2 := hrow (j * 9 + 2) (S xs[j].h.2) (cred_get (List.getElem?_eq_getElem hjl)).2.2.1
      have r3 := hrow (j * 9 + 3) (S xs[j].w) (cred_get (List.getElem?_eq_getElem hjl)).2.2.2.1
      have r4 := hrow (j * 9 + 4) (S xs[j].b.1) (cred_get (List.getElem?_eq_getElem hjl)).2.2.2.2.1
      have r5 := hrow (j * 9 + 5) (S xs[j].b.2) (cred_get (List.getElem?_eq_getElem hjl)).2.2.2.2.2.1
      have r6 := hrow (j * 9 + 6) (S xs[j].c.1) (cred_get (List.getElem?_eq_getElem hjl)).2.2.2.2.2.2.1
      have r7 := hrow (j * 9 + 7) (S xs[j].c.2) (cred_get (List.getElem?_eq_getElem hjl)).2.2.2.2.2.2.2.1
      have r8 := hrow (j * 9 + 8) (S xs[j].e) (cred_get (List.getElem?_eq_getElem hjl)).2.2.2.2.2.2.2.2
      have hts : xs.take (j + 1) = xs.take j ++ [xs[j]] := (List.take_append_getElem hjl).symm
      have hx := HP.out xs[j] (List.getElem_mem hjl)
      have hge := List.getElem?_eq_getElem hjl
      clear hrow
      generalize xs[j] = x at *
      obtain ⟨kk, ⟨ho, hd⟩, nw, ⟨bo, bd⟩, ⟨co, cd⟩, we⟩ := x
      have HX := Lib.hid (And.intro hts (And.intro hjl hge))
      clear hts hge hjl
      simp only at r0 r1 r2 r3 r4 r5 r6 r7 r8
      unfold S at r1 r2 r3 r4 r5 r6 r7 r8
      unfold cV S at hx
      have HQ := Lib.hid hx
      clear hx
      go_wp2_with fail
      refine (HQ.out _).mono ?_
      rintro en w ⟨rfl, hx⟩
      replace st := st.ext hx
      clear hx r0 r1 r2 r3 r4 r5 r6 r7 r8
      by_cases hpx : p (⟨kk, (ho, hd), nw, (bo, bd), (co, cd), we⟩ : CredT) = true
      · rw [hpx]
        have HF : Hid (IxIs p xs (j : Int)) := Lib.hid (.inr ⟨j, (⟨kk, (ho, hd), nw, (bo, bd), (co, cd), we⟩ : CredT), rfl, HX.out.2.1, HX.out.2.2, hpx, HT.out⟩)
        clear hpx
        go_wp2_with fail
        go_ret
        exact ⟨_, rfl, HF.out, st⟩
      · have hpx' : p (⟨kk, (ho, hd), nw, (bo, bd), (co, cd), we⟩ : CredT) = false := by simpa using hpx
        rw [hpx']
        have HF : Hid (∀ y ∈ xs.take (j + 1), p y = false) := Lib.hid (fun y hy => by
          rw [HX.out.1] at hy
          rcases List.mem_append.1 hy with q | q
          · exact HT.out y q
          · rw [List.mem_singleton.1 q]; exact hpx')
        clear hpx hpx'
        go_wp2_with fail
        go_roundg (n - (j + 1))
        case measure => omega
        case rel => exact ⟨j + 1, by omega, rfl, by go_num, HF, st⟩
    · obtain rfl : j = n := by omega
      have HF : Hid (IxIs p xs (-1)) := Lib.hid (.inl ⟨rfl, by have := HT.out; rwa [List.take_of_length_le (by have := HN.out; omega)] at this⟩)
      go_wp2_with fail
      go_ret
      exact ⟨_, rfl, HF.out, st⟩
set_option maxRecDepth 100000 in
set_option maxHeartbeats 2000000 in
theorem deleteFuncCred_c {fr al : Nat → Prop} {w0 w : World} {n c : Nat} {a : Option Addr} {xs : List CredT} (st : Own fr al w0 [rowI 98 9 (.slice a n c) n (cellsL xs)] w) (hn : n ≤ 2000000) (F : FuncId) (cap : Array Value) (p : CredT → Bool)
    (hi : ∀ w x, (callFunc F (#[x] ++ cap)).run Try.prog w = .ok (.enter F (#[x] ++ cap)) w)
    (hp : ∀ x ∈ xs, ∀ w, Calls Try.prog F (#[cV x] ++ cap) w fun e w' => e = .returned (.bool (p x)) ∧ Ext w w') :
    Calls Try.prog 107 #[.slice a n c, .func (.func F) #[] cap] w fun e w' => ∃ m, e = .returned (.slice a m c) ∧ Own fr al w0 [rowI 98 9 (.slice a m c) m (cellsL (xs.filter fun x => !p x))] w' := by
  have HP := Lib.hid hp
  have HN : Hid (n = xs.length) := Lib.hid (credLen (st.row (i := 0) get0))
  clear hp
  (try simp only [Value.cells, List.cons_append, List.nil_append, List.set, spl, putIt, pick, List.map_cons, List.map_nil, List.getElem?_cons_zero, List.getElem?_cons_succ, Option.getD_some, List.drop_succ_cons, List.drop_zero, List.drop_nil, List.append_nil, unB] at st)
  (try clear hc); have hc := st.facts; (try simp only [factsOf, blkI, blkFacts, rowI, byI, datI, nullI, oldI, penI, rdI, rdAnyI, rdOverI, Nat.zero_add, Nat.reduceAdd, and_true, true_and, and_self] at hc)
  go_enter Try.func107, Try.ntmps107
  go_wp2_with fail
  refine (indexFuncCred_c st hn F cap p hi HP.out).mono ?_
  clear st
  rintro en w ⟨v, rfl, hix, st⟩
  rcases hix with ⟨rfl, hall⟩ | ⟨i0, y, rfl, hil, hiy, hpy, hpre⟩
  · have HF : Hid (xs.filter (fun x => !p x) = xs) := Lib.hid (List.filter_eq_self.2 fun x hx => by simp [hall x hx])
    clear hall
    go_wp2_with fail
    go_ret
    exact ⟨n, rfl, by rw [HF.out]; exact st⟩
  · obtain ⟨g, cap', hv, hcap, hrow⟩ := st.rowAt (i := 0) get0 (by have := HN.out; omega)
    injection hv with hv1 hv2 hv3
    subst hv1 hv3
    clear hrow
    have hi0 : i0 < n := by have := HN.out; omega
    have HS : Hid (xs.take i0 = (xs.take (i0 + 1)).filter (fun x => !p x)) := Lib.hid (by
      have e1 : xs[i0] = y := by rw [List.getElem?_eq_getElem hil] at hiy; injection hiy
      rw [← List.take_append_getElem hil, List.filter_append, e1]
      simp only [List.filter_cons, hpy]
      simp
      exact (List.filter_eq_self.2 fun x hx => by simp [hpre x hx]).symm)
    have hcap2 : c ≤ 9223372036854775807 := by have := hcap.2; simpa [maxLen] using this
    have hcap1 := hcap.1
    clear hil hiy hpy hpre hcap
    have hb1 : ((i0 : Int) == -1) = false := by simp
    go_wp2_with fail
    go_loopg [5, 6] (n - (i0 + 1)) (fun k vi vj wr => ∃ (i j : Nat) (zs : List CredT), j ≤ n ∧ k = n - j ∧ i < j ∧ vi = .int .i64 (i : Int) ∧ vj = .int .i64 (j : Int) ∧ Hid (zs.length = n ∧ zs.take i = (xs.take j).filter (fun x => !p x) ∧ zs.drop j = xs.drop j) ∧ Own fr al w0 [rowI 98 9 (.slice (some ⟨g, 0, none⟩) n c) n (cellsL zs)] wr)
    case atStart => exact ⟨i0, i0 + 1, xs, by omega, by omega, by omega, rfl, by go_num, Lib.hid ⟨HN.out.symm, HS.out, rfl⟩, st⟩
    case round =>
      obtain ⟨i, j, zs, hj, rfl, hij, rfl, rfl, HZ, st'⟩ := hrel
      clear st
      have st := st'
      clear st'
      (try simp only [Value.cells, List.cons_append, List.nil_append, List.set, spl, putIt, pick, List.map_cons, List.map_nil, List.getElem?_cons_zero, List.getElem?_cons_succ, Option.getD_some, List.drop_succ_cons, List.drop_zero, List.drop_nil, List.append_nil, unB] at st)
      (try clear hc); have hc := st.facts; (try simp only [factsOf, blkI, blkFacts, rowI, byI, datI, nullI, oldI, penI, rdI, rdAnyI, rdOverI, Nat.zero_add, Nat.reduceAdd, and_true, true_and, and_self] at hc)
      by_cases hjn : j < n
      · obtain ⟨g', cap', hv, hcap, hrow⟩ := st.rowAt (i := 0) get0 (by omega)
        injection hv with hv1 hv2 hv3
        injection hv1 with hv1
        injection hv1 with hv1 _ _
        subst hv1 hv3
        have hjz : j < zs.length := by have := HZ.out.1; omega
        have hjx : j < xs.length := by have := HN.out; omega
        have hzx : zs[j] = xs[j] := by
          have e1 := congrArg (fun l => l[0]?) HZ.out.2.2
          simp only [List.getElem?_drop, Nat.add_zero, List.getElem?_eq_getElem hjz, List.getElem?_eq_getElem hjx] at e1
          injection e1
        have r0 := hrow (j * 9) (.int .i64 xs[j].k) (by rw [← hzx]; exact (cred_get (List.getElem?_eq_getElem hjz)).1)
        have r1 := hrow (j * 9 + 1) (S xs[j].h.1) (by rw [← hzx]; exact (cred_get (List.getElem?_eq_getElem hjz)).2.1)
        have r2 := hrow (j * 9 + 2) (S xs[j].h.2) (by rw [← hzx]; exact (cred_get (List.getElem?_eq_getElem hjz)).2.2.1)
        have r3 := hrow (j * 9 + 3) (S xs[j].w) (by rw [← hzx]; exact (cred_get (List.getElem?_eq_getElem hjz)).2.2.2.1)
        have r4 := hrow (j * 9 + 4) (S xs[j].b.1) (by rw [← hzx]; exact (cred_get (List.getElem?_eq_getElem hjz)).2.2.2.2.1)
        have r5 := hrow (j * 9 + 5) (S xs[j].b.2) (by rw [← hzx]; exact (cred_get (List.getElem?_eq_getElem hjz)).2.2.2.2.2.1)
        have r6 := hrow (j * 9 + 6) (S xs[j].c.1) (by rw [← hzx]; exact (cred_get (List.getElem?_eq_getElem hjz)).2.2.2.2.2.2.1)
        have r7 := hrow (j * 9 + 7) (S xs[j].c.2) (by rw [← hzx]; exact (cred_get (List.getElem?_eq_getElem hjz)).2.2.2.2.2.2.2.1)
        have r8 := hrow (j * 9 + 8) (S xs[j].e) (by rw [← hzx]; exact (cred_get (List.getElem?_eq_getElem hjz)).2.2.2.2.2.2.2.2)
        have hts : xs.take (j + 1) = xs.take j ++ [xs[j]] := (List.take_append_getElem hjx).symm
        have hx := HP.out xs[j] (List.getElem_mem hjx)
        clear hrow hzx
        generalize xs[j] = x at *
        obtain ⟨kk, ⟨ho, hd⟩, nw, ⟨bo, bd⟩, ⟨co, cd⟩, we⟩ := x
        have HX := Lib.hid hts
        clear hts hjz hjx
        simp only at r0 r1 r2 r3 r4 r5 r6 r7 r8
        unfold S at r1 r2 r3 r4 r5 r6 r7 r8
        unfold cV S at hx
        have HQ := Lib.hid hx
        clear hx
        go_wp2_with ((first
              | ((with_reducible refine wl_alloc ?_ (fun K hK => ?_)); rfl; refine owp_alloc (o := ⟨some 7, _, _, _, _, _⟩) rfl st ?_; apply Exists.intro; apply Exists.intro; refine ⟨?_, ?_⟩; (focus (first | (go_simp; done) | (go_simp; rfl))); (clear st; intro b7 w hb st; clear hb))
              | ((with_reducible refine wl_store ?_ (fun K hK => ?_)); rfl; refine owp_store rfl st ?_; apply Exists.intro; apply Exists.intro; refine ⟨?_, ?_, ?_⟩; (focus (go_simp; try rfl)); (focus (go_simp; try rfl)); (with_reducible refine ⟨1, _, _, _, _, get1, rfl, rfl, ?_, ?_, ?_, ?_⟩); (kernel_rfl); (simp [Value.cells]); (rfl); (clear st; intro w st))); (try simp only [Value.cells, List.cons_append, List.nil_append, List.set, spl, putIt, pick, List.map_cons, List.map_nil, List.getElem?_cons_zero, List.getElem?_cons_succ, Option.getD_some, List.drop_succ_cons, List.drop_zero, List.drop_nil, List.append_nil, unB] at st); (try clear hc); have hc := st.facts; (try simp only [factsOf, blkI, blkFacts, rowI, byI, datI, nullI, oldI, penI, rdI, rdAnyI, rdOverI, Nat.zero_add, Nat.reduceAdd, and_true, true_and, and_self] at hc))
        clear r0 r1 r2 r3 r4 r5 r6 r7 r8
        refine (HQ.out _).mono ?_
        rintro en w ⟨rfl, hx⟩
        replace st := st.ext hx
        clear hx
        (try clear hc); have hc := st.facts; (try simp only [factsOf, blkI, blkFacts, rowI, byI, datI, nullI, oldI, penI, rdI, rdAnyI, rdOverI, Nat.zero_add, Nat.reduceAdd, and_true, true_and, and_self] at hc)
        by_cases hpx : p (⟨kk, (ho, hd), nw, (bo, bd), (co, cd), we⟩ : CredT) = true
        · rw [hpx]
          have HF : Hid ((xs.take (j + 1)).filter (fun x => !p x) = (xs.take j).filter (fun x => !p x) ∧ zs.drop (j + 1) = xs.drop (j + 1)) := Lib.hid ⟨by rw [HX.out, List.filter_append]; simp [hpx], by
            have := congrArg (List.drop 1) HZ.out.2.2; simpa [List.drop_drop] using this⟩
          clear hpx
          go_wp2_with fail
          have st' := st.keep [0] (by decide) (by simp)
          go_roundg (n - (j + 1))
          case measure => omega
          case rel => exact ⟨i, j + 1, zs, by omega, rfl, by omega, rfl, by go_num, Lib.hid ⟨HZ.out.1, by rw [HF.out.1]; exact HZ.out.2.1, HF.out.2⟩, by simpa [pick] using st'⟩
        · have hpx' : p (⟨kk, (ho, hd), nw, (bo, bd), (co, cd), we⟩ : CredT) = false := by simpa using hpx
          rw [hpx']
          have hiz : i < zs.length := by have := HZ.out.1; omega
          have hset := cellsL_set zs i (⟨kk, (ho, hd), nw, (bo, bd), (co, cd), we⟩ : CredT) hiz
          rw [fltCred_k, cred_cells] at hset
          have HF : Hid ((zs.set i (⟨kk, (ho, hd), nw, (bo, bd), (co, cd), we⟩ : CredT)).length = n ∧ (zs.set i (⟨kk, (ho, hd), nw, (bo, bd), (co, cd), we⟩ : CredT)).take (i + 1) = (xs.take (j + 1)).filter (fun x => !p x) ∧ (zs.set i (⟨kk, (ho, hd), nw, (bo, bd), (co, cd), we⟩ : CredT)).drop (j + 1) = xs.drop (j + 1)) := Lib.hid ⟨by simp [HZ.out.1], by
              rw [HX.out, List.filter_append, ← HZ.out.2.1]
              have : (zs.set i (⟨kk, (ho, hd), nw, (bo, bd), (co, cd), we⟩ : CredT))[i]'(by simpa using hiz) = (⟨kk, (ho, hd), nw, (bo, bd), (co, cd), we⟩ : CredT) := by simp
              rw [← List.take_append_getElem (l := zs.set i (⟨kk, (ho, hd), nw, (bo, bd), (co, cd), we⟩ : CredT)) (by simpa using hiz), this]
              rw [List.take_set, List.set_eq_of_length_le (by rw [List.length_take]; omega)]; simp [hpx'], by
              rw [List.drop_set_of_lt (by omega)]
              have := congrArg (List.drop 1) HZ.out.2.2; simpa [List.drop_drop] using this⟩
          have HSET := Lib.hid hset
          clear hpx hpx' hset hiz
          go_wp2_with ((with_reducible refine wl_store ?_ (fun K hK => ?_)); (rfl); (refine owp_storeRow' rfl st ?_; apply Exists.intro; apply Exists.intro; refine ⟨?_, ?_, ?_⟩; (focus (go_simp; try rfl)); (focus (go_simp; try rfl)); refine ⟨0, _, _, _, _, _, _, _, _, get0, rfl, rfl, ?_, ?_, ?_, ?_⟩; (kernel_rfl); (simp [Value.cells]; omega); (rfl); (clear st; intro w st)))
          simp only [List.set_cons_zero] at st
          have st' := st.keep [0] (by decide) (by simp)
          go_roundg (n - (j + 1))
          case measure => omega
          case rel => exact ⟨i + 1, j + 1, zs.set i (⟨kk, (ho, hd), nw, (bo, bd), (co, cd), we⟩ : CredT), by omega, rfl, by omega, by go_num, by go_num, HF, by rw [← HSET.out]; simpa [pick, Value.cells] using st'⟩
      · obtain rfl : j = n := by omega
        obtain ⟨inf, hinf, hz0, hz1, hz2⟩ := credInfo
        have HF : Hid (zs.take i = xs.filter (fun x => !p x)) := Lib.hid (by rw [HZ.out.2.1, List.take_of_length_le (by have := HN.out; omega)])
        go_wp2_with ((with_reducible refine wl_clear ?_ (fun K hK => ?_)); (rfl); (refine owp_clearRow' rfl st Try.underlying100 ?_; apply Exists.intro; apply Exists.intro; apply Exists.intro; refine ⟨?_, ?_⟩; (focus (go_simp; exact ⟨rfl, rfl, rfl⟩)); refine ⟨0, _, _, _, _, i, _, inf, cV zC, get0, hinf, hz0, by decide, rfl, rfl, by omega, by simp, rfl, ?_⟩; (clear st; intro w ys hy1 hy2 st)))
        simp only [List.set_cons_zero] at st
        have st2 := st.rowCut (i := 0) (k := 9) (n := j) (c := c) (g := g) (E := 98) (xs := ys) get0 i (by omega)
        have hct := cellsL_take zs i
        rw [fltCred_k] at hct
        rw [hy1, hct, HF.out, List.set_cons_zero] at st2
        go_ret
        exact ⟨i, rfl, st2⟩
end Go.Proofs.Ytdkemfimhdjdiaa

namespace Go.Proofs.Ytdkemfimhdjdiaa
set_option linter.unusedSimpArgs false
set_option linter.unusedVariables false
open Go Go.RowKit
set_option maxRecDepth 100000 in
set_option maxHeartbeats 2000000 in
theorem compactCred_c {fr al : Nat → Prop} {w0 w : World} {n c : Nat} {a : Option Addr} {xs : List CredT} (st : Own fr al w0 [rowI 98 9 (.slice a n c) n (cellsL xs)] w) (hn : n ≤ 2000000) :
    Calls Try.prog 111 #[.slice a n c] w fun e w' => ∃ m, e = .returned (.slice a m c) ∧ Own fr al w0 [rowI 98 9 (.slice a m c) m (cellsL (Lib.compact xs))] w' := by
  have HN : Hid (n = xs.length) := Lib.hid (credLen (st.row (i := 0) get0))
  (try simp only [Value.cells, List.cons_append, List.nil_append, List.set, spl, putIt, pick, List.map_cons, List.map_nil, List.getElem?_cons_zero, List.getElem?_cons_succ, Option.getD_some, List.drop_succ_cons, List.drop_zero, List.drop_nil, List.append_nil, unB] at st)
  (try clear hc); have hc := st.facts; (try simp only [factsOf, blkI, blkFacts, rowI, byI, datI, nullI, oldI, penI, rdI, rdAnyI, rdOverI, Nat.zero_add, Nat.reduceAdd, and_true, true_and, and_self] at hc)
  by_cases hn2 : n < 2
  · have HC : Hid (Lib.compact xs = xs) := Lib.hid (by
      rw [← cup_all, ← HN.out]
      match n, hn2, HN.out with
      | 0, _, h => rw [List.eq_nil_of_length_eq_zero h.symm]; rfl
      | 1, _, h => rw [cup_one (by omega), List.take_of_length_le (by omega)])
    go_enter Try.func111, Try.ntmps111
    go_wp2_with fail
    go_ret
    exact ⟨n, rfl, by rw [HC.out]; exact st⟩
  obtain ⟨g, cap', hv, hcap, hrow⟩ := st.rowAt (i := 0) get0 (by omega)
  injection hv with hv1 hv2 hv3
  subst hv1 hv3
  clear hrow
  have hcap2 : c ≤ 9223372036854775807 := by have := hcap.2; simpa [maxLen] using this
  have hcap1 := hcap.1
  clear hcap
  go_enter Try.func111, Try.ntmps111
  go_wp2_with fail
  go_loopg [3] (n - 1) (fun k vi wr => ∃ (j : Nat), 1 ≤ j ∧ j ≤ n ∧ k = n - j ∧ vi = .int .i64 (j : Int) ∧ Hid (cup xs j = xs.take j) ∧ Own fr al w0 [rowI 98 9 (.slice (some ⟨g, 0, none⟩) n c) n (cellsL xs)] wr)
  case atStart => exact ⟨1, by omega, by omega, by omega, rfl, Lib.hid (cup_one (by have := HN.out; omega)), st⟩
  case round =>
    obtain ⟨j, hj1, hj, rfl, rfl, HT, st'⟩ := hrel
    clear st hc
    have st := st'
    clear st'
    (try simp only [Value.cells, List.cons_append, List.nil_append, List.set, spl, putIt, pick, List.map_cons, List.map_nil, List.getElem?_cons_zero, List.getElem?_cons_succ, Option.getD_some, List.drop_succ_cons, List.drop_zero, List.drop_nil, List.append_nil, unB] at st)
    (try clear hc); have hc := st.facts; (try simp only [factsOf, blkI, blkFacts, rowI, byI, datI, nullI, oldI, penI, rdI, rdAnyI, rdOverI, Nat.zero_add, Nat.reduceAdd, and_true, true_and, and_self] at hc)
    by_cases hjn : j < n
    · obtain ⟨q, hq⟩ : ∃ q, j = q + 1 := ⟨j - 1, by omega⟩
      have hw : IntKind.i64.wrap ((j : Int) - 1) = (q : Int) := by rw [IntWalk.i64_in _ ⟨by omega, by omega⟩]; omega
      have hjl : j < xs.length := by have := HN.out; omega
      have hql : q < xs.length := by omega
      obtain ⟨x, hx⟩ : ∃ x, xs[j]? = some x := ⟨_, List.getElem?_eq_getElem hjl⟩
      obtain ⟨y, hy⟩ : ∃ y, xs[q]? = some y := ⟨_, List.getElem?_eq_getElem hql⟩
      have HR := Lib.hid (And.intro (cred_get hx) (cred_get hy))
      have HST := Lib.hid (cup_step hq hx hy)
      have HTK : Hid (xs.take (j + 1) = xs.take j ++ [x]) := Lib.hid (by rw [List.take_add_one, hx]; rfl)
      clear hx hy hjl
      obtain ⟨kk, ⟨ho, hd⟩, nw, ⟨bo, bd⟩, ⟨co, cd⟩, we⟩ := x
      obtain ⟨kk', ⟨ho', hd'⟩, nw', ⟨bo', bd'⟩, ⟨co', cd'⟩, we'⟩ := y
      simp only at HR
      unfold S at HR
      have hql2 : q < n := by omega
      have HQ := Lib.hid hq
      clear hq hql
      go_wp2_with fail
      refine Rg4.wp_region4_eq #[0, 0, 3, 7, 0, 0, 32, 112, 240, 511] [] [3, 8] (fun _ => True) [0, 1, 2, 3, 4, 5, 6, 7, 8, 9] (by kernel_rfl) (by kernel_rfl) (by kernel_rfl) (by kernel_rfl) (show Rg4.PB _ by repeat (first | with_reducible exact Rg4.pb_body | with_reducible exact Rg4.pb_bodyD rfl | with_reducible refine Rg4.pb_then ?_ | with_reducible refine Rg4.pb_inBlock ?_ | with_reducible refine Rg4.pb_noGoto ?_)) (trivial) ?_
      replace st := st.drew
      change Rg4.wp4 _ _ _ _ _ _ _ _ _ (World.drew _) _ _
      generalize World.drew _ = w at st ⊢
      (try clear hc); have hc := st.facts; (try simp only [factsOf, blkI, blkFacts, rowI, byI, datI, nullI, oldI, penI, rdI, rdAnyI, rdOverI, Nat.zero_add, Nat.reduceAdd, and_true, true_and, and_self] at hc)
      (refine Rg4.w4_any (Rg4.want_none rfl) rfl ?_; apply Exists.intro; refine ⟨fun w' => ?_, ?_⟩; (focus (first | (go_simp; done) | (go_simp; first | rfl | (rw [if_neg] <;> first | rfl | omega) | (rw [if_pos] <;> first | rfl | omega)))); (try simp only [Act.put, List.setIfInBounds_toArray, List.set]))
      (refine Rg4.w4_any (Rg4.want_none rfl) rfl ?_; apply Exists.intro; refine ⟨fun w' => ?_, ?_⟩; (focus (first | (go_simp; done) | (go_simp; first | rfl | (rw [if_neg] <;> first | rfl | omega) | (rw [if_pos] <;> first | rfl | omega)))); (try simp only [Act.put, List.setIfInBounds_toArray, List.set]))
      (refine Rg4.w4_any (Rg4.want_none rfl) rfl ?_; apply Exists.intro; refine ⟨fun w' => ?_, ?_⟩; (focus (first | (go_simp; done) | (go_simp; first | rfl | (rw [if_neg] <;> first | rfl | omega) | (rw [if_pos] <;> first | rfl | omega)))); (try simp only [Act.put, List.setIfInBounds_toArray, List.set]))
      (refine Rg4.w4_read (Rg4.want_none rfl) rfl rfl ?_; apply Exists.intro; refine ⟨fun w' hw' hcl' => ?_, ?_⟩; focus (subst hw'; have r0 := st.rowC (i := 0) get0 _ _ HR.out.1.1; have r1 := st.rowC (i := 0) get0 _ _ HR.out.1.2.1; have r2 := st.rowC (i := 0) get0 _ _ HR.out.1.2.2.1; have r3 := st.rowC (i := 0) get0 _ _ HR.out.1.2.2.2.1; have r4 := st.rowC (i := 0) get0 _ _ HR.out.1.2.2.2.2.1; have r5 := st.rowC (i := 0) get0 _ _ HR.out.1.2.2.2.2.2.1; have r6 := st.rowC (i := 0) get0 _ _ HR.out.1.2.2.2.2.2.2.1; have r7 := st.rowC (i := 0) get0 _ _ HR.out.1.2.2.2.2.2.2.2.1; have r8 := st.rowC (i := 0) get0 _ _ HR.out.1.2.2.2.2.2.2.2.2; have s0 := st.rowC (i := 0) get0 _ _ HR.out.2.1; have s1 := st.rowC (i := 0) get0 _ _ HR.out.2.2.1; have s2 := st.rowC (i := 0) get0 _ _ HR.out.2.2.2.1; have s3 := st.rowC (i := 0) get0 _ _ HR.out.2.2.2.2.1; have s4 := st.rowC (i := 0) get0 _ _ HR.out.2.2.2.2.2.1; have s5 := st.rowC (i := 0) get0 _ _ HR.out.2.2.2.2.2.2.1; have s6 := st.rowC (i := 0) get0 _ _ HR.out.2.2.2.2.2.2.2.1; have s7 := st.rowC (i := 0) get0 _ _ HR.out.2.2.2.2.2.2.2.2.1; have s8 := st.rowC (i := 0) get0 _ _ HR.out.2.2.2.2.2.2.2.2.2; (focus (first | (go_simp; done) | (go_simp; first | rfl | (rw [if_neg] <;> first | rfl | omega) | (rw [if_pos] <;> first | rfl | omega))))); (try simp only [Act.put, List.setIfInBounds_toArray, List.set]))
      (refine Rg4.w4_any (Rg4.want_none rfl) rfl ?_; apply Exists.intro; refine ⟨fun w' => ?_, ?_⟩; (focus (first | (go_simp; done) | (go_simp; first | rfl | (rw [if_neg] <;> first | rfl | omega) | (rw [if_pos] <;> first | rfl | omega)))); (try simp only [Act.put, List.setIfInBounds_toArray, List.set]))
      (refine Rg4.w4_any (Rg4.want_none rfl) rfl ?_; apply Exists.intro; refine ⟨fun w' => ?_, ?_⟩; (focus (first | (go_simp; done) | (go_simp; first | rfl | (rw [if_neg] <;> first | rfl | omega) | (rw [if_pos] <;> first | rfl | omega)))); (try simp only [Act.put, List.setIfInBounds_toArray, List.set]))
      (refine Rg4.w4_any (Rg4.want_none rfl) rfl ?_; apply Exists.intro; refine ⟨fun w' => ?_, ?_⟩; (focus (first | (go_simp; done) | (go_simp; first | rfl | (rw [if_neg] <;> first | rfl | omega) | (rw [if_pos] <;> first | rfl | omega)))); (try simp only [Act.put, List.setIfInBounds_toArray, List.set]))
      (refine Rg4.w4_any (Rg4.want_none rfl) rfl ?_; apply Exists.intro; refine ⟨fun w' => ?_, ?_⟩; (focus (first | (go_simp; done) | (go_simp; first | rfl | (rw [if_neg] <;> first | rfl | omega) | (rw [if_pos] <;> first | rfl | omega)))); (try simp only [Act.put, List.setIfInBounds_toArray, List.set]))
      (refine Rg4.w4_read (Rg4.want_none rfl) rfl rfl ?_; apply Exists.intro; refine ⟨fun w' hw' hcl' => ?_, ?_⟩; focus (subst hw'; have r0 := st.rowC (i := 0) get0 _ _ HR.out.1.1; have r1 := st.rowC (i := 0) get0 _ _ HR.out.1.2.1; have r2 := st.rowC (i := 0) get0 _ _ HR.out.1.2.2.1; have r3 := st.rowC (i := 0) get0 _ _ HR.out.1.2.2.2.1; have r4 := st.rowC (i := 0) get0 _ _ HR.out.1.2.2.2.2.1; have r5 := st.rowC (i := 0) get0 _ _ HR.out.1.2.2.2.2.2.1; have r6 := st.rowC (i := 0) get0 _ _ HR.out.1.2.2.2.2.2.2.1; have r7 := st.rowC (i := 0) get0 _ _ HR.out.1.2.2.2.2.2.2.2.1; have r8 := st.rowC (i := 0) get0 _ _ HR.out.1.2.2.2.2.2.2.2.2; have s0 := st.rowC (i := 0) get0 _ _ HR.out.2.1; have s1 := st.rowC (i := 0) get0 _ _ HR.out.2.2.1; have s2 := st.rowC (i := 0) get0 _ _ HR.out.2.2.2.1; have s3 := st.rowC (i := 0) get0 _ _ HR.out.2.2.2.2.1; have s4 := st.rowC (i := 0) get0 _ _ HR.out.2.2.2.2.2.1; have s5 := st.rowC (i := 0) get0 _ _ HR.out.2.2.2.2.2.2.1; have s6 := st.rowC (i := 0) get0 _ _ HR.out.2.2.2.2.2.2.2.1; have s7 := st.rowC (i := 0) get0 _ _ HR.out.2.2.2.2.2.2.2.2.1; have s8 := st.rowC (i := 0) get0 _ _ HR.out.2.2.2.2.2.2.2.2.2; (focus (first | (go_simp; done) | (go_simp; first | rfl | (rw [if_neg] <;> first | rfl | omega) | (rw [if_pos] <;> first | rfl | omega))))); (try simp only [Act.put, List.setIfInBounds_toArray, List.set]))
      (refine Rg4.w4_any (Rg4.want_none rfl) rfl ?_; apply Exists.intro; refine ⟨fun w' => ?_, ?_⟩; (focus (first | (go_simp; done) | (go_simp; first | rfl | (rw [if_neg] <;> first | rfl | omega) | (rw [if_pos] <;> first | rfl | omega)))); (try simp only [Act.put, List.setIfInBounds_toArray, List.set]))
      refine Rg4.w4_nil (fun w' hw' hcl' _ => ?_); subst hw'; clear hcl'
      cases hxy : credEq (⟨kk, (ho, hd), nw, (bo, bd), (co, cd), we⟩ : CredT) (⟨kk', (ho', hd'), nw', (bo', bd'), (co', cd'), we'⟩ : CredT) with
      | false =>
        have HF : Hid (cup xs (j + 1) = xs.take (j + 1)) := Lib.hid (by rw [credEq_eq, decide_eq_false_iff_not] at hxy; rw [HST.out, if_neg hxy, HT.out, HTK.out])
        clear hxy
        go_wp2_with fail
        go_roundg (n - (j + 1))
        case measure => omega
        case rel => exact ⟨j + 1, by omega, by omega, by omega, by go_num, HF, st⟩
      | true =>
        have HF : Hid (cup xs (j + 1) = xs.take j) := Lib.hid (by rw [credEq_eq, decide_eq_true_eq] at hxy; rw [HST.out, if_pos hxy, HT.out, List.append_nil])
        clear hxy hw
        go_wp2_with fail
        go_loopg [3, 5] (n - j - 1) (fun k vi vr wr => ∃ (i r : Nat) (zs : List CredT), 1 ≤ r ∧ j + r ≤ n ∧ k = n - j - r ∧ i < j + r ∧ vi = .int .i64 (i : Int) ∧ vr = .int .i64 (r : Int) ∧ Hid (zs.length = n ∧ zs.take i = cup xs (j + r) ∧ ∀ q, j + r ≤ q + 1 → zs[q]? = xs[q]?) ∧ Own fr al w0 [rowI 98 9 (.slice (some ⟨g, 0, none⟩) n c) n (cellsL zs)] wr)
        case atStart => exact ⟨j, 1, xs, by omega, by omega, by omega, by omega, rfl, rfl, Lib.hid ⟨HN.out.symm, HF.out.symm, fun _ _ => rfl⟩, st⟩
        case round =>
          obtain ⟨i, r, zs, hr1, hrj, rfl, hir, rfl, rfl, HZ, st'⟩ := hrel
          clear st hc HR HST HTK HF
          have st := st'
          clear st'
          (try simp only [Value.cells, List.cons_append, List.nil_append, List.set, spl, putIt, pick, List.map_cons, List.map_nil, List.getElem?_cons_zero, List.getElem?_cons_succ, Option.getD_some, List.drop_succ_cons, List.drop_zero, List.drop_nil, List.append_nil, unB] at st)
          (try clear hc); have hc := st.facts; (try simp only [factsOf, blkI, blkFacts, rowI, byI, datI, nullI, oldI, penI, rdI, rdAnyI, rdOverI, Nat.zero_add, Nat.reduceAdd, and_true, true_and, and_self] at hc)
          by_cases hrn : r < n - j
          · obtain ⟨s, hs⟩ : ∃ s, r = s + 1 := ⟨r - 1, by omega⟩
            have hw : IntKind.i64.wrap ((r : Int) - 1) = (s : Int) := by rw [IntWalk.i64_in _ ⟨by omega, by omega⟩]; omega
            have hjl : j + r < xs.length := by have := HN.out; omega
            have hql : j + s < xs.length := by omega
            obtain ⟨x, hx⟩ : ∃ x, xs[j + r]? = some x := ⟨_, List.getElem?_eq_getElem hjl⟩
            obtain ⟨y, hy⟩ : ∃ y, xs[j + s]? = some y := ⟨_, List.getElem?_eq_getElem hql⟩
            have hzx := (HZ.out.2.2 (j + r) (by omega)).trans hx
            have hzy := (HZ.out.2.2 (j + s) (by omega)).trans hy
            have HR := Lib.hid (And.intro (cred_get hzx) (cred_get hzy))
            have HST := Lib.hid (cup_step (by omega : j + r = j + s + 1) hx hy)
            clear hx hy hzx hzy hjl
            obtain ⟨kk, ⟨ho, hd⟩, nw, ⟨bo, bd⟩, ⟨co, cd⟩, we⟩ := x
            obtain ⟨kk', ⟨ho', hd'⟩, nw', ⟨bo', bd'⟩, ⟨co', cd'⟩, we'⟩ := y
            simp only [Nat.add_mul] at HR
            unfold S at HR
            have hql2 : s < n - j := by omega
            have HS := Lib.hid hs
            clear hs hql
            go_wp2_with fail
            refine Rg4.wp_region4_eq #[0, 0, 3, 7, 0, 0, 32, 112, 240, 511] [] [3, 8] (fun _ => True) [0, 1, 2, 3, 4, 5, 6, 7, 8, 9] (by kernel_rfl) (by kernel_rfl) (by kernel_rfl) (by kernel_rfl) (show Rg4.PB _ by repeat (first | with_reducible exact Rg4.pb_body | with_reducible exact Rg4.pb_bodyD rfl | with_reducible refine Rg4.pb_then ?_ | with_reducible refine Rg4.pb_inBlock ?_ | with_reducible refine Rg4.pb_noGoto ?_)) (trivial) ?_
            replace st := st.drew
            change Rg4.wp4 _ _ _ _ _ _ _ _ _ (World.drew _) _ _
            generalize World.drew _ = w at st ⊢
            (try clear hc); have hc := st.facts; (try simp only [factsOf, blkI, blkFacts, rowI, byI, datI, nullI, oldI, penI, rdI, rdAnyI, rdOverI, Nat.zero_add, Nat.reduceAdd, and_true, true_and, and_self] at hc)
            (refine Rg4.w4_any (Rg4.want_none rfl) rfl ?_; apply Exists.intro; refine ⟨fun w' => ?_, ?_⟩; (focus (first | (go_simp; done) | (go_simp; first | rfl | (rw [if_neg] <;> first | rfl | omega) | (rw [if_pos] <;> first | rfl | omega)))); (try simp only [Act.put, List.setIfInBounds_toArray, List.set]))
            (refine Rg4.w4_any (Rg4.want_none rfl) rfl ?_; apply Exists.intro; refine ⟨fun w' => ?_, ?_⟩; (focus (first | (go_simp; done) | (go_simp; first | rfl | (rw [if_neg] <;> first | rfl | omega) | (rw [if_pos] <;> first | rfl | omega)))); (try simp only [Act.put, List.setIfInBounds_toArray, List.set]))
            (refine Rg4.w4_any (Rg4.want_none rfl) rfl ?_; apply Exists.intro; refine ⟨fun w' => ?_, ?_⟩; (focus (first | (go_simp; done) | (go_simp; first | rfl | (rw [if_neg] <;> first | rfl | omega) | (rw [if_pos] <;> first | rfl | omega)))); (try simp only [Act.put, List.setIfInBounds_toArray, List.set]))
            (refine Rg4.w4_read (Rg4.want_none rfl) rfl rfl ?_; apply Exists.intro; refine ⟨fun w' hw' hcl' => ?_, ?_⟩; focus (subst hw'; have r0 := st.rowC (i := 0) get0 _ _ HR.out.1.1; have r1 := st.rowC (i := 0) get0 _ _ HR.out.1.2.1; have r2 := st.rowC (i := 0) get0 _ _ HR.out.1.2.2.1; have r3 := st.rowC (i := 0) get0 _ _ HR.out.1.2.2.2.1; have r4 := st.rowC (i := 0) get0 _ _ HR.out.1.2.2.2.2.1; have r5 := st.rowC (i := 0) get0 _ _ HR.out.1.2.2.2.2.2.1; have r6 := st.rowC (i := 0) get0 _ _ HR.out.1.2.2.2.2.2.2.1; have r7 := st.rowC (i := 0) get0 _ _ HR.out.1.2.2.2.2.2.2.2.1; have r8 := st.rowC (i := 0) get0 _ _ HR.out.1.2.2.2.2.2.2.2.2; have s0 := st.rowC (i := 0) get0 _ _ HR.out.2.1; have s1 := st.rowC (i := 0) get0 _ _ HR.out.2.2.1; have s2 := st.rowC (i := 0) get0 _ _ HR.out.2.2.2.1; have s3 := st.rowC (i := 0) get0 _ _ HR.out.2.2.2.2.1; have s4 := st.rowC (i := 0) get0 _ _ HR.out.2.2.2.2.2.1; have s5 := st.rowC (i := 0) get0 _ _ HR.out.2.2.2.2.2.2.1; have s6 := st.rowC (i := 0) get0 _ _ HR.out.2.2.2.2.2.2.2.1; have s7 := st.rowC (i := 0) get0 _ _ HR.out.2.2.2.2.2.2.2.2.1; have s8 := st.rowC (i := 0) get0 _ _ HR.out.2.2.2.2.2.2.2.2.2; (focus (first | (go_simp; done) | (go_simp; first | rfl | (rw [if_neg] <;> first | rfl | omega) | (rw [if_pos] <;> first | rfl | omega))))); (try simp only [Act.put, List.setIfInBounds_toArray, List.set]))
            (refine Rg4.w4_any (Rg4.want_none rfl) rfl ?_; apply Exists.intro; refine ⟨fun w' => ?_, ?_⟩; (focus (first | (go_simp; done) | (go_simp; first | rfl | (rw [if_neg] <;> first | rfl | omega) | (rw [if_pos] <;> first | rfl | omega)))); (try simp only [Act.put, List.setIfInBounds_toArray, List.set]))
            (refine Rg4.w4_any (Rg4.want_none rfl) rfl ?_; apply Exists.intro; refine ⟨fun w' => ?_, ?_⟩; (focus (first | (go_simp; done) | (go_simp; first | rfl | (rw [if_neg] <;> first | rfl | omega) | (rw [if_pos] <;> first | rfl | omega)))); (try simp only [Act.put, List.setIfInBounds_toArray, List.set]))
            (refine Rg4.w4_any (Rg4.want_none rfl) rfl ?_; apply Exists.intro; refine ⟨fun w' => ?_, ?_⟩; (focus (first | (go_simp; done) | (go_simp; first | rfl | (rw [if_neg] <;> first | rfl | omega) | (rw [if_pos] <;> first | rfl | omega)))); (try simp only [Act.put, List.setIfInBounds_toArray, List.set]))
            (refine Rg4.w4_any (Rg4.want_none rfl) rfl ?_; apply Exists.intro; refine ⟨fun w' => ?_, ?_⟩; (focus (first | (go_simp; done) | (go_simp; first | rfl | (rw [if_neg] <;> first | rfl | omega) | (rw [if_pos] <;> first | rfl | omega)))); (try simp only [Act.put, List.setIfInBounds_toArray, List.set]))
            (refine Rg4.w4_read (Rg4.want_none rfl) rfl rfl ?_; apply Exists.intro; refine ⟨fun w' hw' hcl' => ?_, ?_⟩; focus (subst hw'; have r0 := st.rowC (i := 0) get0 _ _ HR.out.1.1; have r1 := st.rowC (i := 0) get0 _ _ HR.out.1.2.1; have r2 := st.rowC (i := 0) get0 _ _ HR.out.1.2.2.1; have r3 := st.rowC (i := 0) get0 _ _ HR.out.1.2.2.2.1; have r4 := st.rowC (i := 0) get0 _ _ HR.out.1.2.2.2.2.1; have r5 := st.rowC (i := 0) get0 _ _ HR.out.1.2.2.2.2.2.1; have r6 := st.rowC (i := 0) get0 _ _ HR.out.1.2.2.2.2.2.2.1; have r7 := st.rowC (i := 0) get0 _ _ HR.out.1.2.2.2.2.2.2.2.1; have r8 := st.rowC (i := 0) get0 _ _ HR.out.1.2.2.2.2.2.2.2.2; have s0 := st.rowC (i := 0) get0 _ _ HR.out.2.1; have s1 := st.rowC (i := 0) get0 _ _ HR.out.2.2.1; have s2 := st.rowC (i := 0) get0 _ _ HR.out.2.2.2.1; have s3 := st.rowC (i := 0) get0 _ _ HR.out.2.2.2.2.1; have s4 := st.rowC (i := 0) get0 _ _ HR.out.2.2.2.2.2.1; have s5 := st.rowC (i := 0) get0 _ _ HR.out.2.2.2.2.2.2.1; have s6 := st.rowC (i := 0) get0 _ _ HR.out.2.2.2.2.2.2.2.1; have s7 := st.rowC (i := 0) get0 _ _ HR.out.2.2.2.2.2.2.2.2.1; have s8 := st.rowC (i := 0) get0 _ _ HR.out.2.2.2.2.2.2.2.2.2; (focus (first | (go_simp; done) | (go_simp; first | rfl | (rw [if_neg] <;> first | rfl | omega) | (rw [if_pos] <;> first | rfl | omega))))); (try simp only [Act.put, List.setIfInBounds_toArray, List.set]))
            (refine Rg4.w4_any (Rg4.want_none rfl) rfl ?_; apply Exists.intro; refine ⟨fun w' => ?_, ?_⟩; (focus (first | (go_simp; done) | (go_simp; first | rfl | (rw [if_neg] <;> first | rfl | omega) | (rw [if_pos] <;> first | rfl | omega)))); (try simp only [Act.put, List.setIfInBounds_toArray, List.set]))
            refine Rg4.w4_nil (fun w' hw' hcl' _ => ?_); subst hw'; clear hcl'
            cases hxy : credEq (⟨kk, (ho, hd), nw, (bo, bd), (co, cd), we⟩ : CredT) (⟨kk', (ho', hd'), nw', (bo', bd'), (co', cd'), we'⟩ : CredT) with
            | true =>
              have hb : (!true) = false := rfl
              have HF : Hid (cup xs (j + (r + 1)) = cup xs (j + r)) := Lib.hid (by rw [credEq_eq, decide_eq_true_eq] at hxy; rw [← Nat.add_assoc, HST.out, if_pos hxy, List.append_nil])
              clear hxy
              simp only [hb]
              go_wp2_with fail
              go_roundg (n - j - (r + 1))
              case measure => omega
              case rel => exact ⟨i, r + 1, zs, by omega, by omega, rfl, by omega, rfl, by go_num, Lib.hid ⟨HZ.out.1, by rw [HF.out]; exact HZ.out.2.1, fun q hq => HZ.out.2.2 q (by omega)⟩, st⟩
            | false =>
              have hb : (!false) = true := rfl
              have HF : Hid (cup xs (j + (r + 1)) = cup xs (j + r) ++ [(⟨kk, (ho, hd), nw, (bo, bd), (co, cd), we⟩ : CredT)]) := Lib.hid (by rw [credEq_eq, decide_eq_false_iff_not] at hxy; rw [← Nat.add_assoc, HST.out, if_neg hxy])
              clear hxy
              simp only [hb]
              have r0 := st.rowC (i := 0) get0 _ _ HR.out.1.1
              have r1 := st.rowC (i := 0) get0 _ _ HR.out.1.2.1
              have r2 := st.rowC (i := 0) get0 _ _ HR.out.1.2.2.1
              have r3 := st.rowC (i := 0) get0 _ _ HR.out.1.2.2.2.1
              have r4 := st.rowC (i := 0) get0 _ _ HR.out.1.2.2.2.2.1
              have r5 := st.rowC (i := 0) get0 _ _ HR.out.1.2.2.2.2.2.1
              have r6 := st.rowC (i := 0) get0 _ _ HR.out.1.2.2.2.2.2.2.1
              have r7 := st.rowC (i := 0) get0 _ _ HR.out.1.2.2.2.2.2.2.2.1
              have r8 := st.rowC (i := 0) get0 _ _ HR.out.1.2.2.2.2.2.2.2.2
              have hiz : i < zs.length := by have := HZ.out.1; omega
              have hset := cellsL_set zs i (⟨kk, (ho, hd), nw, (bo, bd), (co, cd), we⟩ : CredT) hiz
              rw [fltCred_k, cred_cells] at hset
              have HZ2 : Hid ((zs.set i (⟨kk, (ho, hd), nw, (bo, bd), (co, cd), we⟩ : CredT)).length = n ∧ (zs.set i (⟨kk, (ho, hd), nw, (bo, bd), (co, cd), we⟩ : CredT)).take (i + 1) = cup xs (j + (r + 1)) ∧ ∀ q, j + (r + 1) ≤ q + 1 → (zs.set i (⟨kk, (ho, hd), nw, (bo, bd), (co, cd), we⟩ : CredT))[q]? = xs[q]?) := Lib.hid ⟨by simp [HZ.out.1], by
                  rw [HF.out, ← HZ.out.2.1]
                  have : (zs.set i (⟨kk, (ho, hd), nw, (bo, bd), (co, cd), we⟩ : CredT))[i]'(by simpa using hiz) = (⟨kk, (ho, hd), nw, (bo, bd), (co, cd), we⟩ : CredT) := by simp
                  rw [← List.take_append_getElem (l := zs.set i (⟨kk, (ho, hd), nw, (bo, bd), (co, cd), we⟩ : CredT)) (by simpa using hiz), this]
                  rw [List.take_set, List.set_eq_of_length_le (by rw [List.length_take]; omega)], fun q hq => by
                  rw [List.getElem?_set_ne (by omega)]; exact HZ.out.2.2 q (by omega)⟩
              have HSET := Lib.hid hset
              clear hset hiz
              go_wp2_with ((with_reducible refine wl_store ?_ (fun K hK => ?_)); (rfl); (refine owp_storeRow' rfl st ?_; apply Exists.intro; apply Exists.intro; refine ⟨?_, ?_, ?_⟩; (focus (go_simp; try rfl)); (focus (go_simp; try rfl)); refine ⟨0, _, _, _, _, _, _, _, _, get0, rfl, rfl, ?_, ?_, ?_, ?_⟩; (kernel_rfl); (simp [Value.cells]; omega); (rfl); (clear st; intro w st)))
              simp only [List.set_cons_zero] at st
              go_roundg (n - j - (r + 1))
              case measure => omega
              case rel => exact ⟨i + 1, r + 1, zs.set i (⟨kk, (ho, hd), nw, (bo, bd), (co, cd), we⟩ : CredT), by omega, by omega, rfl, by omega, by go_num, by go_num, HZ2, by rw [← HSET.out]; simpa [Value.cells] using st⟩
          · obtain ⟨inf, hinf, hz0, hz1, hz2⟩ := credInfo
            have HF : Hid (zs.take i = Lib.compact xs) := Lib.hid (by rw [HZ.out.2.1, ← cup_all, ← HN.out]; congr 1; omega)
            have hin : i ≤ n := by omega
            go_wp2_with ((with_reducible refine wl_clear ?_ (fun K hK => ?_)); (rfl); (refine owp_clearRow' rfl st Try.underlying100 ?_; apply Exists.intro; apply Exists.intro; apply Exists.intro; refine ⟨?_, ?_⟩; (focus (go_simp; exact ⟨rfl, rfl, rfl⟩)); refine ⟨0, _, _, _, _, i, _, inf, cV zC, get0, hinf, hz0, by decide, rfl, rfl, by omega, by simp, rfl, ?_⟩; (clear st; intro w ys hy1 hy2 st)))
            simp only [List.set_cons_zero] at st
            have st2 := st.rowCut (i := 0) (k := 9) (n := n) (c := c) (g := g) (E := 98) (xs := ys) get0 i (by omega)
            have hct := cellsL_take zs i
            rw [fltCred_k] at hct
            rw [hy1, hct, HF.out, List.set_cons_zero] at st2
            go_ret
            exact ⟨i, rfl, st2⟩
    · obtain rfl : j = n := by omega
      have HF : Hid (Lib.compact xs = xs) := Lib.hid (by rw [← cup_all, ← HN.out, HT.out, List.take_of_length_le (by have := HN.out; omega)])
      go_wp2_with fail
      go_ret
      exact ⟨j, rfl, by rw [HF.out]; exact st⟩
end Go.Proofs.Ytdkemfimhdjdiaa

namespace Go.Proofs.Ytdkemfimhdjdiaa
set_option linter.unusedSimpArgs false
set_option linter.unusedVariables false
open Go Go.RowKit
theorem Fl.cred {w : World} {a : Option Addr} {n : Nat} {xs : List CredT} (h : Fl w a n xs) (h0 : 0 < n) : ∃ b off, a = some ⟨b, off, none⟩ ∧ ∀ j x, xs[j]? = some x → w.cell? ⟨b, off + j * 9, none⟩ = some (.int .i64 x.k) ∧ w.cell? ⟨b, off + j * 9 + 1, none⟩ = some (S x.h.1) ∧ w.cell? ⟨b, off + j * 9 + 2, none⟩ = some (S x.h.2) ∧ w.cell? ⟨b, off + j * 9 + 3, none⟩ = some (S x.w) ∧ w.cell? ⟨b, off + j * 9 + 4, none⟩ = some (S x.b.1) ∧ w.cell? ⟨b, off + j * 9 + 5, none⟩ = some (S x.b.2) ∧ w.cell? ⟨b, off + j * 9 + 6, none⟩ = some (S x.c.1) ∧ w.cell? ⟨b, off + j * 9 + 7, none⟩ = some (S x.c.2) ∧ w.cell? ⟨b, off + j * 9 + 8, none⟩ = some (S x.e) := by
  obtain ⟨b, off, rfl, hc⟩ := h.2 h0
  exact ⟨b, off, rfl, fun j x hj => ⟨hc j x hj 0 _ rfl, hc j x hj 1 _ rfl, hc j x hj 2 _ rfl, hc j x hj 3 _ rfl, hc j x hj 4 _ rfl, hc j x hj 5 _ rfl, hc j x hj 6 _ rfl, hc j x hj 7 _ rfl, hc j x hj 8 _ rfl⟩⟩
set_option maxRecDepth 100000 in
set_option maxHeartbeats 1000000 in
theorem credIndex_any (a : Option Addr) (n c : Nat) (l : List CredT) (y : CredT) (W : World) (h : Fl W a n l) (hn : n ≤ 2000000) :
    Calls Try.prog 123 #[.slice a n c, cV y] W fun e w' => ∃ v : Int, e = .returned (.int .i64 v) ∧ (0 ≤ v ↔ y ∈ l) ∧ Ext W w' := by
  have H := Lib.hid h
  have HNL := Lib.hid h.1
  clear h
  obtain ⟨kk, ⟨ho, hd⟩, nw, ⟨bo, bd⟩, ⟨co, cd⟩, we⟩ := y
  have st := Own.startOld W
  unfold cV S
  (try simp only [Value.cells, List.cons_append, List.nil_append, List.set, spl, putIt, pick, List.map_cons, List.map_nil, List.getElem?_cons_zero, List.getElem?_cons_succ, Option.getD_some, List.drop_succ_cons, List.drop_zero, List.drop_nil, List.append_nil, unB] at st)
  (try clear hc); have hc := st.facts; (try simp only [factsOf, blkI, blkFacts, rowI, byI, datI, nullI, oldI, penI, rdI, rdAnyI, rdOverI, Nat.zero_add, Nat.reduceAdd, and_true, true_and, and_self] at hc)
  go_enter Try.func123, Try.ntmps123
  go_wp2_with ((((with_reducible refine wl_box ?_ (fun K hK => ?_)); rfl; refine owp_box (o := ⟨some 3, _, _, _, _, _⟩) rfl st ?_; apply Exists.intro; refine ⟨?_, ?_⟩; (focus (go_simp; try rfl)); (clear st; intro b3 w hb st; clear hb))); (try simp only [Value.cells, List.cons_append, List.nil_append, List.set, spl, putIt, pick, List.map_cons, List.map_nil, List.getElem?_cons_zero, List.getElem?_cons_succ, Option.getD_some, List.drop_succ_cons, List.drop_zero, List.drop_nil, List.append_nil, unB] at st); (try clear hc); have hc := st.facts; (try simp only [factsOf, blkI, blkFacts, rowI, byI, datI, nullI, oldI, penI, rdI, rdAnyI, rdOverI, Nat.zero_add, Nat.reduceAdd, and_true, true_and, and_self] at hc))
  go_loopg [8] n (fun k i wr => ∃ (j : Nat), j ≤ n ∧ k = n - j ∧ i = .int .i64 (j : Int) ∧ Hid ((⟨kk, (ho, hd), nw, (bo, bd), (co, cd), we⟩ : CredT) ∉ l.take j) ∧ Own (fun _ => False) (fun _ => True) W [oldI W, blkI b3 [.int .i64 kk, S ho, S hd, S nw, S bo, S bd, S co, S cd, S we]] wr)
  case atStart => exact ⟨0, by omega, by omega, rfl, Lib.hid (by simp), st⟩
  case round =>
    obtain ⟨j, hj, rfl, rfl, HT, st'⟩ := hrel
    clear st hc
    have st := st'
    clear st'
    unfold S at st
    (try simp only [Value.cells, List.cons_append, List.nil_append, List.set, spl, putIt, pick, List.map_cons, List.map_nil, List.getElem?_cons_zero, List.getElem?_cons_succ, Option.getD_some, List.drop_succ_cons, List.drop_zero, List.drop_nil, List.append_nil, unB] at st)
    (try clear hc); have hc := st.facts; (try simp only [factsOf, blkI, blkFacts, rowI, byI, datI, nullI, oldI, penI, rdI, rdAnyI, rdOverI, Nat.zero_add, Nat.reduceAdd, and_true, true_and, and_self] at hc)
    by_cases hjn : j < n
    · obtain ⟨b, off, ha, hcell⟩ := H.out.cred (by omega)
      have hjl : j < l.length := by have := HNL.out; omega
      have HC := Lib.hid (hcell j l[j] (List.getElem?_eq_getElem hjl))
      have hts : l.take (j + 1) = l.take j ++ [l[j]] := (List.take_append_getElem hjl).symm
      have hmem := List.getElem_mem hjl
      clear hcell
      generalize l[j] = x at *
      obtain ⟨kk', ⟨ho', hd'⟩, nw', ⟨bo', bd'⟩, ⟨co', cd'⟩, we'⟩ := x
      have HX := Lib.hid (And.intro hts hmem)
      clear hts hmem
      subst ha
      simp only at HC
      unfold S at HC
      go_wp2_with ((((with_reducible refine wl_box ?_ (fun K hK => ?_)); rfl; refine owp_box (o := ⟨some 3, _, _, _, _, _⟩) rfl st ?_; apply Exists.intro; refine ⟨?_, ?_⟩; (focus (go_simp; try rfl)); (clear st; intro b3 w hb st; clear hb))); (try simp only [Value.cells, List.cons_append, List.nil_append, List.set, spl, putIt, pick, List.map_cons, List.map_nil, List.getElem?_cons_zero, List.getElem?_cons_succ, Option.getD_some, List.drop_succ_cons, List.drop_zero, List.drop_nil, List.append_nil, unB] at st); (try clear hc); have hc := st.facts; (try simp only [factsOf, blkI, blkFacts, rowI, byI, datI, nullI, oldI, penI, rdI, rdAnyI, rdOverI, Nat.zero_add, Nat.reduceAdd, and_true, true_and, and_self] at hc))
      refine Rg4.wp_region4_eq #[0, 0, 0, 6, 14, 31] [] [0, 4] (fun _ => True) [0, 1, 2, 3, 4, 5] (by kernel_rfl) (by kernel_rfl) (by kernel_rfl) (by kernel_rfl) (show Rg4.PB _ by repeat (first | with_reducible exact Rg4.pb_body | with_reducible exact Rg4.pb_bodyD rfl | with_reducible refine Rg4.pb_then ?_ | with_reducible refine Rg4.pb_inBlock ?_ | with_reducible refine Rg4.pb_noGoto ?_)) (trivial) ?_
      replace st := st.drew
      change Rg4.wp4 _ _ _ _ _ _ _ _ _ (World.drew _) _ _
      generalize World.drew _ = w at st ⊢
      (try clear hc); have hc := st.facts; (try simp only [factsOf, blkI, blkFacts, rowI, byI, datI, nullI, oldI, penI, rdI, rdAnyI, rdOverI, Nat.zero_add, Nat.reduceAdd, and_true, true_and, and_self] at hc)
      (refine Rg4.w4_read (Rg4.want_none rfl) rfl rfl ?_; apply Exists.intro; refine ⟨fun w' hw' hcl' => ?_, ?_⟩; focus (subst hw'; have r0 := st.oldCell (i := 0) get0 HC.out.1; have r1 := st.oldCell (i := 0) get0 HC.out.2.1; have r2 := st.oldCell (i := 0) get0 HC.out.2.2.1; have r3 := st.oldCell (i := 0) get0 HC.out.2.2.2.1; have r4 := st.oldCell (i := 0) get0 HC.out.2.2.2.2.1; have r5 := st.oldCell (i := 0) get0 HC.out.2.2.2.2.2.1; have r6 := st.oldCell (i := 0) get0 HC.out.2.2.2.2.2.2.1; have r7 := st.oldCell (i := 0) get0 HC.out.2.2.2.2.2.2.2.1; have r8 := st.oldCell (i := 0) get0 HC.out.2.2.2.2.2.2.2.2; (focus (first | (go_simp; done) | (go_simp; first | rfl | (rw [if_neg] <;> first | rfl | omega) | (rw [if_pos] <;> first | rfl | omega))))); (try simp only [Act.put, List.setIfInBounds_toArray, List.set]))
      (refine Rg4.w4_any (Rg4.want_none rfl) rfl ?_; apply Exists.intro; refine ⟨fun w' => ?_, ?_⟩; (focus (first | (go_simp; done) | (go_simp; first | rfl | (rw [if_neg] <;> first | rfl | omega) | (rw [if_pos] <;> first | rfl | omega)))); (try simp only [Act.put, List.setIfInBounds_toArray, List.set]))
      (refine Rg4.w4_any (Rg4.want_none rfl) rfl ?_; apply Exists.intro; refine ⟨fun w' => ?_, ?_⟩; (focus (first | (go_simp; done) | (go_simp; first | rfl | (rw [if_neg] <;> first | rfl | omega) | (rw [if_pos] <;> first | rfl | omega)))); (try simp only [Act.put, List.setIfInBounds_toArray, List.set]))
      (refine Rg4.w4_any (Rg4.want_none rfl) rfl ?_; apply Exists.intro; refine ⟨fun w' => ?_, ?_⟩; (focus (first | (go_simp; done) | (go_simp; first | rfl | (rw [if_neg] <;> first | rfl | omega) | (rw [if_pos] <;> first | rfl | omega)))); (try simp only [Act.put, List.setIfInBounds_toArray, List.set]))
      (refine Rg4.w4_read (Rg4.want_none rfl) rfl rfl ?_; apply Exists.intro; refine ⟨fun w' hw' hcl' => ?_, ?_⟩; focus (subst hw'; have r0 := st.oldCell (i := 0) get0 HC.out.1; have r1 := st.oldCell (i := 0) get0 HC.out.2.1; have r2 := st.oldCell (i := 0) get0 HC.out.2.2.1; have r3 := st.oldCell (i := 0) get0 HC.out.2.2.2.1; have r4 := st.oldCell (i := 0) get0 HC.out.2.2.2.2.1; have r5 := st.oldCell (i := 0) get0 HC.out.2.2.2.2.2.1; have r6 := st.oldCell (i := 0) get0 HC.out.2.2.2.2.2.2.1; have r7 := st.oldCell (i := 0) get0 HC.out.2.2.2.2.2.2.2.1; have r8 := st.oldCell (i := 0) get0 HC.out.2.2.2.2.2.2.2.2; (focus (first | (go_simp; done) | (go_simp; first | rfl | (rw [if_neg] <;> first | rfl | omega) | (rw [if_pos] <;> first | rfl | omega))))); (try simp only [Act.put, List.setIfInBounds_toArray, List.set]))
      (refine Rg4.w4_any (Rg4.want_none rfl) rfl ?_; apply Exists.intro; refine ⟨fun w' => ?_, ?_⟩; (focus (first | (go_simp; done) | (go_simp; first | rfl | (rw [if_neg] <;> first | rfl | omega) | (rw [if_pos] <;> first | rfl | omega)))); (try simp only [Act.put, List.setIfInBounds_toArray, List.set]))
      refine Rg4.w4_nil (fun w' hw' hcl' _ => ?_); subst hw'; clear hcl'
      cases hr : credEq (⟨kk, (ho, hd), nw, (bo, bd), (co, cd), we⟩ : CredT) (⟨kk', (ho', hd'), nw', (bo', bd'), (co', cd'), we'⟩ : CredT) with
      | true =>
        have HF : Hid ((⟨kk, (ho, hd), nw, (bo, bd), (co, cd), we⟩ : CredT) ∈ l) := Lib.hid (by rw [credEq_eq, decide_eq_true_eq] at hr; rw [hr]; exact HX.out.2)
        clear hr
        go_wp2_with ((((with_reducible refine wl_box ?_ (fun K hK => ?_)); rfl; refine owp_box (o := ⟨some 3, _, _, _, _, _⟩) rfl st ?_; apply Exists.intro; refine ⟨?_, ?_⟩; (focus (go_simp; try rfl)); (clear st; intro b3 w hb st; clear hb))); (try simp only [Value.cells, List.cons_append, List.nil_append, List.set, spl, putIt, pick, List.map_cons, List.map_nil, List.getElem?_cons_zero, List.getElem?_cons_succ, Option.getD_some, List.drop_succ_cons, List.drop_zero, List.drop_nil, List.append_nil, unB] at st); (try clear hc); have hc := st.facts; (try simp only [factsOf, blkI, blkFacts, rowI, byI, datI, nullI, oldI, penI, rdI, rdAnyI, rdOverI, Nat.zero_add, Nat.reduceAdd, and_true, true_and, and_self] at hc))
        go_ret
        exact ⟨_, rfl, ⟨fun _ => HF.out, fun _ => by omega⟩, st.ext0⟩
      | false =>
        have HF : Hid ((⟨kk, (ho, hd), nw, (bo, bd), (co, cd), we⟩ : CredT) ∉ l.take (j + 1)) := Lib.hid (by
          rw [credEq_eq, decide_eq_false_iff_not] at hr
          rw [HX.out.1]
          intro q
          rcases List.mem_append.1 q with q | q
          · exact HT.out q
          · exact hr (List.mem_singleton.1 q))
        clear hr
        go_wp2_with ((((with_reducible refine wl_box ?_ (fun K hK => ?_)); rfl; refine owp_box (o := ⟨some 3, _, _, _, _, _⟩) rfl st ?_; apply Exists.intro; refine ⟨?_, ?_⟩; (focus (go_simp; try rfl)); (clear st; intro b3 w hb st; clear hb))); (try simp only [Value.cells, List.cons_append, List.nil_append, List.set, spl, putIt, pick, List.map_cons, List.map_nil, List.getElem?_cons_zero, List.getElem?_cons_succ, Option.getD_some, List.drop_succ_cons, List.drop_zero, List.drop_nil, List.append_nil, unB] at st); (try clear hc); have hc := st.facts; (try simp only [factsOf, blkI, blkFacts, rowI, byI, datI, nullI, oldI, penI, rdI, rdAnyI, rdOverI, Nat.zero_add, Nat.reduceAdd, and_true, true_and, and_self] at hc))
        go_roundg (n - (j + 1))
        case measure => omega
        case rel => exact ⟨j + 1, by omega, by omega, by first | rfl | trivial | go_num, HF, by simpa [S] using st⟩
    · obtain rfl : j = n := by omega
      have HF : Hid ((⟨kk, (ho, hd), nw, (bo, bd), (co, cd), we⟩ : CredT) ∉ l) := Lib.hid (by have := HT.out; rwa [List.take_of_length_le (by have := HNL.out; omega)] at this)
      go_wp2_with ((((with_reducible refine wl_box ?_ (fun K hK => ?_)); rfl; refine owp_box (o := ⟨some 3, _, _, _, _, _⟩) rfl st ?_; apply Exists.intro; refine ⟨?_, ?_⟩; (focus (go_simp; try rfl)); (clear st; intro b3 w hb st; clear hb))); (try simp only [Value.cells, List.cons_append, List.nil_append, List.set, spl, putIt, pick, List.map_cons, List.map_nil, List.getElem?_cons_zero, List.getElem?_cons_succ, Option.getD_some, List.drop_succ_cons, List.drop_zero, List.drop_nil, List.append_nil, unB] at st); (try clear hc); have hc := st.facts; (try simp only [factsOf, blkI, blkFacts, rowI, byI, datI, nullI, oldI, penI, rdI, rdAnyI, rdOverI, Nat.zero_add, Nat.reduceAdd, and_true, true_and, and_self] at hc))
      go_ret
      exact ⟨_, rfl, ⟨fun q => by omega, fun q => absurd q HF.out⟩, st.ext0⟩
set_option maxRecDepth 100000 in
set_option maxHeartbeats 1000000 in
theorem credContains_any (a : Option Addr) (n c : Nat) (l : List CredT) (y : CredT) (W : World) (h : Fl W a n l) (hn : n ≤ 2000000) :
    Calls Try.prog 112 #[.slice a n c, cV y] W fun e w' => e = .returned (.bool (decide (y ∈ l))) ∧ Ext W w' := by
  have H := Lib.hid h
  clear h
  have HI := Lib.hid (credIndex_any a n c l y)
  obtain ⟨kk, ⟨ho, hd⟩, nw, ⟨bo, bd⟩, ⟨co, cd⟩, we⟩ := y
  have st := Own.startOld W
  unfold cV S at *
  (try simp only [Value.cells, List.cons_append, List.nil_append, List.set, spl, putIt, pick, List.map_cons, List.map_nil, List.getElem?_cons_zero, List.getElem?_cons_succ, Option.getD_some, List.drop_succ_cons, List.drop_zero, List.drop_nil, List.append_nil, unB] at st)
  (try clear hc); have hc := st.facts; (try simp only [factsOf, blkI, blkFacts, rowI, byI, datI, nullI, oldI, penI, rdI, rdAnyI, rdOverI, Nat.zero_add, Nat.reduceAdd, and_true, true_and, and_self] at hc)
  go_enter Try.func112, Try.ntmps112
  go_wp2_with ((((with_reducible refine wl_box ?_ (fun K hK => ?_)); rfl; refine owp_box (o := ⟨some 3, _, _, _, _, _⟩) rfl st ?_; apply Exists.intro; refine ⟨?_, ?_⟩; (focus (go_simp; try rfl)); (clear st; intro b3 w hb st; clear hb))); (try simp only [Value.cells, List.cons_append, List.nil_append, List.set, spl, putIt, pick, List.map_cons, List.map_nil, List.getElem?_cons_zero, List.getElem?_cons_succ, Option.getD_some, List.drop_succ_cons, List.drop_zero, List.drop_nil, List.append_nil, unB] at st); (try clear hc); have hc := st.facts; (try simp only [factsOf, blkI, blkFacts, rowI, byI, datI, nullI, oldI, penI, rdI, rdAnyI, rdOverI, Nat.zero_add, Nat.reduceAdd, and_true, true_and, and_self] at hc))
  refine (HI.out _ (st.oldFl (i := 0) get0 H.out) hn).mono ?_
  rintro en w' ⟨v, rfl, hv, hx⟩
  replace st := st.ext hx
  clear hx
  by_cases h0 : 0 ≤ v
  · have HF : Hid ((⟨kk, (ho, hd), nw, (bo, bd), (co, cd), we⟩ : CredT) ∈ l) := Lib.hid (hv.1 h0)
    clear hv
    go_wp2_with ((((with_reducible refine wl_box ?_ (fun K hK => ?_)); rfl; refine owp_box (o := ⟨some 3, _, _, _, _, _⟩) rfl st ?_; apply Exists.intro; refine ⟨?_, ?_⟩; (focus (go_simp; try rfl)); (clear st; intro b3 w hb st; clear hb))); (try simp only [Value.cells, List.cons_append, List.nil_append, List.set, spl, putIt, pick, List.map_cons, List.map_nil, List.getElem?_cons_zero, List.getElem?_cons_succ, Option.getD_some, List.drop_succ_cons, List.drop_zero, List.drop_nil, List.append_nil, unB] at st); (try clear hc); have hc := st.facts; (try simp only [factsOf, blkI, blkFacts, rowI, byI, datI, nullI, oldI, penI, rdI, rdAnyI, rdOverI, Nat.zero_add, Nat.reduceAdd, and_true, true_and, and_self] at hc))
    go_ret
    exact ⟨by rw [decide_eq_true HF.out]; simp [h0], st.ext0⟩
  · have HF : Hid ((⟨kk, (ho, hd), nw, (bo, bd), (co, cd), we⟩ : CredT) ∉ l) := Lib.hid (fun q => h0 (hv.2 q))
    clear hv
    go_wp2_with ((((with_reducible refine wl_box ?_ (fun K hK => ?_)); rfl; refine owp_box (o := ⟨some 3, _, _, _, _, _⟩) rfl st ?_; apply Exists.intro; refine ⟨?_, ?_⟩; (focus (go_simp; try rfl)); (clear st; intro b3 w hb st; clear hb))); (try simp only [Value.cells, List.cons_append, List.nil_append, List.set, spl, putIt, pick, List.map_cons, List.map_nil, List.getElem?_cons_zero, List.getElem?_cons_succ, Option.getD_some, List.drop_succ_cons, List.drop_zero, List.drop_nil, List.append_nil, unB] at st); (try clear hc); have hc := st.facts; (try simp only [factsOf, blkI, blkFacts, rowI, byI, datI, nullI, oldI, penI, rdI, rdAnyI, rdOverI, Nat.zero_add, Nat.reduceAdd, and_true, true_and, and_self] at hc))
    go_ret
    exact ⟨by rw [decide_eq_false HF.out]; simp; omega, st.ext0⟩
end Go.Proofs.Ytdkemfimhdjdiaa

namespace Go.Proofs.Ytdkemfimhdjdiaa
set_option linter.unusedSimpArgs false
set_option linter.unusedVariables false
open Go Go.RowKit
@[go_sem] theorem eqNilCred (a : Option Addr) (n c : Nat) (w : World) : (binOp .eql 100 (.slice a n c) (.slice none 0 0)).run Try.prog w = .ok (.bool a.isNone) w := by
  have h := run_equal_slice_nil w _ _ a n c Try.underlying100
  simp only [binOp]
  simp [h]
set_option maxRecDepth 100000 in
set_option maxHeartbeats 1000000 in
theorem credClone_any (a : Option Addr) (n c : Nat) (l : List CredT) (W : World) (h : Fl W a n l) (hn : n ≤ 2000000) :
    Calls Try.prog 108 #[.slice a n c] W fun e w' => ∃ va vc, e = .returned (.slice va n vc) ∧ FreshI W w' (rowI 98 9 (.slice va n vc) n (cellsL l)) := by
  have H := Lib.hid h
  clear h
  have st := Own.startOld W
  (try simp only [Value.cells, List.cons_append, List.nil_append, List.set, spl, putIt, pick, List.map_cons, List.map_nil, List.getElem?_cons_zero, List.getElem?_cons_succ, Option.getD_some, List.drop_succ_cons, List.drop_zero, List.drop_nil, List.append_nil, unB] at st)
  (try clear hc); have hc := st.facts; (try simp only [factsOf, blkI, blkFacts, rowI, byI, datI, nullI, oldI, penI, rdI, rdAnyI, rdOverI, Nat.zero_add, Nat.reduceAdd, and_true, true_and, and_self] at hc)
  cases a with
  | none =>
    have h0 : n = 0 := by
      rcases Nat.eq_zero_or_pos n with q | q
      · exact q
      · obtain ⟨b, off, e, _⟩ := H.out.2 q; cases e
    subst h0
    have hl : l = [] := List.eq_nil_of_length_eq_zero H.out.1.symm
    subst hl
    go_enter Try.func108, Try.ntmps108
    go_wp2_with fail
    go_ret
    exact ⟨none, 0, rfl, FreshI.post (FreshI.pre (FreshI.nilRow W _ _) (Ext.refl _)) st.ext0⟩
  | some ad =>
    go_enter Try.func108, Try.ntmps108
    go_wp2_with (first
        | ((with_reducible refine wl_append ?_ (fun K hK => ?_)); (rfl); (obtain ⟨inf, hinf, hz0, hz1, hz2⟩ := credInfo); (refine owp_append rfl st 1 get1 Try.underlying100 hinf hz0 hz1 hz2 rfl (by decide) rfl rfl ((st.oldFl (i := 0) get0 H.out).flat) (by first | exact cellsL_all _ | simp [Value.oneCell']) (by simp only [maxLen]; omega) (by omega) ?_); (clear hinf hz0 hz1 hz2 inf); (clear st; intro v' w st); (obtain ⟨va', vc', rfl⟩ := own_slice (st.row (i := 1) get1)); (try simp only [Value.cells, List.cons_append, List.nil_append, List.set, spl, putIt, pick, List.map_cons, List.map_nil, List.getElem?_cons_zero, List.getElem?_cons_succ, Option.getD_some, List.drop_succ_cons, List.drop_zero, List.drop_nil, List.append_nil, unB] at st); (try simp only [Nat.zero_add] at st); (try clear hc); have hc := st.facts; (try simp only [factsOf, blkI, blkFacts, rowI, byI, datI, nullI, oldI, penI, rdI, rdAnyI, rdOverI, Nat.zero_add, Nat.reduceAdd, and_true, true_and, and_self] at hc))
        | ((with_reducible refine wl_buildSlice ?_ (fun K hK => ?_)); (rfl); (refine owp_buildRow (o := ⟨some 5, _, _, _, _, _⟩) rfl st 98 9 ?_; refine ⟨0, #[], ?_, by simp, by simp [maxLen], ?_⟩; (focus (go_simp; (first | done | rfl))); (clear st; intro b5 w hb st; clear hb)); (try simp only [Value.cells, List.cons_append, List.nil_append, List.set, spl, putIt, pick, List.map_cons, List.map_nil, List.getElem?_cons_zero, List.getElem?_cons_succ, Option.getD_some, List.drop_succ_cons, List.drop_zero, List.drop_nil, List.append_nil, unB] at st); (try clear hc); have hc := st.facts; (try simp only [factsOf, blkI, blkFacts, rowI, byI, datI, nullI, oldI, penI, rdI, rdAnyI, rdOverI, Nat.zero_add, Nat.reduceAdd, and_true, true_and, and_self] at hc)))
    go_ret
    have hf := st.toFresh (i := 1) get1
    exact ⟨_, _, rfl, hf⟩
set_option maxRecDepth 100000 in
set_option maxHeartbeats 1000000 in
theorem credSet1_any (x : CredT) (W : World) (hl : CredL 100000 x) : Calls Try.prog 109 #[cV x] W fun e w' => e = .returned (.bool (!credR x)) ∧ Ext W w' := by
  have HR := Lib.hid (credRight_any x)
  obtain ⟨kk, ⟨ho, hd⟩, nw, ⟨bo, bd⟩, ⟨co, cd⟩, we⟩ := x
  have st := Own.startOld W
  unfold cV S at *
  (try simp only [Value.cells, List.cons_append, List.nil_append, List.set, spl, putIt, pick, List.map_cons, List.map_nil, List.getElem?_cons_zero, List.getElem?_cons_succ, Option.getD_some, List.drop_succ_cons, List.drop_zero, List.drop_nil, List.append_nil, unB] at st)
  (try clear hc); have hc := st.facts; (try simp only [factsOf, blkI, blkFacts, rowI, byI, datI, nullI, oldI, penI, rdI, rdAnyI, rdOverI, Nat.zero_add, Nat.reduceAdd, and_true, true_and, and_self] at hc)
  go_enter Try.func109, Try.ntmps109
  go_wp2_with ((((with_reducible refine wl_box ?_ (fun K hK => ?_)); rfl; refine owp_box (o := ⟨some 1, _, _, _, _, _⟩) rfl st ?_; apply Exists.intro; refine ⟨?_, ?_⟩; (focus (go_simp; try rfl)); (clear st; intro b1 w hb st; clear hb))); (try simp only [Value.cells, List.cons_append, List.nil_append, List.set, spl, putIt, pick, List.map_cons, List.map_nil, List.getElem?_cons_zero, List.getElem?_cons_succ, Option.getD_some, List.drop_succ_cons, List.drop_zero, List.drop_nil, List.append_nil, unB] at st); (try clear hc); have hc := st.facts; (try simp only [factsOf, blkI, blkFacts, rowI, byI, datI, nullI, oldI, penI, rdI, rdAnyI, rdOverI, Nat.zero_add, Nat.reduceAdd, and_true, true_and, and_self] at hc))
  refine (HR.out _ hl).mono ?_
  rintro en w ⟨rfl, hx⟩
  replace st := st.ext hx
  clear hx
  (try clear hc); have hc := st.facts; (try simp only [factsOf, blkI, blkFacts, rowI, byI, datI, nullI, oldI, penI, rdI, rdAnyI, rdOverI, Nat.zero_add, Nat.reduceAdd, and_true, true_and, and_self] at hc)
  go_wp2_with fail
  go_ret
  exact ⟨rfl, st.ext0⟩
end Go.Proofs.Ytdkemfimhdjdiaa
