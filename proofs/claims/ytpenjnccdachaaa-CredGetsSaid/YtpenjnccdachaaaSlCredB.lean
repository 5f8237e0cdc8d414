/- slices.IndexFunc and slices.DeleteFunc at []Cred. -/
import Derived.Test.YtpenjnccdachaaaSlRoleC
import Derived.Test.YtpenjnccdachaaaCredF
namespace Go.Proofs.Ytpenjnccdachaaa
set_option linter.unusedSimpArgs false
set_option linter.unusedVariables false
open Go Go.RowKit
def zC : CredT := ⟨0, ([], []), [], ([], []), ([], []), []⟩
theorem cred_cells (x : CredT) : Flt.cells x = [.int .i64 x.k, .string ⟨x.h.1.toArray⟩, .string ⟨x.h.2.toArray⟩, .string ⟨x.w.toArray⟩, .string ⟨x.b.1.toArray⟩, .string ⟨x.b.2.toArray⟩, .string ⟨x.c.1.toArray⟩, .string ⟨x.c.2.toArray⟩, .string ⟨x.e.toArray⟩] := rfl
theorem credInfo : ∃ i, Try.prog.info? 97 = some i ∧ i.zero = some (cV zC) ∧ i.size = 9 ∧ i.bytes = 136 := info_parts (by kernel_rfl)
theorem credLen {w : World} {n : Nat} {v : Value} {E : TypeId} {xs : List CredT} (h : w.ownsRow 0 E 9 v n (cellsL xs)) : n = xs.length := by
  have := h.1
  rw [cellsL_len, fltCred_k] at this
  omega
theorem cred_get {xs : List CredT} {j : Nat} {x : CredT} (h : xs[j]? = some x) : (cellsL xs)[j * 9]? = some (.int .i64 x.k) ∧ (cellsL xs)[j * 9 + 1]? = some (S x.h.1) ∧ (cellsL xs)[j * 9 + 2]? = some (S x.h.2) ∧ (cellsL xs)[j * 9 + 3]? = some (S x.w) ∧ (cellsL xs)[j * 9 + 4]? = some (S x.b.1) ∧ (cellsL xs)[j * 9 + 5]? = some (S x.b.2) ∧ (cellsL xs)[j * 9 + 6]? = some (S x.c.1) ∧ (cellsL xs)[j * 9 + 7]? = some (S x.c.2) ∧ (cellsL xs)[j * 9 + 8]? = some (S x.e) :=
  ⟨cellsL_get (i := j) (j := 0) h (by decide), cellsL_get (i := j) (j := 1) h (by decide), cellsL_get (i := j) (j := 2) h (by decide), cellsL_get (i := j) (j := 3) h (by decide), cellsL_get (i := j) (j := 4) h (by decide), cellsL_get (i := j) (j := 5) h (by decide), cellsL_get (i := j) (j := 6) h (by decide), cellsL_get (i := j) (j := 7) h (by decide), cellsL_get (i := j) (j := 8) h (by decide)⟩
set_option maxRecDepth 100000 in
set_option maxHeartbeats 1000000 in
theorem indexFuncCred_c {fr al : Nat → Prop} {w0 w : World} {n c : Nat} {a : Option Addr} {xs : List CredT} (st : Own fr al w0 [rowI 97 9 (.slice a n c) n (cellsL xs)] w) (hn : n ≤ 2000000) (F : FuncId) (cap : Array Value) (p : CredT → Bool)
    (hi : ∀ w x, (callFunc F (#[x] ++ cap)).run Try.prog w = .ok (.enter F (#[x] ++ cap)) w)
    (hp : ∀ x ∈ xs, ∀ w, Calls Try.prog F (#[cV x] ++ cap) w fun e w' => e = .returned (.bool (p x)) ∧ Ext w w') :
    Calls Try.prog 158 #[.slice a n c, .func (.func F) #[] cap] w fun e w' => ∃ v, e = .returned (.int .i64 v) ∧ IxIs p xs v ∧ Own fr al w0 [rowI 97 9 (.slice a n c) n (cellsL xs)] w' := by
  have HP := Lib.hid hp
  have HN : Hid (n = xs.length) := Lib.hid (credLen (st.row (i := 0) get0))
  clear hp
  (try simp only [Value.cells, List.cons_append, List.nil_append, List.set, spl, putIt, pick, List.map_cons, List.map_nil, List.getElem?_cons_zero, List.getElem?_cons_succ, Option.getD_some, List.drop_succ_cons, List.drop_zero, List.drop_nil, List.append_nil, unB] at st)
  (try clear hc); have hc := st.facts; (try simp only [factsOf, blkI, blkFacts, rowI, byI, datI, nullI, oldI, penI, rdI, rdAnyI, rdOverI, Nat.zero_add, Nat.reduceAdd, and_true, true_and, and_self] at hc)
  go_enter Try.func158, Try.ntmps158
  go_wp2_with fail
  go_loopg [8] n (fun k i wr => ∃ (j : Nat), j ≤ n ∧ k = n - j ∧ i = .int .i64 (j : Int) ∧ Hid (∀ x ∈ xs.take j, p x = false) ∧ Own fr al w0 [rowI 97 9 (.slice a n c) n (cellsL xs)] wr)
  case atStart => exact ⟨0, by omega, by omega, rfl, Lib.hid (by simp), st⟩
  case round =>
    obtain ⟨j, hj, rfl, rfl, HT, st'⟩ := hrel
    clear st hc
    have st := st'
    clear st'
    (try simp only [Value.cells, List.cons_append, List.nil_append, List.set, spl, putIt, pick, List.map_cons, List.map_nil, List.getElem?_cons_zero, List.getElem?_cons_succ, Option.getD_some, List.drop_succ_cons, List.drop_zero, List.drop_nil, List.append_nil, unB] at st)
    (try clear hc); have hc := st.facts; (try simp only [factsOf, blkI, blkFacts, rowI, byI, datI, nullI, oldI, penI, rdI, rdAnyI, rdOverI, Nat.zero_add, Nat.reduceAdd, and_true, true_and, and_self] at hc)
    by_cases hjn : j < n
    · obtain ⟨g, cap', hv, hcap, hrow⟩ := st.rowAt (i := 0) get0 (by omega)
      injection hv with hv1 hv2 hv3
      subst hv1 hv3
      have hjl : j < xs.length := by have := HN.out; omega
      have r0 := hrow (j * 9) (.int .i64 xs[j].k) (cred_get (List.getElem?_eq_getElem hjl)).1
      have r1 := hrow (j * 9 + 1) (S xs[j].h.1) (cred_get (List.getElem?_eq_getElem hjl)).2.1
      have r2 := hrow (j * 9 + 2) (S xs[j].h.2) (cred_get (List.getElem?_eq_getElem hjl)).2.2.1
      have r3 := hrow (j * 9 + 3) (S xs[j].w) (cred_get (List.getElem?_eq_getElem hjl)).2.2.2.1
      have r4 := hrow (j * 9 + 4) (S xs[j].b.1) (cred_get (List.getElem?_eq_getElem hjl)).2.2.2.2.1
      have r5 := hrow (j * 9 + 5) (S xs[j].b.2) (cred_get (List.getElem?_eq_getElem hjl)).2.2.2.2.2.1
      have r6 := hrow (j * 9 + 6) (S xs[j].c.1) (cred_get (List.getElem?_eq_getElem hjl)).2.2.2.2.2.2.1
      have r7 := hrow (j * 9 + 7) (S xs[j].c.2) (cred_get (List.getElem?_eq_getElem hjl)).2.2.2.2.2.2.2.1
      have r8 := hrow (j * 9 + 8) (S xs[j].e) (cred_get (List.getElem?_eq_getElem hjl)).2.2.2.2.2.2.2.2
      have hts : xs.take (j + 1) = xs.take j ++ [xs[j]] := (List.take_append_getElem hjl).symm
      have hx := HP.out xs[j] (List.getElem_mem hjl)
      have hge := List.getElem?_eq_getElem hjl
      clear hrow
      generalize xs[j] = x at *
      obtain ⟨kk, ⟨ho, hd⟩, nw, ⟨bo, bd⟩, ⟨co, cd⟩, we⟩ := x
      have HX := Lib.hid (And.intro hts (And.intro hjl hge))
      clear hts hge hjl
      simp only at r0 r1 r2 r3 r4 r5 r6 r7 r8
      unfold S at r1 r2 r3 r4 r5 r6 r7 r8
      unfold cV S at hx
      have HQ := Lib.hid hx
      clear hx
      go_wp2_with fail
      refine (HQ.out _).mono ?_
      rintro en w ⟨rfl, hx⟩
      replace st := st.ext hx
      clear hx r0 r1 r2 r3 r4 r5 r6 r7 r8
      by_cases hpx : p (⟨kk, (ho, hd), nw, (bo, bd), (co, cd), we⟩ : CredT) = true
      · rw [hpx]
        have HF : Hid (IxIs p xs (j : Int)) := Lib.hid (.inr ⟨j, (⟨kk, (ho, hd), nw, (bo, bd), (co, cd), we⟩ : CredT), rfl, HX.out.2.1, HX.out.2.2, hpx, HT.out⟩)
        clear hpx
        go_wp2_with fail
        go_ret
        exact ⟨_, rfl, HF.out, st⟩
      · have hpx' : p (⟨kk, (ho, hd), nw, (bo, bd), (co, cd), we⟩ : CredT) = false := by simpa using hpx
        rw [hpx']
        have HF : Hid (∀ y ∈ xs.take (j + 1), p y = false) := Lib.hid (fun y hy => by
          rw [HX.out.1] at hy
          rcases List.mem_append.1 hy with q | q
          · exact HT.out y q
          · rw [List.mem_singleton.1 q]; exact hpx')
        clear hpx hpx'
        go_wp2_with fail
        go_roundg (n - (j + 1))
        case measure => omega
        case rel => exact ⟨j + 1, by omega, rfl, by go_num, HF, st⟩
    · obtain rfl : j = n := by omega
      have HF : Hid (IxIs p xs (-1)) := Lib.hid (.inl ⟨rfl, by have := HT.out; rwa [List.take_of_length_le (by have := HN.out; omega)] at this⟩)
      go_wp2_with fail
      go_ret
      exact ⟨_, rfl, HF.out, st⟩
set_option maxRecDepth 100000 in
set_option maxHeartbeats 2000000 in
theorem deleteFuncCred_c {fr al : Nat → Prop} {w0 w : World} {n c : Nat} {a : Option Addr} {xs : List CredT} (st : Own fr al w0 [rowI 97 9 (.slice a n c) n (cellsL xs)] w) (hn : n ≤ 2000000) (F : FuncId) (cap : Array Value) (p : CredT → Bool)
    (hi : ∀ w x, (callFunc F (#[x] ++ cap)).run Try.prog w = .ok (.enter F (#[x] ++ cap)) w)
    (hp : ∀ x ∈ xs, ∀ w, Calls Try.prog F (#[cV x] ++ cap) w fun e w' => e = .returned (.bool (p x)) ∧ Ext w w') :
    Calls Try.prog 132 #[.slice a n c, .func (.func F) #[] cap] w fun e w' => ∃ m, e = .returned (.slice a m c) ∧ Own fr al w0 [rowI 97 9 (.slice a m c) m (cellsL (xs.filter fun x => !p x))] w' := by
  have HP := Lib.hid hp
  have HN : Hid (n = xs.length) := Lib.hid (credLen (st.row (i := 0) get0))
  clear hp
  (try simp only [Value.cells, List.cons_append, List.nil_append, List.set, spl, putIt, pick, List.map_cons, List.map_nil, List.getElem?_cons_zero, List.getElem?_cons_succ, Option.getD_some, List.drop_succ_cons, List.drop_zero, List.drop_nil, List.append_nil, unB] at st)
  (try clear hc); have hc := st.facts; (try simp only [factsOf, blkI, blkFacts, rowI, byI, datI, nullI, oldI, penI, rdI, rdAnyI, rdOverI, Nat.zero_add, Nat.reduceAdd, and_true, true_and, and_self] at hc)
  go_enter Try.func132, Try.ntmps132
  go_wp2_with fail
  refine (indexFuncCred_c st hn F cap p hi HP.out).mono ?_
  clear st
  rintro en w ⟨v, rfl, hix, st⟩
  rcases hix with ⟨rfl, hall⟩ | ⟨i0, y, rfl, hil, hiy, hpy, hpre⟩
  · have HF : Hid (xs.filter (fun x => !p x) = xs) := Lib.hid (List.filter_eq_self.2 fun x hx => by simp [hall x hx])
    clear hall
    go_wp2_with fail
    go_ret
    exact ⟨n, rfl, by rw [HF.out]; exact st⟩
  · obtain ⟨g, cap', hv, hcap, hrow⟩ := st.rowAt (i := 0) get0 (by have := HN.out; omega)
    injection hv with hv1 hv2 hv3
    subst hv1 hv3
    clear hrow
    have hi0 : i0 < n := by have := HN.out; omega
    have HS : Hid (xs.take i0 = (xs.take (i0 + 1)).filter (fun x => !p x)) := Lib.hid (by
      have e1 : xs[i0] = y := by rw [List.getElem?_eq_getElem hil] at hiy; injection hiy
      rw [← List.take_append_getElem hil, List.filter_append, e1]
      simp only [List.filter_cons, hpy]
      simp
      exact (List.filter_eq_self.2 fun x hx => by simp [hpre x hx]).symm)
    have hcap2 : c ≤ 9223372036854775807 := by have := hcap.2; simpa [maxLen] using this
    have hcap1 := hcap.1
    clear hil hiy hpy hpre hcap
    have hb1 : ((i0 : Int) == -1) = false := by simp
    go_wp2_with fail
    go_loopg [5, 6] (n - (i0 + 1)) (fun k vi vj wr => ∃ (i j : Nat) (zs : List CredT), j ≤ n ∧ k = n - j ∧ i < j ∧ vi = .int .i64 (i : Int) ∧ vj = .int .i64 (j : Int) ∧ Hid (zs.length = n ∧ zs.take i = (xs.take j).filter (fun x => !p x) ∧ zs.drop j = xs.drop j) ∧ Own fr al w0 [rowI 97 9 (.slice (some ⟨g, 0, none⟩) n c) n (cellsL zs)] wr)
    case atStart => exact ⟨i0, i0 + 1, xs, by omega, by omega, by omega, rfl, by go_num, Lib.hid ⟨HN.out.symm, HS.out, rfl⟩, st⟩
    case round =>
      obtain ⟨i, j, zs, hj, rfl, hij, rfl, rfl, HZ, st'⟩ := hrel
      clear st
      have st := st'
      clear st'
      (try simp only [Value.cells, List.cons_append, List.nil_append, List.set, spl, putIt, pick, List.map_cons, List.map_nil, List.getElem?_cons_zero, List.getElem?_cons_succ, Option.getD_some, List.drop_succ_cons, List.drop_zero, List.drop_nil, List.append_nil, unB] at st)
      (try clear hc); have hc := st.facts; (try simp only [factsOf, blkI, blkFacts, rowI, byI, datI, nullI, oldI, penI, rdI, rdAnyI, rdOverI, Nat.zero_add, Nat.reduceAdd, and_true, true_and, and_self] at hc)
      by_cases hjn : j < n
      · obtain ⟨g', cap', hv, hcap, hrow⟩ := st.rowAt (i := 0) get0 (by omega)
        injection hv with hv1 hv2 hv3
        injection hv1 with hv1
        injection hv1 with hv1 _ _
        subst hv1 hv3
        have hjz : j < zs.length := by have := HZ.out.1; omega
        have hjx : j < xs.length := by have := HN.out; omega
        have hzx : zs[j] = xs[j] := by
          have e1 := congrArg (fun l => l[0]?) HZ.out.2.2
          simp only [List.getElem?_drop, Nat.add_zero, List.getElem?_eq_getElem hjz, List.getElem?_eq_getElem hjx] at e1
          injection e1
        have r0 := hrow (j * 9) (.int .i64 xs[j].k) (by rw [← hzx]; exact (cred_get (List.getElem?_eq_getElem hjz)).1)
        have r1 := hrow (j * 9 + 1) (S xs[j].h.1) (by rw [← hzx]; exact (cred_get (List.getElem?_eq_getElem hjz)).2.1)
        have r2 := hrow (j * 9 + 2) (S xs[j].h.2) (by rw [← hzx]; exact (cred_get (List.getElem?_eq_getElem hjz)).2.2.1)
        have r3 := hrow (j * 9 + 3) (S xs[j].w) (by rw [← hzx]; exact (cred_get (List.getElem?_eq_getElem hjz)).2.2.2.1)
        have r4 := hrow (j * 9 + 4) (S xs[j].b.1) (by rw [← hzx]; exact (cred_get (List.getElem?_eq_getElem hjz)).2.2.2.2.1)
        have r5 := hrow (j * 9 + 5) (S xs[j].b.2) (by rw [← hzx]; exact (cred_get (List.getElem?_eq_getElem hjz)).2.2.2.2.2.1)
        have r6 := hrow (j * 9 + 6) (S xs[j].c.1) (by rw [← hzx]; exact (cred_get (List.getElem?_eq_getElem hjz)).2.2.2.2.2.2.1)
        have r7 := hrow (j * 9 + 7) (S xs[j].c.2) (by rw [← hzx]; exact (cred_get (List.getElem?_eq_getElem hjz)).2.2.2.2.2.2.2.1)
        have r8 := hrow (j * 9 + 8) (S xs[j].e) (by rw [← hzx]; exact (cred_get (List.getElem?_eq_getElem hjz)).2.2.2.2.2.2.2.2)
        have hts : xs.take (j + 1) = xs.take j ++ [xs[j]] := (List.take_append_getElem hjx).symm
        have hx := HP.out xs[j] (List.getElem_mem hjx)
        clear hrow hzx
        generalize xs[j] = x at *
        obtain ⟨kk, ⟨ho, hd⟩, nw, ⟨bo, bd⟩, ⟨co, cd⟩, we⟩ := x
        have HX := Lib.hid hts
        clear hts hjz hjx
        simp only at r0 r1 r2 r3 r4 r5 r6 r7 r8
        unfold S at r1 r2 r3 r4 r5 r6 r7 r8
        unfold cV S at hx
        have HQ := Lib.hid hx
        clear hx
        go_wp2_with ((first
              | ((with_reducible refine wl_alloc ?_ (fun K hK => ?_)); rfl; refine owp_alloc (o := ⟨some 7, _, _, _, _, _⟩) rfl st ?_; apply Exists.intro; apply Exists.intro; refine ⟨?_, ?_⟩; (focus (first | (go_simp; done) | (go_simp; rfl))); (clear st; intro b7 w hb st; clear hb))
              | ((with_reducible refine wl_store ?_ (fun K hK => ?_)); rfl; refine owp_store rfl st ?_; apply Exists.intro; apply Exists.intro; refine ⟨?_, ?_, ?_⟩; (focus (go_simp; try rfl)); (focus (go_simp; try rfl)); (with_reducible refine ⟨1, _, _, _, _, get1, rfl, rfl, ?_, ?_, ?_, ?_⟩); (kernel_rfl); (simp [Value.cells]); (rfl); (clear st; intro w st))); (try simp only [Value.cells, List.cons_append, List.nil_append, List.set, spl, putIt, pick, List.map_cons, List.map_nil, List.getElem?_cons_zero, List.getElem?_cons_succ, Option.getD_some, List.drop_succ_cons, List.drop_zero, List.drop_nil, List.append_nil, unB] at st); (try clear hc); have hc := st.facts; (try simp only [factsOf, blkI, blkFacts, rowI, byI, datI, nullI, oldI, penI, rdI, rdAnyI, rdOverI, Nat.zero_add, Nat.reduceAdd, and_true, true_and, and_self] at hc))
        clear r0 r1 r2 r3 r4 r5 r6 r7 r8
        refine (HQ.out _).mono ?_
        rintro en w ⟨rfl, hx⟩
        replace st := st.ext hx
        clear hx
        (try clear hc); have hc := st.facts; (try simp only [factsOf, blkI, blkFacts, rowI, byI, datI, nullI, oldI, penI, rdI, rdAnyI, rdOverI, Nat.zero_add, Nat.reduceAdd, and_true, true_and, and_self] at hc)
        by_cases hpx : p (⟨kk, (ho, hd), nw, (bo, bd), (co, cd), we⟩ : CredT) = true
        · rw [hpx]
          have HF : Hid ((xs.take (j + 1)).filter (fun x => !p x) = (xs.take j).filter (fun x => !p x) ∧ zs.drop (j + 1) = xs.drop (j + 1)) := Lib.hid ⟨by rw [HX.out, List.filter_append]; simp [hpx], by
            have := congrArg (List.drop 1) HZ.out.2.2; simpa [List.drop_drop] using this⟩
          clear hpx
          go_wp2_with fail
          have st' := st.keep [0] (by decide) (by simp)
          go_roundg (n - (j + 1))
          case measure => omega
          case rel => exact ⟨i, j + 1, zs, by omega, rfl, by omega, rfl, by go_num, Lib.hid ⟨HZ.out.1, by rw [HF.out.1]; exact HZ.out.2.1, HF.out.2⟩, by simpa [pick] using st'⟩
        · have hpx' : p (⟨kk, (ho, hd), nw, (bo, bd), (co, cd), we⟩ : CredT) = false := by simpa using hpx
          rw [hpx']
          have hiz : i < zs.length := by have := HZ.out.1; omega
          have hset := cellsL_set zs i (⟨kk, (ho, hd), nw, (bo, bd), (co, cd), we⟩ : CredT) hiz
          rw [fltCred_k, cred_cells] at hset
          have HF : Hid ((zs.set i (⟨kk, (ho, hd), nw, (bo, bd), (co, cd), we⟩ : CredT)).length = n ∧ (zs.set i (⟨kk, (ho, hd), nw, (bo, bd), (co, cd), we⟩ : CredT)).take (i + 1) = (xs.take (j + 1)).filter (fun x => !p x) ∧ (zs.set i (⟨kk, (ho, hd), nw, (bo, bd), (co, cd), we⟩ : CredT)).drop (j + 1) = xs.drop (j + 1)) := Lib.hid ⟨by simp [HZ.out.1], by
              rw [HX.out, List.filter_append, ← HZ.out.2.1]
              have : (zs.set i (⟨kk, (ho, hd), nw, (bo, bd), (co, cd), we⟩ : CredT))[i]'(by simpa using hiz) = (⟨kk, (ho, hd), nw, (bo, bd), (co, cd), we⟩ : CredT) := by simp
              rw [← List.take_append_getElem (l := zs.set i (⟨kk, (ho, hd), nw, (bo, bd), (co, cd), we⟩ : CredT)) (by simpa using hiz), this]
              rw [List.take_set, List.set_eq_of_length_le (by rw [List.length_take]; omega)]; simp [hpx'], by
              rw [List.drop_set_of_lt (by omega)]
              have := congrArg (List.drop 1) HZ.out.2.2; simpa [List.drop_drop] using this⟩
          have HSET := Lib.hid hset
          clear hpx hpx' hset hiz
          go_wp2_with ((with_reducible refine wl_store ?_ (fun K hK => ?_)); (rfl); (refine owp_storeRow' rfl st ?_; apply Exists.intro; apply Exists.intro; refine ⟨?_, ?_, ?_⟩; (focus (go_simp; try rfl)); (focus (go_simp; try rfl)); refine ⟨0, _, _, _, _, _, _, _, _, get0, rfl, rfl, ?_, ?_, ?_, ?_⟩; (kernel_rfl); (simp [Value.cells]; omega); (rfl); (clear st; intro w st)))
          simp only [List.set_cons_zero] at st
          have st' := st.keep [0] (by decide) (by simp)
          go_roundg (n - (j + 1))
          case measure => omega
          case rel => exact ⟨i + 1, j + 1, zs.set i (⟨kk, (ho, hd), nw, (bo, bd), (co, cd), we⟩ : CredT), by omega, rfl, by omega, by go_num, by go_num, HF, by rw [← HSET.out]; simpa [pick, Value.cells] using st'⟩
      · obtain rfl : j = n := by omega
        obtain ⟨inf, hinf, hz0, hz1, hz2⟩ := credInfo
        have HF : Hid (zs.take i = xs.filter (fun x => !p x)) := Lib.hid (by rw [HZ.out.2.1, List.take_of_length_le (by have := HN.out; omega)])
        go_wp2_with ((with_reducible refine wl_clear ?_ (fun K hK => ?_)); (rfl); (refine owp_clearRow' rfl st Try.underlying101 ?_; apply Exists.intro; apply Exists.intro; apply Exists.intro; refine ⟨?_, ?_⟩; (focus (go_simp; exact ⟨rfl, rfl, rfl⟩)); refine ⟨0, _, _, _, _, i, _, inf, cV zC, get0, hinf, hz0, by decide, rfl, rfl, by omega, by simp, rfl, ?_⟩; (clear st; intro w ys hy1 hy2 st)))
        simp only [List.set_cons_zero] at st
        have st2 := st.rowCut (i := 0) (k := 9) (n := j) (c := c) (g := g) (E := 97) (xs := ys) get0 i (by omega)
        have hct := cellsL_take zs i
        rw [fltCred_k] at hct
        rw [hy1, hct, HF.out, List.set_cons_zero] at st2
        go_ret
        exact ⟨i, rfl, st2⟩
end Go.Proofs.Ytpenjnccdachaaa
