/- slices.IndexFunc and slices.DeleteFunc at []Cred. -/
import Derived.Test.YtekngjkjgmplpaaGreatCredF
import Derived.Test.YtekngjkjgmplpaaGreatSets
import Derived.Shelf.SlSortCmp.NoneTotal
import Derived.Sort.OwnSorted
import Derived.Test.YtekngjkjgmplpaaGreatSortC
namespace Go.Proofs.YtekngjkjgmplpaaGreat
set_option linter.unusedSimpArgs false
set_option linter.unusedVariables false
open Go Go.RowKit
def zC : CredT := ⟨0, ([], []), [], ([], []), ([], []), []⟩
theorem cred_cells (x : CredT) : Flt.cells x = [.int .i64 x.k, .string ⟨x.h.1.toArray⟩, .string ⟨x.h.2.toArray⟩, .string ⟨x.w.toArray⟩, .string ⟨x.b.1.toArray⟩, .string ⟨x.b.2.toArray⟩, .string ⟨x.c.1.toArray⟩, .string ⟨x.c.2.toArray⟩, .string ⟨x.e.toArray⟩] := rfl
theorem credInfo : ∃ i, Tryz.prog.info? 47 = some i ∧ i.zero = some (cV zC) ∧ i.size = 9 ∧ i.bytes = 136 := info_parts (by kernel_rfl)
theorem credLen {w : World} {n : Nat} {v : Value} {E : TypeId} {xs : List CredT} (h : w.ownsRow 0 E 9 v n (cellsL xs)) : n = xs.length := by
  have := h.1
  rw [cellsL_len, fltCred_k] at this
  omega
theorem cred_get {xs : List CredT} {j : Nat} {x : CredT} (h : xs[j]? = some x) : (cellsL xs)[j * 9]? = some (.int .i64 x.k) ∧ (cellsL xs)[j * 9 + 1]? = some (S x.h.1) ∧ (cellsL xs)[j * 9 + 2]? = some (S x.h.2) ∧ (cellsL xs)[j * 9 + 3]? = some (S x.w) ∧ (cellsL xs)[j * 9 + 4]? = some (S x.b.1) ∧ (cellsL xs)[j * 9 + 5]? = some (S x.b.2) ∧ (cellsL xs)[j * 9 + 6]? = some (S x.c.1) ∧ (cellsL xs)[j * 9 + 7]? = some (S x.c.2) ∧ (cellsL xs)[j * 9 + 8]? = some (S x.e) :=
  ⟨cellsL_get (i := j) (j := 0) h (by decide), cellsL_get (i := j) (j := 1) h (by decide), cellsL_get (i := j) (j := 2) h (by decide), cellsL_get (i := j) (j := 3) h (by decide), cellsL_get (i := j) (j := 4) h (by decide), cellsL_get (i := j) (j := 5) h (by decide), cellsL_get (i := j) (j := 6) h (by decide), cellsL_get (i := j) (j := 7) h (by decide), cellsL_get (i := j) (j := 8) h (by decide)⟩
set_option maxRecDepth 100000 in
set_option maxHeartbeats 1000000 in
theorem indexFuncCred_c {fr al : Nat → Prop} {w0 w : World} {n c : Nat} {a : Option Addr} {xs : List CredT} (st : Own fr al w0 [rowI 47 9 (.slice a n c) n (cellsL xs)] w) (hn : n ≤ 2000000) (F : FuncId) (cap : Array Value) (p : CredT → Bool)
    (hi : ∀ w x, (callFunc F (#[x] ++ cap)).run Tryz.prog w = .ok (.enter F (#[x] ++ cap)) w)
    (hp : ∀ x ∈ xs, ∀ w, Calls Tryz.prog F (#[cV x] ++ cap) w fun e w' => e = .returned (.bool (p x)) ∧ Ext w w') :
    Calls Tryz.prog 109 #[.slice a n c, .func (.func F) #[] cap] w fun e w' => ∃ v, e = .returned (.int .i64 v) ∧ IxIs p xs v ∧ Own fr al w0 [rowI 47 9 (.slice a n c) n (cellsL xs)] w' := by
  have HP := Lib.hid hp
  have HN : Hid (n = xs.length) := Lib.hid (credLen (st.row (i := 0) get0))
  clear hp
  (try simp only [nsl, Value.cells, unB] at st)
  (try clear hc); have hc := st.facts; (try simp only [nfl, nft, Nat.reduceAdd] at hc)
  go_enter Tryz.func109, Tryz.ntmps109
  go_wp2_with fail
  go_loopg [8] n (fun k i wr => ∃ (j : Nat), j ≤ n ∧ k = n - j ∧ i = .int .i64 (j : Int) ∧ Hid (∀ x ∈ xs.take j, p x = false) ∧ Own fr al w0 [rowI 47 9 (.slice a n c) n (cellsL xs)] wr)
  case atStart => exact ⟨0, by omega, by omega, rfl, Lib.hid (by simp), st⟩
  case round =>
    obtain ⟨j, hj, rfl, rfl, HT, st'⟩ := hrel
    clear st hc
    have st := st'
    clear st'
    (try simp only [nsl, Value.cells, unB] at st)
    (try clear hc); have hc := st.facts; (try simp only [nfl, nft, Nat.reduceAdd] at hc)
    by_cases hjn : j < n
    · obtain ⟨g, cap', hv, hcap, hrow⟩ := st.rowAt (i := 0) get0 (by omega)
      injection hv with hv1 hv2 hv3
      subst hv1 hv3
      have hjl : j < xs.length := by have := HN.out; omega
      have r0 := hrow (j * 9) (.int .i64 xs[j].k) (cred_get (List.getElem?_eq_getElem hjl)).1
      have r1 := hrow (j * 9 + 1) (S xs[j].h.1) (cred_get (List.getElem?_eq_getElem hjl)).2.1
      have r2 := hrow (j * 9 + 2) (S xs[j].h.2) (cred_get (List.getElem?_eq_getElem hjl)).2.2.1
      have r3 := hrow (j * 9 + 3) (S xs[j].w) (cred_get (List.getElem?_eq_getElem hjl)).2.2.2.1
      have r4 := hrow (j * 9 + 4) (S xs[j].b.1) (cred_get (List.getElem?_eq_getElem hjl)).2.2.2.2.1
      have r5 := hrow (j * 9 + 5) (S xs[j].b.2) (cred_get (List.getElem?_eq_getElem hjl)).2.2.2.2.2.1
      have r6 := hrow (j * 9 + 6) (S xs[j].c.1) (cred_get (List.getElem?_eq_getElem hjl)).2.2.2.2.2.2.1
      have r7 := hrow (j * 9 + 7) (S xs[j].c.2) (cred_get (List.getElem?_eq_getElem hjl)).2.2.2.2.2.2.2.1
      have r8 := hrow (j * 9 + 8) (S xs[j].e) (cred_get (List.getElem?_eq_getElem hjl)).2.2.2.2.2.2.2.2
      have hts : xs.take (j + 1) = xs.take j ++ [xs[j]] := (List.take_append_getElem hjl).symm
      have hx := HP.out xs[j] (List.getElem_mem hjl)
      have hge := List.getElem?_eq_getElem hjl
      clear hrow
      generalize xs[j] = x at *
      obtain ⟨kk, ⟨ho, hd⟩, nw, ⟨bo, bd⟩, ⟨co, cd⟩, we⟩ := x
      have HX := Lib.hid (And.intro hts (And.intro hjl hge))
      clear hts hge hjl
      simp only at r0 r1 r2 r3 r4 r5 r6 r7 r8
      unfold S at r1 r2 r3 r4 r5 r6 r7 r8
      unfold cV S at hx
      have HQ := Lib.hid hx
      clear hx
      go_wp2_with fail
      refine (HQ.out _).mono ?_
      rintro en w ⟨rfl, hx⟩
      replace st := st.ext hx
      clear hx r0 r1 r2 r3 r4 r5 r6 r7 r8
      by_cases hpx : p (⟨kk, (ho, hd), nw, (bo, bd), (co, cd), we⟩ : CredT) = true
      · rw [hpx]
        have HF : Hid (IxIs p xs (j : Int)) := Lib.hid (.inr ⟨j, (⟨kk, (ho, hd), nw, (bo, bd), (co, cd), we⟩ : CredT), rfl, HX.out.2.1, HX.out.2.2, hpx, HT.out⟩)
        clear hpx
        go_wp2_with fail
        go_ret
        exact ⟨_, rfl, HF.out, st⟩
      · have hpx' : p (⟨kk, (ho, hd), nw, (bo, bd), (co, cd), we⟩ : CredT) = false := by simpa using hpx
        rw [hpx']
        have HF : Hid (∀ y ∈ xs.take (j + 1), p y = false) := Lib.hid (fun y hy => by
          rw [HX.out.1] at hy
          rcases List.mem_append.1 hy with q | q
          · exact HT.out y q
          · rw [List.mem_singleton.1 q]; exact hpx')
        clear hpx hpx'
        go_wp2_with fail
        go_roundg (n - (j + 1))
        case measure => omega
        case rel => exact ⟨j + 1, by omega, rfl, by go_num, HF, st⟩
    · obtain rfl : j = n := by omega
      have HF : Hid (IxIs p xs (-1)) := Lib.hid (.inl ⟨rfl, by have := HT.out; rwa [List.take_of_length_le (by have := HN.out; omega)] at this⟩)
      go_wp2_with fail
      go_ret
      exact ⟨_, rfl, HF.out, st⟩
set_option maxRecDepth 100000 in
set_option maxHeartbeats 2000000 in
theorem deleteFuncCred_c {fr al : Nat → Prop} {w0 w : World} {n c : Nat} {a : Option Addr} {xs : List CredT} (st : Own fr al w0 [rowI 47 9 (.slice a n c) n (cellsL xs)] w) (hn : n ≤ 2000000) (F : FuncId) (cap : Array Value) (p : CredT → Bool)
    (hi : ∀ w x, (callFunc F (#[x] ++ cap)).run Tryz.prog w = .ok (.enter F (#[x] ++ cap)) w)
    (hp : ∀ x ∈ xs, ∀ w, Calls Tryz.prog F (#[cV x] ++ cap) w fun e w' => e = .returned (.bool (p x)) ∧ Ext w w') :
    Calls Tryz.prog 87 #[.slice a n c, .func (.func F) #[] cap] w fun e w' => ∃ m, e = .returned (.slice a m c) ∧ Own fr al w0 [rowI 47 9 (.slice a m c) m (cellsL (xs.filter fun x => !p x))] w' := by
  have HP := Lib.hid hp
  have HN : Hid (n = xs.length) := Lib.hid (credLen (st.row (i := 0) get0))
  clear hp
  (try simp only [nsl, Value.cells, unB] at st)
  (try clear hc); have hc := st.facts; (try simp only [nfl, nft, Nat.reduceAdd] at hc)
  go_enter Tryz.func87, Tryz.ntmps87
  go_wp2_with fail
  refine (indexFuncCred_c st hn F cap p hi HP.out).mono ?_
  clear st
  rintro en w ⟨v, rfl, hix, st⟩
  rcases hix with ⟨rfl, hall⟩ | ⟨i0, y, rfl, hil, hiy, hpy, hpre⟩
  · have HF : Hid (xs.filter (fun x => !p x) = xs) := Lib.hid (List.filter_eq_self.2 fun x hx => by simp [hall x hx])
    clear hall
    go_wp2_with fail
    go_ret
    exact ⟨n, rfl, by rw [HF.out]; exact st⟩
  · obtain ⟨g, cap', hv, hcap, hrow⟩ := st.rowAt (i := 0) get0 (by have := HN.out; omega)
    injection hv with hv1 hv2 hv3
    subst hv1 hv3
    clear hrow
    have hi0 : i0 < n := by have := HN.out; omega
    have HS : Hid (xs.take i0 = (xs.take (i0 + 1)).filter (fun x => !p x)) := Lib.hid (by
      have e1 : xs[i0] = y := by rw [List.getElem?_eq_getElem hil] at hiy; injection hiy
      rw [← List.take_append_getElem hil, List.filter_append, e1]
      simp only [List.filter_cons, hpy]
      simp
      exact (List.filter_eq_self.2 fun x hx => by simp [hpre x hx]).symm)
    have hcap2 : c ≤ 9223372036854775807 := by have := hcap.2; simpa [maxLen] using this
    have hcap1 := hcap.1
    clear hil hiy hpy hpre hcap
    have hb1 : ((i0 : Int) == -1) = false := by simp
    go_wp2_with fail
    go_loopg [5, 6] (n - (i0 + 1)) (fun k vi vj wr => ∃ (i j : Nat) (zs : List CredT), j ≤ n ∧ k = n - j ∧ i < j ∧ vi = .int .i64 (i : Int) ∧ vj = .int .i64 (j : Int) ∧ Hid (zs.length = n ∧ zs.take i = (xs.take j).filter (fun x => !p x) ∧ zs.drop j = xs.drop j) ∧ Own fr al w0 [rowI 47 9 (.slice (some ⟨g, 0, none⟩) n c) n (cellsL zs)] wr)
    case atStart => exact ⟨i0, i0 + 1, xs, by omega, by omega, by omega, rfl, by go_num, Lib.hid ⟨HN.out.symm, HS.out, rfl⟩, st⟩
    case round =>
      obtain ⟨i, j, zs, hj, rfl, hij, rfl, rfl, HZ, st'⟩ := hrel
      clear st
      have st := st'
      clear st'
      (try simp only [nsl, Value.cells, unB] at st)
      (try clear hc); have hc := st.facts; (try simp only [nfl, nft, Nat.reduceAdd] at hc)
      by_cases hjn : j < n
      · obtain ⟨g', cap', hv, hcap, hrow⟩ := st.rowAt (i := 0) get0 (by omega)
        injection hv with hv1 hv2 hv3
        injection hv1 with hv1
        injection hv1 with hv1 _ _
        subst hv1 hv3
        have hjz : j < zs.length := by have := HZ.out.1; omega
        have hjx : j < xs.length := by have := HN.out; omega
        have hzx : zs[j] = xs[j] := by
          have e1 := congrArg (fun l => l[0]?) HZ.out.2.2
          simp only [List.getElem?_drop, Nat.add_zero, List.getElem?_eq_getElem hjz, List.getElem?_eq_getElem hjx] at e1
          injection e1
        have r0 := hrow (j * 9) (.int .i64 xs[j].k) (by rw [← hzx]; exact (cred_get (List.getElem?_eq_getElem hjz)).1)
        have r1 := hrow (j * 9 + 1) (S xs[j].h.1) (by rw [← hzx]; exact (cred_get (List.getElem?_eq_getElem hjz)).2.1)
        have r2 := hrow (j * 9 + 2) (S xs[j].h.2) (by rw [← hzx]; exact (cred_get (List.getElem?_eq_getElem hjz)).2.2.1)
        have r3 := hrow (j * 9 + 3) (S xs[j].w) (by rw [← hzx]; exact (cred_get (List.getElem?_eq_getElem hjz)).2.2.2.1)
        have r4 := hrow (j * 9 + 4) (S xs[j].b.1) (by rw [← hzx]; exact (cred_get (List.getElem?_eq_getElem hjz)).2.2.2.2.1)
        have r5 := hrow (j * 9 + 5) (S xs[j].b.2) (by rw [← hzx]; exact (cred_get (List.getElem?_eq_getElem hjz)).2.2.2.2.2.1)
        have r6 := hrow (j * 9 + 6) (S xs[j].c.1) (by rw [← hzx]; exact (cred_get (List.getElem?_eq_getElem hjz)).2.2.2.2.2.2.1)
        have r7 := hrow (j * 9 + 7) (S xs[j].c.2) (by rw [← hzx]; exact (cred_get (List.getElem?_eq_getElem hjz)).2.2.2.2.2.2.2.1)
        have r8 := hrow (j * 9 + 8) (S xs[j].e) (by rw [← hzx]; exact (cred_get (List.getElem?_eq_getElem hjz)).2.2.2.2.2.2.2.2)
        have hts : xs.take (j + 1) = xs.take j ++ [xs[j]] := (List.take_append_getElem hjx).symm
        have hx := HP.out xs[j] (List.getElem_mem hjx)
        clear hrow hzx
        generalize xs[j] = x at *
        obtain ⟨kk, ⟨ho, hd⟩, nw, ⟨bo, bd⟩, ⟨co, cd⟩, we⟩ := x
        have HX := Lib.hid hts
        clear hts hjz hjx
        simp only at r0 r1 r2 r3 r4 r5 r6 r7 r8
        unfold S at r1 r2 r3 r4 r5 r6 r7 r8
        unfold cV S at hx
        have HQ := Lib.hid hx
        clear hx
        go_wp2_with ((first
              | ((with_reducible refine wl_alloc ?_ (fun K hK => ?_)); rfl; refine owp_alloc (o := ⟨some 7, _, _, _, _, _⟩) rfl st ?_; apply Exists.intro; apply Exists.intro; refine ⟨?_, ?_⟩; (focus (first | (go_simp; done) | (go_simp; rfl))); (clear st; intro b7 w hb st; clear hb))
              | ((with_reducible refine wl_store ?_ (fun K hK => ?_)); rfl; refine owp_store rfl st ?_; apply Exists.intro; apply Exists.intro; refine ⟨?_, ?_, ?_⟩; (focus (go_simp; try rfl)); (focus (go_simp; try rfl)); (with_reducible refine ⟨1, _, _, _, _, get1, rfl, rfl, ?_, ?_, ?_, ?_⟩); (kernel_rfl); (simp [Value.cells]); (rfl); (clear st; intro w st))); (try simp only [nsl, Value.cells, unB] at st); (try clear hc); have hc := st.facts; (try simp only [nfl, nft, Nat.reduceAdd] at hc))
        clear r0 r1 r2 r3 r4 r5 r6 r7 r8
        refine (HQ.out _).mono ?_
        rintro en w ⟨rfl, hx⟩
        replace st := st.ext hx
        clear hx
        (try clear hc); have hc := st.facts; (try simp only [nfl, nft, Nat.reduceAdd] at hc)
        by_cases hpx : p (⟨kk, (ho, hd), nw, (bo, bd), (co, cd), we⟩ : CredT) = true
        · rw [hpx]
          have HF : Hid ((xs.take (j + 1)).filter (fun x => !p x) = (xs.take j).filter (fun x => !p x) ∧ zs.drop (j + 1) = xs.drop (j + 1)) := Lib.hid ⟨by rw [HX.out, List.filter_append]; simp [hpx], by
            have := congrArg (List.drop 1) HZ.out.2.2; simpa [List.drop_drop] using this⟩
          clear hpx
          go_wp2_with fail
          have st' := st.keep [0] (by decide) (by simp)
          go_roundg (n - (j + 1))
          case measure => omega
          case rel => exact ⟨i, j + 1, zs, by omega, rfl, by omega, rfl, by go_num, Lib.hid ⟨HZ.out.1, by rw [HF.out.1]; exact HZ.out.2.1, HF.out.2⟩, by simpa [pick] using st'⟩
        · have hpx' : p (⟨kk, (ho, hd), nw, (bo, bd), (co, cd), we⟩ : CredT) = false := by simpa using hpx
          rw [hpx']
          have hiz : i < zs.length := by have := HZ.out.1; omega
          have hset := cellsL_set zs i (⟨kk, (ho, hd), nw, (bo, bd), (co, cd), we⟩ : CredT) hiz
          rw [fltCred_k, cred_cells] at hset
          have HF : Hid ((zs.set i (⟨kk, (ho, hd), nw, (bo, bd), (co, cd), we⟩ : CredT)).length = n ∧ (zs.set i (⟨kk, (ho, hd), nw, (bo, bd), (co, cd), we⟩ : CredT)).take (i + 1) = (xs.take (j + 1)).filter (fun x => !p x) ∧ (zs.set i (⟨kk, (ho, hd), nw, (bo, bd), (co, cd), we⟩ : CredT)).drop (j + 1) = xs.drop (j + 1)) := Lib.hid ⟨by simp [HZ.out.1], by
              rw [HX.out, List.filter_append, ← HZ.out.2.1]
              have : (zs.set i (⟨kk, (ho, hd), nw, (bo, bd), (co, cd), we⟩ : CredT))[i]'(by simpa using hiz) = (⟨kk, (ho, hd), nw, (bo, bd), (co, cd), we⟩ : CredT) := by simp
              rw [← List.take_append_getElem (l := zs.set i (⟨kk, (ho, hd), nw, (bo, bd), (co, cd), we⟩ : CredT)) (by simpa using hiz), this]
              rw [List.take_set, List.set_eq_of_length_le (by rw [List.length_take]; omega)]; simp [hpx'], by
              rw [List.drop_set_of_lt (by omega)]
              have := congrArg (List.drop 1) HZ.out.2.2; simpa [List.drop_drop] using this⟩
          have HSET := Lib.hid hset
          clear hpx hpx' hset hiz
          go_wp2_with ((with_reducible refine wl_store ?_ (fun K hK => ?_)); (rfl); (refine owp_storeRow' rfl st ?_; apply Exists.intro; apply Exists.intro; refine ⟨?_, ?_, ?_⟩; (focus (go_simp; try rfl)); (focus (go_simp; try rfl)); refine ⟨0, _, _, _, _, _, _, _, _, get0, rfl, rfl, ?_, ?_, ?_, ?_⟩; (kernel_rfl); (simp [Value.cells]; omega); (rfl); (clear st; intro w st)))
          simp only [List.set_cons_zero] at st
          have st' := st.keep [0] (by decide) (by simp)
          go_roundg (n - (j + 1))
          case measure => omega
          case rel => exact ⟨i + 1, j + 1, zs.set i (⟨kk, (ho, hd), nw, (bo, bd), (co, cd), we⟩ : CredT), by omega, rfl, by omega, by go_num, by go_num, HF, by rw [← HSET.out]; simpa [pick, Value.cells] using st'⟩
      · obtain rfl : j = n := by omega
        obtain ⟨inf, hinf, hz0, hz1, hz2⟩ := credInfo
        have HF : Hid (zs.take i = xs.filter (fun x => !p x)) := Lib.hid (by rw [HZ.out.2.1, List.take_of_length_le (by have := HN.out; omega)])
        go_wp2_with ((with_reducible refine wl_clear ?_ (fun K hK => ?_)); (rfl); (refine owp_clearRow' rfl st Tryz.underlying88 ?_; apply Exists.intro; apply Exists.intro; apply Exists.intro; refine ⟨?_, ?_⟩; (focus (go_simp; exact ⟨rfl, rfl, rfl⟩)); refine ⟨0, _, _, _, _, i, _, inf, cV zC, get0, hinf, hz0, by decide, rfl, rfl, by omega, by simp, rfl, ?_⟩; (clear st; intro w ys hy1 hy2 st)))
        simp only [List.set_cons_zero] at st
        have st2 := st.rowCut (i := 0) (k := 9) (n := j) (c := c) (g := g) (E := 47) (xs := ys) get0 i (by omega)
        have hct := cellsL_take zs i
        rw [fltCred_k] at hct
        rw [hy1, hct, HF.out, List.set_cons_zero] at st2
        go_ret
        exact ⟨i, rfl, st2⟩
end Go.Proofs.YtekngjkjgmplpaaGreat

namespace Go.Proofs.YtekngjkjgmplpaaGreat
set_option linter.unusedSimpArgs false
set_option linter.unusedVariables false
open Go Go.RowKit
set_option maxRecDepth 100000 in
set_option maxHeartbeats 2000000 in
theorem compactCred_c {fr al : Nat → Prop} {w0 w : World} {n c : Nat} {a : Option Addr} {xs : List CredT} (st : Own fr al w0 [rowI 47 9 (.slice a n c) n (cellsL xs)] w) (hn : n ≤ 2000000) :
    Calls Tryz.prog 92 #[.slice a n c] w fun e w' => ∃ m, e = .returned (.slice a m c) ∧ Own fr al w0 [rowI 47 9 (.slice a m c) m (cellsL (Lib.compact xs))] w' := by
  have HN : Hid (n = xs.length) := Lib.hid (credLen (st.row (i := 0) get0))
  (try simp only [nsl, Value.cells, unB] at st)
  (try clear hc); have hc := st.facts; (try simp only [nfl, nft, Nat.reduceAdd] at hc)
  by_cases hn2 : n < 2
  · have HC : Hid (Lib.compact xs = xs) := Lib.hid (by
      rw [← cup_all, ← HN.out]
      match n, hn2, HN.out with
      | 0, _, h => rw [List.eq_nil_of_length_eq_zero h.symm]; rfl
      | 1, _, h => rw [cup_one (by omega), List.take_of_length_le (by omega)])
    go_enter Tryz.func92, Tryz.ntmps92
    go_wp2_with fail
    go_ret
    exact ⟨n, rfl, by rw [HC.out]; exact st⟩
  obtain ⟨g, cap', hv, hcap, hrow⟩ := st.rowAt (i := 0) get0 (by omega)
  injection hv with hv1 hv2 hv3
  subst hv1 hv3
  clear hrow
  have hcap2 : c ≤ 9223372036854775807 := by have := hcap.2; simpa [maxLen] using this
  have hcap1 := hcap.1
  clear hcap
  go_enter Tryz.func92, Tryz.ntmps92
  go_wp2_with fail
  go_loopg [3] (n - 1) (fun k vi wr => ∃ (j : Nat), 1 ≤ j ∧ j ≤ n ∧ k = n - j ∧ vi = .int .i64 (j : Int) ∧ Hid (cup xs j = xs.take j) ∧ Own fr al w0 [rowI 47 9 (.slice (some ⟨g, 0, none⟩) n c) n (cellsL xs)] wr)
  case atStart => exact ⟨1, by omega, by omega, by omega, rfl, Lib.hid (cup_one (by have := HN.out; omega)), st⟩
  case round =>
    obtain ⟨j, hj1, hj, rfl, rfl, HT, st'⟩ := hrel
    clear st hc
    have st := st'
    clear st'
    (try simp only [nsl, Value.cells, unB] at st)
    (try clear hc); have hc := st.facts; (try simp only [nfl, nft, Nat.reduceAdd] at hc)
    by_cases hjn : j < n
    · obtain ⟨q, hq⟩ : ∃ q, j = q + 1 := ⟨j - 1, by omega⟩
      have hw : IntKind.i64.wrap ((j : Int) - 1) = (q : Int) := by rw [IntWalk.i64_in _ ⟨by omega, by omega⟩]; omega
      have hjl : j < xs.length := by have := HN.out; omega
      have hql : q < xs.length := by omega
      obtain ⟨x, hx⟩ : ∃ x, xs[j]? = some x := ⟨_, List.getElem?_eq_getElem hjl⟩
      obtain ⟨y, hy⟩ : ∃ y, xs[q]? = some y := ⟨_, List.getElem?_eq_getElem hql⟩
      have HR := Lib.hid (And.intro (cred_get hx) (cred_get hy))
      have HST := Lib.hid (cup_step hq hx hy)
      have HTK : Hid (xs.take (j + 1) = xs.take j ++ [x]) := Lib.hid (by rw [List.take_add_one, hx]; rfl)
      clear hx hy hjl
      obtain ⟨kk, ⟨ho, hd⟩, nw, ⟨bo, bd⟩, ⟨co, cd⟩, we⟩ := x
      obtain ⟨kk', ⟨ho', hd'⟩, nw', ⟨bo', bd'⟩, ⟨co', cd'⟩, we'⟩ := y
      simp only at HR
      unfold S at HR
      have hql2 : q < n := by omega
      have HQ := Lib.hid hq
      clear hq hql
      go_wp2_with fail
      refine Rg4.wp_region4_eq #[0, 0, 3, 7, 0, 0, 32, 112, 240, 511] [] [3, 8] (fun _ => True) [0, 1, 2, 3, 4, 5, 6, 7, 8, 9] (by kernel_rfl) (by kernel_rfl) (by kernel_rfl) (by kernel_rfl) (show Rg4.PB _ by repeat (first | with_reducible exact Rg4.pb_body | with_reducible exact Rg4.pb_bodyD rfl | with_reducible refine Rg4.pb_then ?_ | with_reducible refine Rg4.pb_inBlock ?_ | with_reducible refine Rg4.pb_noGoto ?_)) (trivial) ?_
      replace st := st.drew
      change Rg4.wp4 _ _ _ _ _ _ _ _ _ (World.drew _) _ _
      generalize World.drew _ = w at st ⊢
      (try clear hc); have hc := st.facts; (try simp only [nfl, nft, Nat.reduceAdd] at hc)
      iterate 3 (refine Rg4.w4_any (Rg4.want_none rfl) rfl ?_; apply Exists.intro; refine ⟨fun w' => ?_, ?_⟩; (focus (first | (go_simp; done) | (go_simp; first | rfl | (rw [if_neg] <;> first | rfl | omega) | (rw [if_pos] <;> first | rfl | omega)))); (try simp only [Rg4.nrm]))
      (refine Rg4.w4_read (Rg4.want_none rfl) rfl rfl ?_; apply Exists.intro; refine ⟨fun w' hw' hcl' => ?_, ?_⟩; focus (subst hw'; have r0 := st.rowC (i := 0) get0 _ _ HR.out.1.1; have r1 := st.rowC (i := 0) get0 _ _ HR.out.1.2.1; have r2 := st.rowC (i := 0) get0 _ _ HR.out.1.2.2.1; have r3 := st.rowC (i := 0) get0 _ _ HR.out.1.2.2.2.1; have r4 := st.rowC (i := 0) get0 _ _ HR.out.1.2.2.2.2.1; have r5 := st.rowC (i := 0) get0 _ _ HR.out.1.2.2.2.2.2.1; have r6 := st.rowC (i := 0) get0 _ _ HR.out.1.2.2.2.2.2.2.1; have r7 := st.rowC (i := 0) get0 _ _ HR.out.1.2.2.2.2.2.2.2.1; have r8 := st.rowC (i := 0) get0 _ _ HR.out.1.2.2.2.2.2.2.2.2; have s0 := st.rowC (i := 0) get0 _ _ HR.out.2.1; have s1 := st.rowC (i := 0) get0 _ _ HR.out.2.2.1; have s2 := st.rowC (i := 0) get0 _ _ HR.out.2.2.2.1; have s3 := st.rowC (i := 0) get0 _ _ HR.out.2.2.2.2.1; have s4 := st.rowC (i := 0) get0 _ _ HR.out.2.2.2.2.2.1; have s5 := st.rowC (i := 0) get0 _ _ HR.out.2.2.2.2.2.2.1; have s6 := st.rowC (i := 0) get0 _ _ HR.out.2.2.2.2.2.2.2.1; have s7 := st.rowC (i := 0) get0 _ _ HR.out.2.2.2.2.2.2.2.2.1; have s8 := st.rowC (i := 0) get0 _ _ HR.out.2.2.2.2.2.2.2.2.2; (focus (first | (go_simp; done) | (go_simp; first | rfl | (rw [if_neg] <;> first | rfl | omega) | (rw [if_pos] <;> first | rfl | omega))))); (try simp only [Rg4.nrm]))
      iterate 4 (refine Rg4.w4_any (Rg4.want_none rfl) rfl ?_; apply Exists.intro; refine ⟨fun w' => ?_, ?_⟩; (focus (first | (go_simp; done) | (go_simp; first | rfl | (rw [if_neg] <;> first | rfl | omega) | (rw [if_pos] <;> first | rfl | omega)))); (try simp only [Rg4.nrm]))
      (refine Rg4.w4_read (Rg4.want_none rfl) rfl rfl ?_; apply Exists.intro; refine ⟨fun w' hw' hcl' => ?_, ?_⟩; focus (subst hw'; have r0 := st.rowC (i := 0) get0 _ _ HR.out.1.1; have r1 := st.rowC (i := 0) get0 _ _ HR.out.1.2.1; have r2 := st.rowC (i := 0) get0 _ _ HR.out.1.2.2.1; have r3 := st.rowC (i := 0) get0 _ _ HR.out.1.2.2.2.1; have r4 := st.rowC (i := 0) get0 _ _ HR.out.1.2.2.2.2.1; have r5 := st.rowC (i := 0) get0 _ _ HR.out.1.2.2.2.2.2.1; have r6 := st.rowC (i := 0) get0 _ _ HR.out.1.2.2.2.2.2.2.1; have r7 := st.rowC (i := 0) get0 _ _ HR.out.1.2.2.2.2.2.2.2.1; have r8 := st.rowC (i := 0) get0 _ _ HR.out.1.2.2.2.2.2.2.2.2; have s0 := st.rowC (i := 0) get0 _ _ HR.out.2.1; have s1 := st.rowC (i := 0) get0 _ _ HR.out.2.2.1; have s2 := st.rowC (i := 0) get0 _ _ HR.out.2.2.2.1; have s3 := st.rowC (i := 0) get0 _ _ HR.out.2.2.2.2.1; have s4 := st.rowC (i := 0) get0 _ _ HR.out.2.2.2.2.2.1; have s5 := st.rowC (i := 0) get0 _ _ HR.out.2.2.2.2.2.2.1; have s6 := st.rowC (i := 0) get0 _ _ HR.out.2.2.2.2.2.2.2.1; have s7 := st.rowC (i := 0) get0 _ _ HR.out.2.2.2.2.2.2.2.2.1; have s8 := st.rowC (i := 0) get0 _ _ HR.out.2.2.2.2.2.2.2.2.2; (focus (first | (go_simp; done) | (go_simp; first | rfl | (rw [if_neg] <;> first | rfl | omega) | (rw [if_pos] <;> first | rfl | omega))))); (try simp only [Rg4.nrm]))
      (refine Rg4.w4_any (Rg4.want_none rfl) rfl ?_; apply Exists.intro; refine ⟨fun w' => ?_, ?_⟩; (focus (first | (go_simp; done) | (go_simp; first | rfl | (rw [if_neg] <;> first | rfl | omega) | (rw [if_pos] <;> first | rfl | omega)))); (try simp only [Rg4.nrm]))
      refine Rg4.w4_nil (fun w' hw' hcl' _ => ?_); subst hw'; clear hcl'
      cases hxy : credEq (⟨kk, (ho, hd), nw, (bo, bd), (co, cd), we⟩ : CredT) (⟨kk', (ho', hd'), nw', (bo', bd'), (co', cd'), we'⟩ : CredT) with
      | false =>
        have HF : Hid (cup xs (j + 1) = xs.take (j + 1)) := Lib.hid (by rw [credEq_eq, decide_eq_false_iff_not] at hxy; rw [HST.out, if_neg hxy, HT.out, HTK.out])
        clear hxy
        go_wp2_with fail
        go_roundg (n - (j + 1))
        case measure => omega
        case rel => exact ⟨j + 1, by omega, by omega, by omega, by go_num, HF, st⟩
      | true =>
        have HF : Hid (cup xs (j + 1) = xs.take j) := Lib.hid (by rw [credEq_eq, decide_eq_true_eq] at hxy; rw [HST.out, if_pos hxy, HT.out, List.append_nil])
        clear hxy hw
        go_wp2_with fail
        go_loopg [3, 5] (n - j - 1) (fun k vi vr wr => ∃ (i r : Nat) (zs : List CredT), 1 ≤ r ∧ j + r ≤ n ∧ k = n - j - r ∧ i < j + r ∧ vi = .int .i64 (i : Int) ∧ vr = .int .i64 (r : Int) ∧ Hid (zs.length = n ∧ zs.take i = cup xs (j + r) ∧ ∀ q, j + r ≤ q + 1 → zs[q]? = xs[q]?) ∧ Own fr al w0 [rowI 47 9 (.slice (some ⟨g, 0, none⟩) n c) n (cellsL zs)] wr)
        case atStart => exact ⟨j, 1, xs, by omega, by omega, by omega, by omega, rfl, rfl, Lib.hid ⟨HN.out.symm, HF.out.symm, fun _ _ => rfl⟩, st⟩
        case round =>
          obtain ⟨i, r, zs, hr1, hrj, rfl, hir, rfl, rfl, HZ, st'⟩ := hrel
          clear st hc HR HST HTK HF
          have st := st'
          clear st'
          (try simp only [nsl, Value.cells, unB] at st)
          (try clear hc); have hc := st.facts; (try simp only [nfl, nft, Nat.reduceAdd] at hc)
          by_cases hrn : r < n - j
          · obtain ⟨s, hs⟩ : ∃ s, r = s + 1 := ⟨r - 1, by omega⟩
            have hw : IntKind.i64.wrap ((r : Int) - 1) = (s : Int) := by rw [IntWalk.i64_in _ ⟨by omega, by omega⟩]; omega
            have hjl : j + r < xs.length := by have := HN.out; omega
            have hql : j + s < xs.length := by omega
            obtain ⟨x, hx⟩ : ∃ x, xs[j + r]? = some x := ⟨_, List.getElem?_eq_getElem hjl⟩
            obtain ⟨y, hy⟩ : ∃ y, xs[j + s]? = some y := ⟨_, List.getElem?_eq_getElem hql⟩
            have hzx := (HZ.out.2.2 (j + r) (by omega)).trans hx
            have hzy := (HZ.out.2.2 (j + s) (by omega)).trans hy
            have HR := Lib.hid (And.intro (cred_get hzx) (cred_get hzy))
            have HST := Lib.hid (cup_step (by omega : j + r = j + s + 1) hx hy)
            clear hx hy hzx hzy hjl
            obtain ⟨kk, ⟨ho, hd⟩, nw, ⟨bo, bd⟩, ⟨co, cd⟩, we⟩ := x
            obtain ⟨kk', ⟨ho', hd'⟩, nw', ⟨bo', bd'⟩, ⟨co', cd'⟩, we'⟩ := y
            simp only [Nat.add_mul] at HR
            unfold S at HR
            have hql2 : s < n - j := by omega
            have HS := Lib.hid hs
            clear hs hql
            go_wp2_with fail
            refine Rg4.wp_region4_eq #[0, 0, 3, 7, 0, 0, 32, 112, 240, 511] [] [3, 8] (fun _ => True) [0, 1, 2, 3, 4, 5, 6, 7, 8, 9] (by kernel_rfl) (by kernel_rfl) (by kernel_rfl) (by kernel_rfl) (show Rg4.PB _ by repeat (first | with_reducible exact Rg4.pb_body | with_reducible exact Rg4.pb_bodyD rfl | with_reducible refine Rg4.pb_then ?_ | with_reducible refine Rg4.pb_inBlock ?_ | with_reducible refine Rg4.pb_noGoto ?_)) (trivial) ?_
            replace st := st.drew
            change Rg4.wp4 _ _ _ _ _ _ _ _ _ (World.drew _) _ _
            generalize World.drew _ = w at st ⊢
            (try clear hc); have hc := st.facts; (try simp only [nfl, nft, Nat.reduceAdd] at hc)
            iterate 3 (refine Rg4.w4_any (Rg4.want_none rfl) rfl ?_; apply Exists.intro; refine ⟨fun w' => ?_, ?_⟩; (focus (first | (go_simp; done) | (go_simp; first | rfl | (rw [if_neg] <;> first | rfl | omega) | (rw [if_pos] <;> first | rfl | omega)))); (try simp only [Rg4.nrm]))
            (refine Rg4.w4_read (Rg4.want_none rfl) rfl rfl ?_; apply Exists.intro; refine ⟨fun w' hw' hcl' => ?_, ?_⟩; focus (subst hw'; have r0 := st.rowC (i := 0) get0 _ _ HR.out.1.1; have r1 := st.rowC (i := 0) get0 _ _ HR.out.1.2.1; have r2 := st.rowC (i := 0) get0 _ _ HR.out.1.2.2.1; have r3 := st.rowC (i := 0) get0 _ _ HR.out.1.2.2.2.1; have r4 := st.rowC (i := 0) get0 _ _ HR.out.1.2.2.2.2.1; have r5 := st.rowC (i := 0) get0 _ _ HR.out.1.2.2.2.2.2.1; have r6 := st.rowC (i := 0) get0 _ _ HR.out.1.2.2.2.2.2.2.1; have r7 := st.rowC (i := 0) get0 _ _ HR.out.1.2.2.2.2.2.2.2.1; have r8 := st.rowC (i := 0) get0 _ _ HR.out.1.2.2.2.2.2.2.2.2; have s0 := st.rowC (i := 0) get0 _ _ HR.out.2.1; have s1 := st.rowC (i := 0) get0 _ _ HR.out.2.2.1; have s2 := st.rowC (i := 0) get0 _ _ HR.out.2.2.2.1; have s3 := st.rowC (i := 0) get0 _ _ HR.out.2.2.2.2.1; have s4 := st.rowC (i := 0) get0 _ _ HR.out.2.2.2.2.2.1; have s5 := st.rowC (i := 0) get0 _ _ HR.out.2.2.2.2.2.2.1; have s6 := st.rowC (i := 0) get0 _ _ HR.out.2.2.2.2.2.2.2.1; have s7 := st.rowC (i := 0) get0 _ _ HR.out.2.2.2.2.2.2.2.2.1; have s8 := st.rowC (i := 0) get0 _ _ HR.out.2.2.2.2.2.2.2.2.2; (focus (first | (go_simp; done) | (go_simp; first | rfl | (rw [if_neg] <;> first | rfl | omega) | (rw [if_pos] <;> first | rfl | omega))))); (try simp only [Rg4.nrm]))
            iterate 4 (refine Rg4.w4_any (Rg4.want_none rfl) rfl ?_; apply Exists.intro; refine ⟨fun w' => ?_, ?_⟩; (focus (first | (go_simp; done) | (go_simp; first | rfl | (rw [if_neg] <;> first | rfl | omega) | (rw [if_pos] <;> first | rfl | omega)))); (try simp only [Rg4.nrm]))
            (refine Rg4.w4_read (Rg4.want_none rfl) rfl rfl ?_; apply Exists.intro; refine ⟨fun w' hw' hcl' => ?_, ?_⟩; focus (subst hw'; have r0 := st.rowC (i := 0) get0 _ _ HR.out.1.1; have r1 := st.rowC (i := 0) get0 _ _ HR.out.1.2.1; have r2 := st.rowC (i := 0) get0 _ _ HR.out.1.2.2.1; have r3 := st.rowC (i := 0) get0 _ _ HR.out.1.2.2.2.1; have r4 := st.rowC (i := 0) get0 _ _ HR.out.1.2.2.2.2.1; have r5 := st.rowC (i := 0) get0 _ _ HR.out.1.2.2.2.2.2.1; have r6 := st.rowC (i := 0) get0 _ _ HR.out.1.2.2.2.2.2.2.1; have r7 := st.rowC (i := 0) get0 _ _ HR.out.1.2.2.2.2.2.2.2.1; have r8 := st.rowC (i := 0) get0 _ _ HR.out.1.2.2.2.2.2.2.2.2; have s0 := st.rowC (i := 0) get0 _ _ HR.out.2.1; have s1 := st.rowC (i := 0) get0 _ _ HR.out.2.2.1; have s2 := st.rowC (i := 0) get0 _ _ HR.out.2.2.2.1; have s3 := st.rowC (i := 0) get0 _ _ HR.out.2.2.2.2.1; have s4 := st.rowC (i := 0) get0 _ _ HR.out.2.2.2.2.2.1; have s5 := st.rowC (i := 0) get0 _ _ HR.out.2.2.2.2.2.2.1; have s6 := st.rowC (i := 0) get0 _ _ HR.out.2.2.2.2.2.2.2.1; have s7 := st.rowC (i := 0) get0 _ _ HR.out.2.2.2.2.2.2.2.2.1; have s8 := st.rowC (i := 0) get0 _ _ HR.out.2.2.2.2.2.2.2.2.2; (focus (first | (go_simp; done) | (go_simp; first | rfl | (rw [if_neg] <;> first | rfl | omega) | (rw [if_pos] <;> first | rfl | omega))))); (try simp only [Rg4.nrm]))
            (refine Rg4.w4_any (Rg4.want_none rfl) rfl ?_; apply Exists.intro; refine ⟨fun w' => ?_, ?_⟩; (focus (first | (go_simp; done) | (go_simp; first | rfl | (rw [if_neg] <;> first | rfl | omega) | (rw [if_pos] <;> first | rfl | omega)))); (try simp only [Rg4.nrm]))
            refine Rg4.w4_nil (fun w' hw' hcl' _ => ?_); subst hw'; clear hcl'
            cases hxy : credEq (⟨kk, (ho, hd), nw, (bo, bd), (co, cd), we⟩ : CredT) (⟨kk', (ho', hd'), nw', (bo', bd'), (co', cd'), we'⟩ : CredT) with
            | true =>
              have hb : (!true) = false := rfl
              have HF : Hid (cup xs (j + (r + 1)) = cup xs (j + r)) := Lib.hid (by rw [credEq_eq, decide_eq_true_eq] at hxy; rw [← Nat.add_assoc, HST.out, if_pos hxy, List.append_nil])
              clear hxy
              simp only [hb]
              go_wp2_with fail
              go_roundg (n - j - (r + 1))
              case measure => omega
              case rel => exact ⟨i, r + 1, zs, by omega, by omega, rfl, by omega, rfl, by go_num, Lib.hid ⟨HZ.out.1, by rw [HF.out]; exact HZ.out.2.1, fun q hq => HZ.out.2.2 q (by omega)⟩, st⟩
            | false =>
              have hb : (!false) = true := rfl
              have HF : Hid (cup xs (j + (r + 1)) = cup xs (j + r) ++ [(⟨kk, (ho, hd), nw, (bo, bd), (co, cd), we⟩ : CredT)]) := Lib.hid (by rw [credEq_eq, decide_eq_false_iff_not] at hxy; rw [← Nat.add_assoc, HST.out, if_neg hxy])
              clear hxy
              simp only [hb]
              have r0 := st.rowC (i := 0) get0 _ _ HR.out.1.1
              have r1 := st.rowC (i := 0) get0 _ _ HR.out.1.2.1
              have r2 := st.rowC (i := 0) get0 _ _ HR.out.1.2.2.1
              have r3 := st.rowC (i := 0) get0 _ _ HR.out.1.2.2.2.1
              have r4 := st.rowC (i := 0) get0 _ _ HR.out.1.2.2.2.2.1
              have r5 := st.rowC (i := 0) get0 _ _ HR.out.1.2.2.2.2.2.1
              have r6 := st.rowC (i := 0) get0 _ _ HR.out.1.2.2.2.2.2.2.1
              have r7 := st.rowC (i := 0) get0 _ _ HR.out.1.2.2.2.2.2.2.2.1
              have r8 := st.rowC (i := 0) get0 _ _ HR.out.1.2.2.2.2.2.2.2.2
              have hiz : i < zs.length := by have := HZ.out.1; omega
              have hset := cellsL_set zs i (⟨kk, (ho, hd), nw, (bo, bd), (co, cd), we⟩ : CredT) hiz
              rw [fltCred_k, cred_cells] at hset
              have HZ2 : Hid ((zs.set i (⟨kk, (ho, hd), nw, (bo, bd), (co, cd), we⟩ : CredT)).length = n ∧ (zs.set i (⟨kk, (ho, hd), nw, (bo, bd), (co, cd), we⟩ : CredT)).take (i + 1) = cup xs (j + (r + 1)) ∧ ∀ q, j + (r + 1) ≤ q + 1 → (zs.set i (⟨kk, (ho, hd), nw, (bo, bd), (co, cd), we⟩ : CredT))[q]? = xs[q]?) := Lib.hid ⟨by simp [HZ.out.1], by
                  rw [HF.out, ← HZ.out.2.1]
                  have : (zs.set i (⟨kk, (ho, hd), nw, (bo, bd), (co, cd), we⟩ : CredT))[i]'(by simpa using hiz) = (⟨kk, (ho, hd), nw, (bo, bd), (co, cd), we⟩ : CredT) := by simp
                  rw [← List.take_append_getElem (l := zs.set i (⟨kk, (ho, hd), nw, (bo, bd), (co, cd), we⟩ : CredT)) (by simpa using hiz), this]
                  rw [List.take_set, List.set_eq_of_length_le (by rw [List.length_take]; omega)], fun q hq => by
                  rw [List.getElem?_set_ne (by omega)]; exact HZ.out.2.2 q (by omega)⟩
              have HSET := Lib.hid hset
              clear hset hiz
              go_wp2_with ((with_reducible refine wl_store ?_ (fun K hK => ?_)); (rfl); (refine owp_storeRow' rfl st ?_; apply Exists.intro; apply Exists.intro; refine ⟨?_, ?_, ?_⟩; (focus (go_simp; try rfl)); (focus (go_simp; try rfl)); refine ⟨0, _, _, _, _, _, _, _, _, get0, rfl, rfl, ?_, ?_, ?_, ?_⟩; (kernel_rfl); (simp [Value.cells]; omega); (rfl); (clear st; intro w st)))
              simp only [List.set_cons_zero] at st
              go_roundg (n - j - (r + 1))
              case measure => omega
              case rel => exact ⟨i + 1, r + 1, zs.set i (⟨kk, (ho, hd), nw, (bo, bd), (co, cd), we⟩ : CredT), by omega, by omega, rfl, by omega, by go_num, by go_num, HZ2, by rw [← HSET.out]; simpa [Value.cells] using st⟩
          · obtain ⟨inf, hinf, hz0, hz1, hz2⟩ := credInfo
            have HF : Hid (zs.take i = Lib.compact xs) := Lib.hid (by rw [HZ.out.2.1, ← cup_all, ← HN.out]; congr 1; omega)
            have hin : i ≤ n := by omega
            go_wp2_with ((with_reducible refine wl_clear ?_ (fun K hK => ?_)); (rfl); (refine owp_clearRow' rfl st Tryz.underlying88 ?_; apply Exists.intro; apply Exists.intro; apply Exists.intro; refine ⟨?_, ?_⟩; (focus (go_simp; exact ⟨rfl, rfl, rfl⟩)); refine ⟨0, _, _, _, _, i, _, inf, cV zC, get0, hinf, hz0, by decide, rfl, rfl, by omega, by simp, rfl, ?_⟩; (clear st; intro w ys hy1 hy2 st)))
            simp only [List.set_cons_zero] at st
            have st2 := st.rowCut (i := 0) (k := 9) (n := n) (c := c) (g := g) (E := 47) (xs := ys) get0 i (by omega)
            have hct := cellsL_take zs i
            rw [fltCred_k] at hct
            rw [hy1, hct, HF.out, List.set_cons_zero] at st2
            go_ret
            exact ⟨i, rfl, st2⟩
    · obtain rfl : j = n := by omega
      have HF : Hid (Lib.compact xs = xs) := Lib.hid (by rw [← cup_all, ← HN.out, HT.out, List.take_of_length_le (by have := HN.out; omega)])
      go_wp2_with fail
      go_ret
      exact ⟨j, rfl, by rw [HF.out]; exact st⟩
end Go.Proofs.YtekngjkjgmplpaaGreat

namespace Go.Proofs.YtekngjkjgmplpaaGreat
set_option linter.unusedSimpArgs false
set_option linter.unusedVariables false
open Go Go.RowKit
/-- How great credentials are. -/
def wtC (x : CredT) : Nat := 20 + x.h.1.length + x.h.2.length + x.w.length + x.b.1.length + x.b.2.length + x.c.1.length + x.c.2.length + x.e.length
def weightC (l : List CredT) : Nat := (l.map wtC).sum
theorem weightC_snoc (l : List CredT) (x : CredT) : weightC (l ++ [x]) = weightC l + wtC x := by simp [weightC]
theorem weightC_cons (l : List CredT) (x : CredT) : weightC (x :: l) = wtC x + weightC l := by simp [weightC]
theorem weightC_take : ∀ (l : List CredT) (j : Nat), weightC (l.take j) ≤ weightC l
  | [], j => by simp [weightC]
  | x :: l, 0 => by simp [weightC]
  | x :: l, j + 1 => by have := weightC_take l j; rw [List.take_succ_cons, weightC_cons, weightC_cons]; omega
theorem weightC_len : ∀ (l : List CredT), 20 * l.length ≤ weightC l
  | [] => by simp [weightC]
  | x :: l => by have := weightC_len l; rw [weightC_cons, List.length_cons]; unfold wtC; omega
theorem wtC_L {x : CredT} (h : wtC x ≤ 100000) : CredL 100000 x := by unfold wtC at h; unfold CredL; omega
theorem Fl.cred {w : World} {a : Option Addr} {n : Nat} {xs : List CredT} (h : Fl w a n xs) (h0 : 0 < n) : ∃ b off, a = some ⟨b, off, none⟩ ∧ ∀ j x, xs[j]? = some x → w.cell? ⟨b, off + j * 9, none⟩ = some (.int .i64 x.k) ∧ w.cell? ⟨b, off + j * 9 + 1, none⟩ = some (S x.h.1) ∧ w.cell? ⟨b, off + j * 9 + 2, none⟩ = some (S x.h.2) ∧ w.cell? ⟨b, off + j * 9 + 3, none⟩ = some (S x.w) ∧ w.cell? ⟨b, off + j * 9 + 4, none⟩ = some (S x.b.1) ∧ w.cell? ⟨b, off + j * 9 + 5, none⟩ = some (S x.b.2) ∧ w.cell? ⟨b, off + j * 9 + 6, none⟩ = some (S x.c.1) ∧ w.cell? ⟨b, off + j * 9 + 7, none⟩ = some (S x.c.2) ∧ w.cell? ⟨b, off + j * 9 + 8, none⟩ = some (S x.e) := by
  obtain ⟨b, off, rfl, hc⟩ := h.2 h0
  exact ⟨b, off, rfl, fun j x hj => ⟨hc j x hj 0 _ rfl, hc j x hj 1 _ rfl, hc j x hj 2 _ rfl, hc j x hj 3 _ rfl, hc j x hj 4 _ rfl, hc j x hj 5 _ rfl, hc j x hj 6 _ rfl, hc j x hj 7 _ rfl, hc j x hj 8 _ rfl⟩⟩
end Go.Proofs.YtekngjkjgmplpaaGreat

namespace Go.Proofs.YtekngjkjgmplpaaGreat
set_option linter.unusedSimpArgs false
set_option linter.unusedVariables false
open Go Go.RowKit
set_option maxRecDepth 100000 in
set_option maxHeartbeats 1000000 in
theorem credIndex_any (a : Option Addr) (n c : Nat) (l : List CredT) (y : CredT) (W : World) (h : Fl W a n l) (hn : n ≤ 2000000) :
    Calls Tryz.prog 113 #[.slice a n c, cV y] W fun e w' => ∃ v : Int, e = .returned (.int .i64 v) ∧ (0 ≤ v ↔ y ∈ l) ∧ Ext W w' := by
  have H := Lib.hid h
  have HNL := Lib.hid h.1
  clear h
  obtain ⟨kk, ⟨ho, hd⟩, nw, ⟨bo, bd⟩, ⟨co, cd⟩, we⟩ := y
  have st := Own.startOld W
  unfold cV S
  (try simp only [nsl, Value.cells, unB] at st)
  (try clear hc); have hc := st.facts; (try simp only [nfl, nft, Nat.reduceAdd] at hc)
  go_enter Tryz.func113, Tryz.ntmps113
  go_wp2_with ((((with_reducible refine wl_box ?_ (fun K hK => ?_)); rfl; refine owp_box (o := ⟨some 3, _, _, _, _, _⟩) rfl st ?_; apply Exists.intro; refine ⟨?_, ?_⟩; (focus (go_simp; try rfl)); (clear st; intro b3 w hb st; clear hb))); (try simp only [nsl, Value.cells, unB] at st); (try clear hc); have hc := st.facts; (try simp only [nfl, nft, Nat.reduceAdd] at hc))
  go_loopg [8] n (fun k i wr => ∃ (j : Nat), j ≤ n ∧ k = n - j ∧ i = .int .i64 (j : Int) ∧ Hid ((⟨kk, (ho, hd), nw, (bo, bd), (co, cd), we⟩ : CredT) ∉ l.take j) ∧ Own (fun _ => False) (fun _ => True) W [oldI W, blkI b3 [.int .i64 kk, S ho, S hd, S nw, S bo, S bd, S co, S cd, S we]] wr)
  case atStart => exact ⟨0, by omega, by omega, rfl, Lib.hid (by simp), st⟩
  case round =>
    obtain ⟨j, hj, rfl, rfl, HT, st'⟩ := hrel
    clear st hc
    have st := st'
    clear st'
    unfold S at st
    (try simp only [nsl, Value.cells, unB] at st)
    (try clear hc); have hc := st.facts; (try simp only [nfl, nft, Nat.reduceAdd] at hc)
    by_cases hjn : j < n
    · obtain ⟨b, off, ha, hcell⟩ := H.out.cred (by omega)
      have hjl : j < l.length := by have := HNL.out; omega
      have HC := Lib.hid (hcell j l[j] (List.getElem?_eq_getElem hjl))
      have hts : l.take (j + 1) = l.take j ++ [l[j]] := (List.take_append_getElem hjl).symm
      have hmem := List.getElem_mem hjl
      clear hcell
      generalize l[j] = x at *
      obtain ⟨kk', ⟨ho', hd'⟩, nw', ⟨bo', bd'⟩, ⟨co', cd'⟩, we'⟩ := x
      have HX := Lib.hid (And.intro hts hmem)
      clear hts hmem
      subst ha
      simp only at HC
      unfold S at HC
      go_wp2_with ((((with_reducible refine wl_box ?_ (fun K hK => ?_)); rfl; refine owp_box (o := ⟨some 3, _, _, _, _, _⟩) rfl st ?_; apply Exists.intro; refine ⟨?_, ?_⟩; (focus (go_simp; try rfl)); (clear st; intro b3 w hb st; clear hb))); (try simp only [nsl, Value.cells, unB] at st); (try clear hc); have hc := st.facts; (try simp only [nfl, nft, Nat.reduceAdd] at hc))
      refine Rg4.wp_region4_eq #[0, 0, 0, 6, 14, 31] [] [0, 4] (fun _ => True) [0, 1, 2, 3, 4, 5] (by kernel_rfl) (by kernel_rfl) (by kernel_rfl) (by kernel_rfl) (show Rg4.PB _ by repeat (first | with_reducible exact Rg4.pb_body | with_reducible exact Rg4.pb_bodyD rfl | with_reducible refine Rg4.pb_then ?_ | with_reducible refine Rg4.pb_inBlock ?_ | with_reducible refine Rg4.pb_noGoto ?_)) (trivial) ?_
      replace st := st.drew
      change Rg4.wp4 _ _ _ _ _ _ _ _ _ (World.drew _) _ _
      generalize World.drew _ = w at st ⊢
      (try clear hc); have hc := st.facts; (try simp only [nfl, nft, Nat.reduceAdd] at hc)
      (refine Rg4.w4_read (Rg4.want_none rfl) rfl rfl ?_; apply Exists.intro; refine ⟨fun w' hw' hcl' => ?_, ?_⟩; focus (subst hw'; have r0 := st.oldCell (i := 0) get0 HC.out.1; have r1 := st.oldCell (i := 0) get0 HC.out.2.1; have r2 := st.oldCell (i := 0) get0 HC.out.2.2.1; have r3 := st.oldCell (i := 0) get0 HC.out.2.2.2.1; have r4 := st.oldCell (i := 0) get0 HC.out.2.2.2.2.1; have r5 := st.oldCell (i := 0) get0 HC.out.2.2.2.2.2.1; have r6 := st.oldCell (i := 0) get0 HC.out.2.2.2.2.2.2.1; have r7 := st.oldCell (i := 0) get0 HC.out.2.2.2.2.2.2.2.1; have r8 := st.oldCell (i := 0) get0 HC.out.2.2.2.2.2.2.2.2; (focus (first | (go_simp; done) | (go_simp; first | rfl | (rw [if_neg] <;> first | rfl | omega) | (rw [if_pos] <;> first | rfl | omega))))); (try simp only [Rg4.nrm]))
      iterate 3 (refine Rg4.w4_any (Rg4.want_none rfl) rfl ?_; apply Exists.intro; refine ⟨fun w' => ?_, ?_⟩; (focus (first | (go_simp; done) | (go_simp; first | rfl | (rw [if_neg] <;> first | rfl | omega) | (rw [if_pos] <;> first | rfl | omega)))); (try simp only [Rg4.nrm]))
      (refine Rg4.w4_read (Rg4.want_none rfl) rfl rfl ?_; apply Exists.intro; refine ⟨fun w' hw' hcl' => ?_, ?_⟩; focus (subst hw'; have r0 := st.oldCell (i := 0) get0 HC.out.1; have r1 := st.oldCell (i := 0) get0 HC.out.2.1; have r2 := st.oldCell (i := 0) get0 HC.out.2.2.1; have r3 := st.oldCell (i := 0) get0 HC.out.2.2.2.1; have r4 := st.oldCell (i := 0) get0 HC.out.2.2.2.2.1; have r5 := st.oldCell (i := 0) get0 HC.out.2.2.2.2.2.1; have r6 := st.oldCell (i := 0) get0 HC.out.2.2.2.2.2.2.1; have r7 := st.oldCell (i := 0) get0 HC.out.2.2.2.2.2.2.2.1; have r8 := st.oldCell (i := 0) get0 HC.out.2.2.2.2.2.2.2.2; (focus (first | (go_simp; done) | (go_simp; first | rfl | (rw [if_neg] <;> first | rfl | omega) | (rw [if_pos] <;> first | rfl | omega))))); (try simp only [Rg4.nrm]))
      (refine Rg4.w4_any (Rg4.want_none rfl) rfl ?_; apply Exists.intro; refine ⟨fun w' => ?_, ?_⟩; (focus (first | (go_simp; done) | (go_simp; first | rfl | (rw [if_neg] <;> first | rfl | omega) | (rw [if_pos] <;> first | rfl | omega)))); (try simp only [Rg4.nrm]))
      refine Rg4.w4_nil (fun w' hw' hcl' _ => ?_); subst hw'; clear hcl'
      cases hr : credEq (⟨kk, (ho, hd), nw, (bo, bd), (co, cd), we⟩ : CredT) (⟨kk', (ho', hd'), nw', (bo', bd'), (co', cd'), we'⟩ : CredT) with
      | true =>
        have HF : Hid ((⟨kk, (ho, hd), nw, (bo, bd), (co, cd), we⟩ : CredT) ∈ l) := Lib.hid (by rw [credEq_eq, decide_eq_true_eq] at hr; rw [hr]; exact HX.out.2)
        clear hr
        go_wp2_with ((((with_reducible refine wl_box ?_ (fun K hK => ?_)); rfl; refine owp_box (o := ⟨some 3, _, _, _, _, _⟩) rfl st ?_; apply Exists.intro; refine ⟨?_, ?_⟩; (focus (go_simp; try rfl)); (clear st; intro b3 w hb st; clear hb))); (try simp only [nsl, Value.cells, unB] at st); (try clear hc); have hc := st.facts; (try simp only [nfl, nft, Nat.reduceAdd] at hc))
        go_ret
        exact ⟨_, rfl, ⟨fun _ => HF.out, fun _ => by omega⟩, st.ext0⟩
      | false =>
        have HF : Hid ((⟨kk, (ho, hd), nw, (bo, bd), (co, cd), we⟩ : CredT) ∉ l.take (j + 1)) := Lib.hid (by
          rw [credEq_eq, decide_eq_false_iff_not] at hr
          rw [HX.out.1]
          intro q
          rcases List.mem_append.1 q with q | q
          · exact HT.out q
          · exact hr (List.mem_singleton.1 q))
        clear hr
        go_wp2_with ((((with_reducible refine wl_box ?_ (fun K hK => ?_)); rfl; refine owp_box (o := ⟨some 3, _, _, _, _, _⟩) rfl st ?_; apply Exists.intro; refine ⟨?_, ?_⟩; (focus (go_simp; try rfl)); (clear st; intro b3 w hb st; clear hb))); (try simp only [nsl, Value.cells, unB] at st); (try clear hc); have hc := st.facts; (try simp only [nfl, nft, Nat.reduceAdd] at hc))
        go_roundg (n - (j + 1))
        case measure => omega
        case rel => exact ⟨j + 1, by omega, by omega, by first | rfl | trivial | go_num, HF, by simpa [S] using st⟩
    · obtain rfl : j = n := by omega
      have HF : Hid ((⟨kk, (ho, hd), nw, (bo, bd), (co, cd), we⟩ : CredT) ∉ l) := Lib.hid (by have := HT.out; rwa [List.take_of_length_le (by have := HNL.out; omega)] at this)
      go_wp2_with ((((with_reducible refine wl_box ?_ (fun K hK => ?_)); rfl; refine owp_box (o := ⟨some 3, _, _, _, _, _⟩) rfl st ?_; apply Exists.intro; refine ⟨?_, ?_⟩; (focus (go_simp; try rfl)); (clear st; intro b3 w hb st; clear hb))); (try simp only [nsl, Value.cells, unB] at st); (try clear hc); have hc := st.facts; (try simp only [nfl, nft, Nat.reduceAdd] at hc))
      go_ret
      exact ⟨_, rfl, ⟨fun q => by omega, fun q => absurd q HF.out⟩, st.ext0⟩
set_option maxRecDepth 100000 in
set_option maxHeartbeats 1000000 in
theorem credContains_any (a : Option Addr) (n c : Nat) (l : List CredT) (y : CredT) (W : World) (h : Fl W a n l) (hn : n ≤ 2000000) :
    Calls Tryz.prog 93 #[.slice a n c, cV y] W fun e w' => e = .returned (.bool (decide (y ∈ l))) ∧ Ext W w' := by
  have H := Lib.hid h
  clear h
  have HI := Lib.hid (credIndex_any a n c l y)
  obtain ⟨kk, ⟨ho, hd⟩, nw, ⟨bo, bd⟩, ⟨co, cd⟩, we⟩ := y
  have st := Own.startOld W
  unfold cV S at *
  (try simp only [nsl, Value.cells, unB] at st)
  (try clear hc); have hc := st.facts; (try simp only [nfl, nft, Nat.reduceAdd] at hc)
  go_enter Tryz.func93, Tryz.ntmps93
  go_wp2_with ((((with_reducible refine wl_box ?_ (fun K hK => ?_)); rfl; refine owp_box (o := ⟨some 3, _, _, _, _, _⟩) rfl st ?_; apply Exists.intro; refine ⟨?_, ?_⟩; (focus (go_simp; try rfl)); (clear st; intro b3 w hb st; clear hb))); (try simp only [nsl, Value.cells, unB] at st); (try clear hc); have hc := st.facts; (try simp only [nfl, nft, Nat.reduceAdd] at hc))
  refine (HI.out _ (st.oldFl (i := 0) get0 H.out) hn).mono ?_
  rintro en w' ⟨v, rfl, hv, hx⟩
  replace st := st.ext hx
  clear hx
  by_cases h0 : 0 ≤ v
  · have HF : Hid ((⟨kk, (ho, hd), nw, (bo, bd), (co, cd), we⟩ : CredT) ∈ l) := Lib.hid (hv.1 h0)
    clear hv
    go_wp2_with ((((with_reducible refine wl_box ?_ (fun K hK => ?_)); rfl; refine owp_box (o := ⟨some 3, _, _, _, _, _⟩) rfl st ?_; apply Exists.intro; refine ⟨?_, ?_⟩; (focus (go_simp; try rfl)); (clear st; intro b3 w hb st; clear hb))); (try simp only [nsl, Value.cells, unB] at st); (try clear hc); have hc := st.facts; (try simp only [nfl, nft, Nat.reduceAdd] at hc))
    go_ret
    exact ⟨by rw [decide_eq_true HF.out]; simp [h0], st.ext0⟩
  · have HF : Hid ((⟨kk, (ho, hd), nw, (bo, bd), (co, cd), we⟩ : CredT) ∉ l) := Lib.hid (fun q => h0 (hv.2 q))
    clear hv
    go_wp2_with ((((with_reducible refine wl_box ?_ (fun K hK => ?_)); rfl; refine owp_box (o := ⟨some 3, _, _, _, _, _⟩) rfl st ?_; apply Exists.intro; refine ⟨?_, ?_⟩; (focus (go_simp; try rfl)); (clear st; intro b3 w hb st; clear hb))); (try simp only [nsl, Value.cells, unB] at st); (try clear hc); have hc := st.facts; (try simp only [nfl, nft, Nat.reduceAdd] at hc))
    go_ret
    exact ⟨by rw [decide_eq_false HF.out]; simp; omega, st.ext0⟩
end Go.Proofs.YtekngjkjgmplpaaGreat

namespace Go.Proofs.YtekngjkjgmplpaaGreat
set_option linter.unusedSimpArgs false
set_option linter.unusedVariables false
open Go Go.RowKit
@[go_sem] theorem eqNilCred (a : Option Addr) (n c : Nat) (w : World) : (binOp .eql 88 (.slice a n c) (.slice none 0 0)).run Tryz.prog w = .ok (.bool a.isNone) w := by
  have h := run_equal_slice_nil w _ _ a n c Tryz.underlying88
  simp only [binOp]
  simp [h]
set_option maxRecDepth 100000 in
set_option maxHeartbeats 1000000 in
theorem credClone_any (a : Option Addr) (n c : Nat) (l : List CredT) (W : World) (h : Fl W a n l) (hn : n ≤ 2000000) :
    Calls Tryz.prog 88 #[.slice a n c] W fun e w' => ∃ va vc, e = .returned (.slice va n vc) ∧ FreshI W w' (rowI 47 9 (.slice va n vc) n (cellsL l)) := by
  have H := Lib.hid h
  clear h
  have st := Own.startOld W
  (try simp only [nsl, Value.cells, unB] at st)
  (try clear hc); have hc := st.facts; (try simp only [nfl, nft, Nat.reduceAdd] at hc)
  cases a with
  | none =>
    have h0 : n = 0 := by
      rcases Nat.eq_zero_or_pos n with q | q
      · exact q
      · obtain ⟨b, off, e, _⟩ := H.out.2 q; cases e
    subst h0
    have hl : l = [] := List.eq_nil_of_length_eq_zero H.out.1.symm
    subst hl
    go_enter Tryz.func88, Tryz.ntmps88
    go_wp2_with fail
    go_ret
    exact ⟨none, 0, rfl, FreshI.post (FreshI.pre (FreshI.nilRow W _ _) (Ext.refl _)) st.ext0⟩
  | some ad =>
    go_enter Tryz.func88, Tryz.ntmps88
    go_wp2_with (first
        | ((with_reducible refine wl_append ?_ (fun K hK => ?_)); (rfl); (obtain ⟨inf, hinf, hz0, hz1, hz2⟩ := credInfo); (refine owp_append rfl st 1 get1 Tryz.underlying88 hinf hz0 hz1 hz2 rfl (by decide) rfl rfl ((st.oldFl (i := 0) get0 H.out).flat) (by first | exact cellsL_all _ | simp [Value.oneCell']) (by simp only [maxLen]; omega) (by omega) ?_); (clear hinf hz0 hz1 hz2 inf); (clear st; intro v' w st); (obtain ⟨va', vc', rfl⟩ := own_slice (st.row (i := 1) get1)); (try simp only [nsl, Value.cells, unB] at st); (try simp only [Nat.zero_add] at st); (try clear hc); have hc := st.facts; (try simp only [nfl, nft, Nat.reduceAdd] at hc))
        | ((with_reducible refine wl_buildSlice ?_ (fun K hK => ?_)); (rfl); (refine owp_buildRow (o := ⟨some 5, _, _, _, _, _⟩) rfl st 47 9 ?_; refine ⟨0, #[], ?_, by simp, by simp [maxLen], ?_⟩; (focus (go_simp; (first | done | rfl))); (clear st; intro b5 w hb st; clear hb)); (try simp only [nsl, Value.cells, unB] at st); (try clear hc); have hc := st.facts; (try simp only [nfl, nft, Nat.reduceAdd] at hc)))
    go_ret
    have hf := st.toFresh (i := 1) get1
    exact ⟨_, _, rfl, hf⟩
set_option maxRecDepth 100000 in
set_option maxHeartbeats 1000000 in
theorem credSet1_any (x : CredT) (W : World) (hl : CredL 100000 x) : Calls Tryz.prog 89 #[cV x] W fun e w' => e = .returned (.bool (!credR x)) ∧ Ext W w' := by
  have HR := Lib.hid (credRight_any x)
  obtain ⟨kk, ⟨ho, hd⟩, nw, ⟨bo, bd⟩, ⟨co, cd⟩, we⟩ := x
  have st := Own.startOld W
  unfold cV S at *
  (try simp only [nsl, Value.cells, unB] at st)
  (try clear hc); have hc := st.facts; (try simp only [nfl, nft, Nat.reduceAdd] at hc)
  go_enter Tryz.func89, Tryz.ntmps89
  go_wp2_with ((((with_reducible refine wl_box ?_ (fun K hK => ?_)); rfl; refine owp_box (o := ⟨some 1, _, _, _, _, _⟩) rfl st ?_; apply Exists.intro; refine ⟨?_, ?_⟩; (focus (go_simp; try rfl)); (clear st; intro b1 w hb st; clear hb))); (try simp only [nsl, Value.cells, unB] at st); (try clear hc); have hc := st.facts; (try simp only [nfl, nft, Nat.reduceAdd] at hc))
  refine (HR.out _ hl).mono ?_
  rintro en w ⟨rfl, hx⟩
  replace st := st.ext hx
  clear hx
  (try clear hc); have hc := st.facts; (try simp only [nfl, nft, Nat.reduceAdd] at hc)
  go_wp2_with fail
  go_ret
  exact ⟨rfl, st.ext0⟩
end Go.Proofs.YtekngjkjgmplpaaGreat

namespace Go.Proofs.YtekngjkjgmplpaaGreat
set_option linter.unusedSimpArgs false
set_option linter.unusedVariables false
open Go Go.RowKit Go.Sort Go.Lib Go.Shelf
theorem Ext.grow {w w' : World} (h : Ext w w') : ∃ q os, w' = grow (w.drewN q) os := by
  refine ⟨w'.drawn - w.drawn, w'.heap.extract w.heap.size w'.heap.size, ?_⟩
  have hh : w'.heap = w.heap ++ w'.heap.extract w.heap.size w'.heap.size := by
    apply Array.ext_getElem?
    intro k
    rw [Array.getElem?_append]
    split
    · exact h.bel.block k (by assumption)
    · rw [Array.getElem?_extract]
      split
      · congr 1; omega
      · rw [Array.getElem?_eq_none]; have := h.le; omega
  have hd := h.drawn
  cases w' with
  | mk a b c d e =>
    have h1 := h.bel.os; have h2 := h.bel.tape; have h3 := h.bel.output
    simp only at h1 h2 h3 hd hh
    unfold Go.Sort.grow World.drewN
    simp only [World.mk.injEq]
    exact ⟨hh, h2, by omega, h1, h3⟩
section
variable {α : Type} [Flt α] [Inhabited α]
theorem flat_eq (xs : List α) : (flatK Flt.cells (Flt.k α) xs.toArray).toList = cellsL xs := by
  have hk := Flt.pos (α := α)
  apply List.ext_getElem?
  intro t
  by_cases ht : t < xs.length * Flt.k α
  · have hi : t / Flt.k α < xs.length := (Nat.div_lt_iff_lt_mul hk).2 ht
    have hr : t % Flt.k α < Flt.k α := Nat.mod_lt _ hk
    have e : t / Flt.k α * Flt.k α + t % Flt.k α = t := by rw [Nat.mul_comm]; exact Nat.div_add_mod _ _
    have h1 := cellsL_get (List.getElem?_eq_getElem hi) hr
    rw [e] at h1
    rw [h1, Array.getElem?_toList]
    have hrl : t % Flt.k α < (Flt.cells xs[t / Flt.k α]).length := by rw [Flt.len]; exact hr
    simp [flatK, ht, hi, hrl]
  · rw [List.getElem?_eq_none (by simp; omega), List.getElem?_eq_none (by rw [cellsL_len]; omega)]
theorem flat_eq' (xs : List α) : flatK Flt.cells (Flt.k α) xs.toArray = (cellsL xs).toArray := by
  rw [← flat_eq]
theorem heap_sortedK {w : World} {g n : Nat} {os : Array Obj} {cur : Array Value} {e : TypeId} {f : Nat × Nat} (d : Array Value) (hb : w.heap[g]? = some (.cells cur e f)) :
    (grow (putRow id (Sort.ahead w n) g 0 d) os).heap[g]? = some (.cells (putCells id 0 d cur) e f) := by
  have hg : g < w.heap.size := (Array.getElem?_eq_some_iff.1 hb).1
  rw [heap_grow_old _ _ (by simpa using hg)]
  simp [putRow, mapBlock, Sort.ahead, Array.getElem?_modify, hb, onCells]
theorem grownBy_sortedK {w : World} {g n : Nat} {os : Array Obj} (d : Array Value) : w.grownBy (grow (putRow id (Sort.ahead w n) g 0 d) os) (some g) := by
  refine ⟨rfl, rfl, rfl, by simp, fun k hk hne => ?_⟩
  rw [heap_grow_old _ _ (by simpa using hk)]
  have : g ≠ k := fun e => hne (by rw [e])
  simp [putRow, mapBlock, Sort.ahead, Array.getElem?_modify, this]
theorem take_putCellsK (cur : Array Value) (ts : List Value) (h : ts.length ≤ cur.size) : (putCells id 0 ts.toArray cur).toList.take ts.length = ts := by
  apply List.ext_getElem?
  intro j
  by_cases hj : j < ts.length
  · rw [List.getElem?_take_of_lt hj, Array.getElem?_toList]
    simp [putCells, hj, show j < cur.size by omega]
  · rw [List.getElem?_take_eq_none (by omega), List.getElem?_eq_none (by omega)]
variable {fr al : Nat → Prop} {w0 w : World} {L : List It}
theorem Own.holdsK (st : Own fr al w0 L w) {i n c g : Nat} {E : TypeId} {xs : List α} (hi : L[i]? = some (rowI E (Flt.k α) (.slice (some ⟨g, 0, none⟩) n c) n (cellsL xs))) : HoldsK Flt.cells (Flt.k α) w g 0 xs.toArray ∧ g < w.heap.size := by
  have hrow := st.row hi
  rcases hrow.2 with ⟨h1, h2⟩ | ⟨g', cap, cur, h1, hb, hg, hcap, hm, hs, ht⟩
  · cases h1
  · cases h1
    refine ⟨?_, (Array.getElem?_eq_some_iff.1 hg).1⟩
    unfold HoldsK
    rw [flat_eq']
    intro j hj
    have hj' : j < (cellsL xs).length := by simpa using hj
    refine ⟨?_, by simp [World.frozen?, hg]⟩
    have hn : n * Flt.k α = (cellsL xs).length := hrow.1.symm
    have h1 : (cur.toList.take (n * Flt.k α))[j]? = (cellsL xs)[j]? := by rw [ht]
    rw [List.getElem?_take_of_lt (by omega)] at h1
    simp only [World.cell?, hg, Nat.zero_add]
    simp only [Option.isSome_none, Bool.false_eq_true, if_false]
    rw [← Array.getElem?_toList, h1]
    simp [hj']
theorem Own.sortedK (st : Own fr al w0 L w) {i n c g : Nat} {E : TypeId} {xs ys : List α} (hi : L[i]? = some (rowI E (Flt.k α) (.slice (some ⟨g, 0, none⟩) n c) n (cellsL xs))) (hl : ys.length = xs.length) (m : Nat) (os : Array Obj) :
    Own fr al w0 (L.set i (rowI E (Flt.k α) (.slice (some ⟨g, 0, none⟩) n c) n (cellsL ys))) (sortWorldK Flt.cells (Flt.k α) w g 0 m ys.toArray os) := by
  have hrow := st.row hi
  rcases hrow.2 with ⟨h1, h2⟩ | ⟨g', cap, cur, h1, hb, hg, hcap, hm, hs, ht⟩
  · cases h1
  · cases h1
    have hn : n * Flt.k α = (cellsL xs).length := hrow.1.symm
    have hy : (cellsL ys).length = n * Flt.k α := by rw [cellsL_len, hl, hn, cellsL_len]
    have hle : n * Flt.k α ≤ cur.size := by rw [hs]; exact Nat.mul_le_mul_right _ hcap
    have e : sortWorldK Flt.cells (Flt.k α) w g 0 m ys.toArray os = grow (putRow id (Sort.ahead w m) g 0 (cellsL ys).toArray) os := by unfold sortWorldK putRowK; rw [flat_eq']
    rw [e]
    refine st.upd hi fun e s ⟨q1, q2⟩ q3 q4 => ⟨e, s, ⟨?_, q2⟩, fun b hb => ⟨Nat.lt_of_lt_of_le (q3 b (.inl hb)) (grownBy_sortedK _).size, .inl hb⟩, fun b hb => ⟨Nat.lt_of_lt_of_le (q3 b (.inr hb)) (grownBy_sortedK _).size, .inr (.inl hb)⟩, q4, MutO.grown (MutO.refl _ _) ⟨grownBy_sortedK _, Nat.le_add_right _ _⟩ fun k hk _ => ?_⟩
    · exact ⟨hy, .inr ⟨g, c, _, rfl, hb, heap_sortedK _ hg, hcap, hm, by simp [putCells, hs], by rw [← hy]; exact take_putCellsK cur (cellsL ys) (by omega)⟩⟩
    · cases hk; exact q2 g rfl
end
end Go.Proofs.YtekngjkjgmplpaaGreat

namespace Go.Proofs.YtekngjkjgmplpaaGreat
set_option linter.unusedSimpArgs false
set_option linter.unusedVariables false
open Go Go.RowKit Go.Sort Go.Lib
/-- A right credential. -/
abbrev CredK := {x : CredT // credR x = true}
instance : Inhabited CredK := ⟨⟨⟨2, ([97], [97]), [], ([97], [97]), ([], []), []⟩, by decide +kernel⟩⟩
instance fltCredK : Flt CredK := ⟨9, fun x => cC x.1, fun x => Flt.len x.1, by decide, fun x => Flt.one x.1⟩
theorem cellsL_val (xs : List CredK) : cellsL xs = cellsL (xs.map Subtype.val) := by
  induction xs with
  | nil => rfl
  | cons x xs ih => rw [List.map_cons, cellsL_cons, cellsL_cons, ih]; rfl
def credLt (a b : CredT) : Bool := strLt (credBy a) (credBy b)
theorem credBy_r {x : CredT} (h : credR x = true) : credBy x = credB x := if_pos h
theorem credOrd : SOrd credLt credR where
  irr x := strLt_irr _
  tr x y z h1 h2 := strLt_tr h1 h2
  tri x y hx hy := by
    rcases strLt_tri (credBy x) (credBy y) with h | h | h
    · exact .inl h
    · rw [credBy_r hx, credBy_r hy] at h; exact .inr (.inl (credB_inj hx hy h))
    · exact .inr (.inr h)
def cmpK (x y : CredK) : Int := credCmp x.1 y.1
theorem cmpK_lt (x y : CredK) : ltOf cmpK x y = credLt x.1 y.1 := by
  unfold ltOf cmpK credCmp cmp2 credLt
  cases h : strLt (credBy x.1) (credBy y.1) with
  | true => simp
  | false => cases h2 : strLt (credBy y.1) (credBy x.1) <;> simp
theorem cmpKSwo : SWO (ltOf cmpK) where
  irrefl x := by rw [cmpK_lt]; exact credOrd.irr x.1
  trans x y z h1 h2 := by rw [cmpK_lt] at *; exact credOrd.tr x.1 y.1 z.1 h1 h2
  ntrans x y z h1 h2 := by
    rw [cmpK_lt] at *
    cases h : credLt x.1 z.1 with
    | false => rfl
    | true =>
      rcases credOrd.tri x.1 y.1 x.2 y.2 with q | q | q
      · rw [q] at h1; cases h1
      · rw [q] at h; rw [h] at h2; cases h2
      · have := credOrd.tr _ _ _ q h; rw [this] at h2; cases h2
theorem cmpKTot (x y : CredK) (h1 : ltOf cmpK x y = false) (h2 : ltOf cmpK y x = false) : x = y := by
  rw [cmpK_lt] at h1 h2
  rcases credOrd.tri x.1 y.1 x.2 y.2 with q | q | q
  · rw [q] at h1; cases h1
  · exact Subtype.ext q
  · rw [q] at h2; cases h2
def credSort (xs : List CredK) : List CredK := xs.mergeSort fun x y => !(ltOf cmpK) y x
theorem credSort_pw (xs : List CredK) : (credSort xs).Pairwise (fun x y => credLt y.1 x.1 = false) := by
  have h1 := List.pairwise_mergeSort (le := fun x y : CredK => !(ltOf cmpK) y x) (fun a b c h1 h2 => by
    simp only [Bool.not_eq_true'] at *; exact cmpKSwo.ntrans _ _ _ h2 h1) (fun a b => by
    cases h : ltOf cmpK b a with
    | false => rfl
    | true => cases h2 : ltOf cmpK a b with
      | false => rfl
      | true => have := cmpKSwo.trans _ _ _ h h2; rw [cmpKSwo.irrefl] at this; cases this) xs
  refine h1.imp fun {a b} h => ?_
  simpa [cmpK_lt] using h
theorem credR_len {x : CredT} (h : credR x = true) : CredL 100000 x := by
  obtain ⟨h1, h2⟩ := credR_cases h
  have a1 := roleR_len h1
  unfold CredL
  rcases h2 with ⟨_, q, e1, e2, e3⟩ | ⟨e0, q, h3⟩
  · have := (nameR_len q).2
    rw [e1, e2, e3]; simp [nR]; omega
  · have a2 := roleR_len q
    rw [e0]
    rcases h3 with ⟨_, e1, e2⟩ | ⟨_, e1, _, e2⟩ | ⟨_, e1, e2, _⟩
    · rw [e1, e2]; simp [nR]; omega
    · have := (nameR_len e2).2
      rw [e1]; simp [nR]; omega
    · have := roleR_len e2
      rw [e1]; simp; omega
theorem cred76 (args : Array Value) (w : World) : (callFunc 91 args).run Tryz.prog w = .ok (.enter 91 args) w := enters_of Tryz.func91 (by kernel_rfl) rfl args w
section
variable {fr al : Nat → Prop} {w0 w : World} {L : List It}
theorem sortCred_c (st : Own fr al w0 L w) (i : Nat) {n c : Nat} {a : Option Addr} {xs : List CredK} (hi : L[i]? = some (rowI 47 9 (.slice a n c) n (cellsL xs))) (hn : n ≤ 2000000) :
    Calls Tryz.prog 90 #[.slice a n c, .func (.func 91) #[] #[]] w fun e w' => e = .returned (.tuple #[]) ∧ Own fr al w0 (L.set i (rowI 47 9 (.slice a n c) n (cellsL (credSort xs)))) w' := by
  have hrow := st.row hi
  have hnx : n = xs.length := by have := hrow.1; rw [cellsL_len, show Flt.k CredK = 9 from rfl] at this; omega
  rcases Nat.eq_zero_or_pos n with h0 | h0
  · subst h0
    have hx : xs = [] := List.eq_nil_of_length_eq_zero hnx.symm
    subst hx
    refine (AnyF.slices_SortFunc_none Tryz.sortCred a c _ w).mono ?_
    rintro e w' ⟨rfl, rfl⟩
    refine ⟨rfl, ?_⟩
    have : L.set i (rowI 47 9 (.slice a 0 c) 0 (cellsL (credSort []))) = L := by
      apply List.ext_getElem?
      intro q
      rw [List.getElem?_set]
      split
      · rename_i h; subst h; rw [hi, if_pos (get_lt hi)]; unfold credSort; rw [List.mergeSort_nil]
      · rfl
    rw [this]; exact st
  · obtain ⟨g, cap', hv, hcap, _⟩ := st.rowAt hi h0
    injection hv with hv1 hv2 hv3
    subst hv1 hv3
    have hH := st.holdsK (α := CredK) (xs := xs) hi
    have hcon := AnyQ.slices_SortFunc_total Tryz.sortCred 9 Tryz.isAgg47 Tryz.sizeOf47 (Flt.cells : CredK → List Value) (fun x => Flt.len x) (fun x v hv => Flt.one x v hv) cmpK cmpKSwo 91 #[] g 0 c xs.toArray w cred76
      (fun m os dk _ x y => (credCompare_any x.1 y.1 _ (credR_len x.2) (credR_len y.2)).mono fun e w' h => ⟨h.1, h.2.grow⟩) hH.1 hH.2 (by simp; omega) cmpKTot
    change Calls Tryz.prog 90 _ _ _ at hcon
    rw [show xs.toArray.size = n by simp [hnx]] at hcon
    refine hcon.mono ?_
    rintro e w' ⟨rfl, m, os, rfl⟩
    exact ⟨rfl, st.sortedK (α := CredK) hi (by unfold credSort; simp) m os⟩
end
end Go.Proofs.YtekngjkjgmplpaaGreat

namespace Go.Proofs.YtekngjkjgmplpaaGreat
set_option linter.unusedSimpArgs false
set_option linter.unusedVariables false
open Go Go.RowKit
def rights (l : List CredT) : List CredK := (l.filter credR).pmap Subtype.mk fun _ hx => (List.mem_filter.1 hx).2
theorem rights_val (l : List CredT) : (rights l).map Subtype.val = l.filter credR := by
  unfold rights; rw [List.map_pmap]; simp
def credSorted (l : List CredT) : List CredT := (credSort (rights l)).map Subtype.val
theorem credSorted_mem (l : List CredT) (x : CredT) : x ∈ credSorted l ↔ x ∈ l ∧ credR x = true := by
  rw [← List.mem_filter, ← rights_val]
  unfold credSorted credSort
  simp only [List.mem_map, List.mem_mergeSort]
/-- The set of the right credentials of a list. -/
@[irreducible] def credSet (l : List CredT) : List CredT := Lib.compact (credSorted l)
theorem credSet_eq (l : List CredT) : credSet l = Lib.compact (credSorted l) := by unfold credSet; rfl
theorem credSet_set (l : List CredT) : SSet credLt credR l (credSet l) := by
  rw [credSet_eq]
  refine compact_set credOrd _ l (credSorted_mem l) ?_
  unfold credSorted
  exact List.pairwise_map.2 (credSort_pw _)
set_option maxRecDepth 100000 in
set_option maxHeartbeats 1000000 in
theorem credSet_any (a : Option Addr) (n c : Nat) (l : List CredT) (W : World) (h : Fl W a n l) (hn : n ≤ 2000000) (hs : ∀ x ∈ l, CredL 100000 x) :
    Calls Tryz.prog 52 #[.slice a n c] W fun e w' => ∃ va vc, e = .returned (.slice va (credSet l).length vc) ∧ FreshI W w' (rowI 47 9 (.slice va (credSet l).length vc) (credSet l).length (cellsL (credSet l))) := by
  have H := Lib.hid (And.intro h hs)
  have st := Own.startOld W
  clear h hs
  (try simp only [nsl, Value.cells, unB] at st)
  (try clear hc); have hc := st.facts; (try simp only [nfl, nft, Nat.reduceAdd] at hc)
  go_enter Tryz.func52, Tryz.ntmps52
  go_wp2_with fail
  refine (credClone_any a n c l _ (st.oldFl (i := 0) get0 H.out.1) hn).mono ?_
  rintro en w ⟨va, vc, rfl, hnew⟩
  replace st := st.fresh hnew
  clear hnew
  (try simp only [nsl, Value.cells, unB] at st)
  (try clear hc); have hc := st.facts; (try simp only [nfl, nft, Nat.reduceAdd] at hc)
  go_wp2_with fail
  obtain ⟨fr', al', st', back⟩ := st.sub [1] (by decide) (by simp)
  (try simp only [nsl, Value.cells, unB] at st')
  refine (deleteFuncCred_c st' hn 89 #[] (fun x => !credR x) (fun _ _ => by kernel_rfl) (fun x hx w => credSet1_any x w (H.out.2 x hx))).mono ?_
  clear st'
  rintro en w ⟨m, rfl, st'⟩
  replace st := back _ _ (by simp) st'
  clear back st'
  (try simp only [nsl, Value.cells, unB] at st)
  (try clear hc); have hc := st.facts; (try simp only [nfl, nft, Nat.reduceAdd] at hc)
  simp only [Bool.not_not] at st
  have hm : m ≤ n := by
    have h1 := credLen (st.row (i := 1) get1)
    have h2 := List.length_filter_le (fun x => credR x) l
    have h3 := H.out.1.1
    omega
  rw [show List.filter (fun x => credR x) l = (rights l).map Subtype.val from (rights_val l).symm, ← cellsL_val] at st
  go_wp2_with fail
  refine (sortCred_c st 1 get1 (by omega)).mono ?_
  rintro en w ⟨rfl, st'⟩
  clear st
  have st := st'
  clear st'
  rw [cellsL_val (credSort (rights l)), show (credSort (rights l)).map Subtype.val = credSorted l from rfl] at st
  (try simp only [nsl, Value.cells, unB] at st)
  (try clear hc); have hc := st.facts; (try simp only [nfl, nft, Nat.reduceAdd] at hc)
  go_wp2_with fail
  obtain ⟨fr', al', st', back⟩ := st.sub [1] (by decide) (by simp)
  (try simp only [nsl, Value.cells, unB] at st')
  refine (compactCred_c st' (by omega)).mono ?_
  clear st'
  rintro en w ⟨m2, rfl, st'⟩
  replace st := back _ _ (by simp) st'
  clear back st'
  (try simp only [nsl, Value.cells, unB] at st)
  (try clear hc); have hc := st.facts; (try simp only [nfl, nft, Nat.reduceAdd] at hc)
  rw [← credSet_eq l] at st
  have hm2 := credLen (st.row (i := 1) get1)
  subst hm2
  have hfin := st.toFresh (i := 1) get1
  have HF := Lib.hid hfin
  clear hfin st
  go_wp2_with fail
  go_ret
  exact ⟨va, vc, rfl, HF.out⟩
set_option maxRecDepth 100000 in
set_option maxHeartbeats 1000000 in
theorem credHas_any (a : Option Addr) (n c : Nat) (l : List CredT) (y : CredT) (W : World) (h : Fl W a n l) (hn : n ≤ 2000000) :
    Calls Tryz.prog 53 #[.slice a n c, cV y] W fun e w' => e = .returned (.bool (decide (y ∈ l))) ∧ Ext W w' := by
  have H := Lib.hid h
  clear h
  have HI := Lib.hid (credContains_any a n c l y)
  obtain ⟨kk, ⟨ho, hd⟩, nw, ⟨bo, bd⟩, ⟨co, cd⟩, we⟩ := y
  have st := Own.startOld W
  unfold cV S at *
  (try simp only [nsl, Value.cells, unB] at st)
  (try clear hc); have hc := st.facts; (try simp only [nfl, nft, Nat.reduceAdd] at hc)
  go_enter Tryz.func53, Tryz.ntmps53
  go_wp2_with ((((with_reducible refine wl_box ?_ (fun K hK => ?_)); rfl; refine owp_box (o := ⟨some 3, _, _, _, _, _⟩) rfl st ?_; apply Exists.intro; refine ⟨?_, ?_⟩; (focus (go_simp; try rfl)); (clear st; intro b3 w hb st; clear hb))); (try simp only [nsl, Value.cells, unB] at st); (try clear hc); have hc := st.facts; (try simp only [nfl, nft, Nat.reduceAdd] at hc))
  refine (HI.out _ (st.oldFl (i := 0) get0 H.out) hn).mono ?_
  rintro en w ⟨rfl, hx⟩
  replace st := st.ext hx
  clear hx
  (try clear hc); have hc := st.facts; (try simp only [nfl, nft, Nat.reduceAdd] at hc)
  go_wp2_with fail
  go_ret
  exact ⟨rfl, st.ext0⟩
end Go.Proofs.YtekngjkjgmplpaaGreat

namespace Go.Proofs.YtekngjkjgmplpaaGreat
set_option linter.unusedSimpArgs false
set_option linter.unusedVariables false
open Go Go.RowKit
/-- internal/bytealg's variable holds some number. -/
def Glob (w : World) : Prop := ∃ m, w.cell? ⟨0, 0, none⟩ = some (.int .i64 m)
theorem Glob.ext {w w' : World} (h : Glob w) (hx : Ext w w') : Glob w' := let ⟨m, hm⟩ := h; ⟨m, hx.cell hm⟩
theorem ext_drewN (w : World) (n : Nat) : Ext w (w.drewN n) := ⟨⟨rfl, rfl, rfl, Nat.le_refl _, fun _ _ => rfl⟩, Nat.le_add_right _ _⟩
theorem sCut_any (s sep : List UInt8) (W : World) (hs : s.length ≤ 100000000) (hg : Glob W) : Calls Tryz.prog 57 #[.string ⟨s.toArray⟩, .string ⟨sep.toArray⟩] W fun e w' =>
    e = .returned (.tuple #[.string ⟨(Lib.cut s sep).1.toArray⟩, .string ⟨(Lib.cut s sep).2.1.toArray⟩, .bool (Lib.cut s sep).2.2]) ∧ Ext W w' := by
  obtain ⟨m, hm⟩ := hg
  refine (Tryz.strings_Cut ⟨s.toArray⟩ ⟨sep.toArray⟩ m W (by simp [ByteArray.size]; omega) hm).mono ?_
  rintro e w' ⟨rfl, n, rfl⟩
  exact ⟨rfl, ext_drewN _ _⟩
theorem sLast_any (s : List UInt8) (W : World) (hs : s.length ≤ 100000000) : Calls Tryz.prog 95 #[.string ⟨s.toArray⟩, .string ⟨#[46]⟩] W fun e w' => e = .returned (.int .i64 (Lib.lastIndex s [46])) ∧ Ext W w' := by
  refine (Tryz.strings_LastIndex ⟨s.toArray⟩ ⟨#[46]⟩ (by simp [ByteArray.size]; omega) W).mono ?_
  rintro e w' ⟨rfl, rfl⟩
  exact ⟨rfl, Ext.refl _⟩
theorem sCount_any (s : List UInt8) (W : World) : Calls Tryz.prog 96 #[.string ⟨s.toArray⟩, .string ⟨#[46]⟩] W fun e w' => e = .returned (.int .i64 (Lib.countByte s 46 : Nat)) ∧ Ext W w' := by
  refine (Tryz.strings_Count_one ⟨s.toArray⟩ 46 W).mono ?_
  rintro e w' ⟨rfl, rfl⟩
  exact ⟨rfl, Ext.refl _⟩
theorem cut_le (s sep : List UInt8) : (Lib.cut s sep).1.length ≤ s.length ∧ (Lib.cut s sep).2.1.length ≤ s.length := by
  unfold Lib.cut; split <;> simp <;> omega
theorem roleP1_le (s : List UInt8) : (roleP1 s).1.length ≤ s.length ∧ (roleP1 s).2.length ≤ s.length := by
  unfold roleP1 roleP
  cases h : cutDot s with
  | none => simp
  | some p =>
    have := cutDot_le h
    simp only
    split
    · simpa using this
    · simp
theorem lastIndex_pos {s : List UInt8} (h : Lib.countByte s 46 ≠ 0) : ∃ i : Nat, Lib.lastIndex s [46] = i ∧ i < s.length := by
  rcases lastIndex_46 s with ⟨_, h2⟩ | ⟨i, h1, h2, _⟩
  · exfalso
    apply h
    refine count_no fun x hx e => ?_
    obtain ⟨k, hk, hkx⟩ := List.getElem_of_mem hx
    exact h2 k (by rw [List.getElem?_eq_getElem hk, hkx, e])
  · exact ⟨i, h1, (List.getElem?_eq_some_iff.1 h2).1⟩
set_option maxRecDepth 100000 in
set_option maxHeartbeats 1000000 in
theorem credOf_any (h : Role) (s : List UInt8) (W : World) (hs : s.length ≤ 100000) (hg : Glob W) :
    Calls Tryz.prog 59 #[rV h, S s] W fun e w' => e = .returned (cV (ofP h s)) ∧ Ext W w' := by
  have hg1 := Lib.hid hg
  have hc1 := cut_le s ampS
  have HC := Lib.hid (fun W => sCut_any s ampS W (by omega))
  obtain ⟨⟨c1, c2, c3⟩, hcc⟩ : ∃ p, Lib.cut s ampS = p := ⟨_, rfl⟩
  have HO : Hid (ofP h s = if c3 = true then ⟨4, h, [], roleP1 c1, roleP1 c2, []⟩ else if Lib.countByte s 46 = 0 then ⟨1, h, s, nR, nR, []⟩ else if Lib.countByte s 46 = 1 then ⟨2, h, [], roleP1 c1, nR, []⟩
      else ⟨3, h, [], roleP1 (s.take (Lib.lastIndex s [46]).toNat), nR, s.drop ((Lib.lastIndex s [46]).toNat + 1)⟩) := Lib.hid (by unfold ofP; rw [hcc])
  rw [hcc] at HC hc1
  simp only at HC hc1
  clear hcc hg
  have HP1 := Lib.hid (fun W => roleParse_any c1 W (by omega))
  have HP2 := Lib.hid (fun W => roleParse_any c2 W (by omega))
  have HLI := Lib.hid (fun W => sLast_any s W (by omega))
  have HCN := Lib.hid (fun W => sCount_any s W)
  have hlp := @lastIndex_pos s
  have hcl : Lib.countByte s 46 ≤ s.length := List.count_le_length
  obtain ⟨p1, hp1⟩ : ∃ p, roleP1 c1 = p := ⟨_, rfl⟩
  obtain ⟨p2, hp2⟩ : ∃ p, roleP1 c2 = p := ⟨_, rfl⟩
  obtain ⟨q1, hq1⟩ : ∃ p, (roleP c1).isSome = p := ⟨_, rfl⟩
  obtain ⟨q2, hq2⟩ : ∃ p, (roleP c2).isSome = p := ⟨_, rfl⟩
  obtain ⟨li, hli⟩ : ∃ i, Lib.lastIndex s [46] = i := ⟨_, rfl⟩
  obtain ⟨cn, hcn⟩ : ∃ i, Lib.countByte s 46 = i := ⟨_, rfl⟩
  rw [hp1, hp2, hli, hcn] at HO
  rw [hp1, hq1] at HP1
  rw [hp2, hq2] at HP2
  rw [hli] at HLI hlp
  rw [hcn] at HCN hlp hcl
  clear hp1 hp2 hq1 hq2 hli hcn
  have HLP := Lib.hid hlp
  clear hlp
  have st := Own.startOld W
  unfold cV S
  unfold rV S at *
  unfold ampS at HC
  (try simp only [nsl, Value.cells, unB] at st)
  (try clear hc); have hc := st.facts; (try simp only [nfl, nft, Nat.reduceAdd] at hc)
  have hgw : ∀ {w}, Own (fun _ => False) (fun _ => True) W [oldI W] w → Glob w := fun st => hg1.out.ext st.ext0
  go_enter Tryz.func59, Tryz.ntmps59
  go_wp2_with ((first
        | ((with_reducible refine wl_box ?_ (fun K hK => ?_)); rfl; refine owp_box (o := ⟨some 2, _, _, _, _, _⟩) rfl st ?_; apply Exists.intro; refine ⟨?_, ?_⟩; (focus (go_simp; try rfl)); (clear st; intro b2 w hb st; clear hb))
        | ((with_reducible refine wl_alloc ?_ (fun K hK => ?_)); rfl; refine owp_alloc (o := ⟨some 4, _, _, _, _, _⟩) rfl st ?_; apply Exists.intro; apply Exists.intro; refine ⟨?_, ?_⟩; (focus (first | (go_simp; done) | (go_simp; rfl))); (clear st; intro b4 w hb st; clear hb))
        | ((with_reducible refine wl_alloc ?_ (fun K hK => ?_)); rfl; refine owp_alloc (o := ⟨some 8, _, _, _, _, _⟩) rfl st ?_; apply Exists.intro; apply Exists.intro; refine ⟨?_, ?_⟩; (focus (first | (go_simp; done) | (go_simp; rfl))); (clear st; intro b8 w hb st; clear hb))
        | ((with_reducible refine wl_store ?_ (fun K hK => ?_)); rfl; refine owp_store rfl st ?_; apply Exists.intro; apply Exists.intro; refine ⟨?_, ?_, ?_⟩; (focus (go_simp; try rfl)); (focus (go_simp; try rfl)); (first | (with_reducible refine ⟨0, _, _, _, _, get0, rfl, rfl, ?_, ?_, ?_, ?_⟩) | (with_reducible refine ⟨1, _, _, _, _, get1, rfl, rfl, ?_, ?_, ?_, ?_⟩) | (with_reducible refine ⟨2, _, _, _, _, get2, rfl, rfl, ?_, ?_, ?_, ?_⟩) | (with_reducible refine ⟨3, _, _, _, _, get3, rfl, rfl, ?_, ?_, ?_, ?_⟩) | (with_reducible refine ⟨4, _, _, _, _, get4, rfl, rfl, ?_, ?_, ?_, ?_⟩) | (with_reducible refine ⟨5, _, _, _, _, get5, rfl, rfl, ?_, ?_, ?_, ?_⟩)); (kernel_rfl); (simp [Value.cells]); (rfl); (clear st; intro w st))
        | ((with_reducible refine wl_alloc ?_ (fun K hK => ?_)); rfl; refine owp_alloc (o := ⟨some 10, _, _, _, _, _⟩) rfl st ?_; apply Exists.intro; apply Exists.intro; refine ⟨?_, ?_⟩; (focus (first | (go_simp; done) | (go_simp; rfl))); (clear st; intro b10 w hb st; clear hb))
        | ((with_reducible refine wl_alloc ?_ (fun K hK => ?_)); rfl; refine owp_alloc (o := ⟨some 13, _, _, _, _, _⟩) rfl st ?_; apply Exists.intro; apply Exists.intro; refine ⟨?_, ?_⟩; (focus (first | (go_simp; done) | (go_simp; rfl))); (clear st; intro b13 w hb st; clear hb))); (try simp only [nsl, Value.cells, unB] at st); (try clear hc); have hc := st.facts; (try simp only [nfl, nft, Nat.reduceAdd] at hc))
  refine (HC.out _ (hg1.out.ext st.ext0)).mono ?_
  rintro en w ⟨rfl, hx⟩
  replace st := st.ext hx
  clear hx
  (try clear hc); have hc := st.facts; (try simp only [nfl, nft, Nat.reduceAdd] at hc)
  go_wp2_with ((first
        | ((with_reducible refine wl_box ?_ (fun K hK => ?_)); rfl; refine owp_box (o := ⟨some 2, _, _, _, _, _⟩) rfl st ?_; apply Exists.intro; refine ⟨?_, ?_⟩; (focus (go_simp; try rfl)); (clear st; intro b2 w hb st; clear hb))
        | ((with_reducible refine wl_alloc ?_ (fun K hK => ?_)); rfl; refine owp_alloc (o := ⟨some 4, _, _, _, _, _⟩) rfl st ?_; apply Exists.intro; apply Exists.intro; refine ⟨?_, ?_⟩; (focus (first | (go_simp; done) | (go_simp; rfl))); (clear st; intro b4 w hb st; clear hb))
        | ((with_reducible refine wl_alloc ?_ (fun K hK => ?_)); rfl; refine owp_alloc (o := ⟨some 8, _, _, _, _, _⟩) rfl st ?_; apply Exists.intro; apply Exists.intro; refine ⟨?_, ?_⟩; (focus (first | (go_simp; done) | (go_simp; rfl))); (clear st; intro b8 w hb st; clear hb))
        | ((with_reducible refine wl_store ?_ (fun K hK => ?_)); rfl; refine owp_store rfl st ?_; apply Exists.intro; apply Exists.intro; refine ⟨?_, ?_, ?_⟩; (focus (go_simp; try rfl)); (focus (go_simp; try rfl)); (first | (with_reducible refine ⟨0, _, _, _, _, get0, rfl, rfl, ?_, ?_, ?_, ?_⟩) | (with_reducible refine ⟨1, _, _, _, _, get1, rfl, rfl, ?_, ?_, ?_, ?_⟩) | (with_reducible refine ⟨2, _, _, _, _, get2, rfl, rfl, ?_, ?_, ?_, ?_⟩) | (with_reducible refine ⟨3, _, _, _, _, get3, rfl, rfl, ?_, ?_, ?_, ?_⟩) | (with_reducible refine ⟨4, _, _, _, _, get4, rfl, rfl, ?_, ?_, ?_, ?_⟩) | (with_reducible refine ⟨5, _, _, _, _, get5, rfl, rfl, ?_, ?_, ?_, ?_⟩)); (kernel_rfl); (simp [Value.cells]); (rfl); (clear st; intro w st))
        | ((with_reducible refine wl_alloc ?_ (fun K hK => ?_)); rfl; refine owp_alloc (o := ⟨some 10, _, _, _, _, _⟩) rfl st ?_; apply Exists.intro; apply Exists.intro; refine ⟨?_, ?_⟩; (focus (first | (go_simp; done) | (go_simp; rfl))); (clear st; intro b10 w hb st; clear hb))
        | ((with_reducible refine wl_alloc ?_ (fun K hK => ?_)); rfl; refine owp_alloc (o := ⟨some 13, _, _, _, _, _⟩) rfl st ?_; apply Exists.intro; apply Exists.intro; refine ⟨?_, ?_⟩; (focus (first | (go_simp; done) | (go_simp; rfl))); (clear st; intro b13 w hb st; clear hb))); (try simp only [nsl, Value.cells, unB] at st); (try clear hc); have hc := st.facts; (try simp only [nfl, nft, Nat.reduceAdd] at hc))
  refine (HP1.out _).mono ?_
  rintro en w ⟨rfl, hx⟩
  replace st := st.ext hx
  clear hx
  (try clear hc); have hc := st.facts; (try simp only [nfl, nft, Nat.reduceAdd] at hc)
  go_wp2_with ((first
        | ((with_reducible refine wl_box ?_ (fun K hK => ?_)); rfl; refine owp_box (o := ⟨some 2, _, _, _, _, _⟩) rfl st ?_; apply Exists.intro; refine ⟨?_, ?_⟩; (focus (go_simp; try rfl)); (clear st; intro b2 w hb st; clear hb))
        | ((with_reducible refine wl_alloc ?_ (fun K hK => ?_)); rfl; refine owp_alloc (o := ⟨some 4, _, _, _, _, _⟩) rfl st ?_; apply Exists.intro; apply Exists.intro; refine ⟨?_, ?_⟩; (focus (first | (go_simp; done) | (go_simp; rfl))); (clear st; intro b4 w hb st; clear hb))
        | ((with_reducible refine wl_alloc ?_ (fun K hK => ?_)); rfl; refine owp_alloc (o := ⟨some 8, _, _, _, _, _⟩) rfl st ?_; apply Exists.intro; apply Exists.intro; refine ⟨?_, ?_⟩; (focus (first | (go_simp; done) | (go_simp; rfl))); (clear st; intro b8 w hb st; clear hb))
        | ((with_reducible refine wl_store ?_ (fun K hK => ?_)); rfl; refine owp_store rfl st ?_; apply Exists.intro; apply Exists.intro; refine ⟨?_, ?_, ?_⟩; (focus (go_simp; try rfl)); (focus (go_simp; try rfl)); (first | (with_reducible refine ⟨0, _, _, _, _, get0, rfl, rfl, ?_, ?_, ?_, ?_⟩) | (with_reducible refine ⟨1, _, _, _, _, get1, rfl, rfl, ?_, ?_, ?_, ?_⟩) | (with_reducible refine ⟨2, _, _, _, _, get2, rfl, rfl, ?_, ?_, ?_, ?_⟩) | (with_reducible refine ⟨3, _, _, _, _, get3, rfl, rfl, ?_, ?_, ?_, ?_⟩) | (with_reducible refine ⟨4, _, _, _, _, get4, rfl, rfl, ?_, ?_, ?_, ?_⟩) | (with_reducible refine ⟨5, _, _, _, _, get5, rfl, rfl, ?_, ?_, ?_, ?_⟩)); (kernel_rfl); (simp [Value.cells]); (rfl); (clear st; intro w st))
        | ((with_reducible refine wl_alloc ?_ (fun K hK => ?_)); rfl; refine owp_alloc (o := ⟨some 10, _, _, _, _, _⟩) rfl st ?_; apply Exists.intro; apply Exists.intro; refine ⟨?_, ?_⟩; (focus (first | (go_simp; done) | (go_simp; rfl))); (clear st; intro b10 w hb st; clear hb))
        | ((with_reducible refine wl_alloc ?_ (fun K hK => ?_)); rfl; refine owp_alloc (o := ⟨some 13, _, _, _, _, _⟩) rfl st ?_; apply Exists.intro; apply Exists.intro; refine ⟨?_, ?_⟩; (focus (first | (go_simp; done) | (go_simp; rfl))); (clear st; intro b13 w hb st; clear hb))); (try simp only [nsl, Value.cells, unB] at st); (try clear hc); have hc := st.facts; (try simp only [nfl, nft, Nat.reduceAdd] at hc))
  refine (HP2.out _).mono ?_
  rintro en w ⟨rfl, hx⟩
  replace st := st.ext hx
  clear hx
  (try clear hc); have hc := st.facts; (try simp only [nfl, nft, Nat.reduceAdd] at hc)
  go_wp2_with ((first
        | ((with_reducible refine wl_box ?_ (fun K hK => ?_)); rfl; refine owp_box (o := ⟨some 2, _, _, _, _, _⟩) rfl st ?_; apply Exists.intro; refine ⟨?_, ?_⟩; (focus (go_simp; try rfl)); (clear st; intro b2 w hb st; clear hb))
        | ((with_reducible refine wl_alloc ?_ (fun K hK => ?_)); rfl; refine owp_alloc (o := ⟨some 4, _, _, _, _, _⟩) rfl st ?_; apply Exists.intro; apply Exists.intro; refine ⟨?_, ?_⟩; (focus (first | (go_simp; done) | (go_simp; rfl))); (clear st; intro b4 w hb st; clear hb))
        | ((with_reducible refine wl_alloc ?_ (fun K hK => ?_)); rfl; refine owp_alloc (o := ⟨some 8, _, _, _, _, _⟩) rfl st ?_; apply Exists.intro; apply Exists.intro; refine ⟨?_, ?_⟩; (focus (first | (go_simp; done) | (go_simp; rfl))); (clear st; intro b8 w hb st; clear hb))
        | ((with_reducible refine wl_store ?_ (fun K hK => ?_)); rfl; refine owp_store rfl st ?_; apply Exists.intro; apply Exists.intro; refine ⟨?_, ?_, ?_⟩; (focus (go_simp; try rfl)); (focus (go_simp; try rfl)); (first | (with_reducible refine ⟨0, _, _, _, _, get0, rfl, rfl, ?_, ?_, ?_, ?_⟩) | (with_reducible refine ⟨1, _, _, _, _, get1, rfl, rfl, ?_, ?_, ?_, ?_⟩) | (with_reducible refine ⟨2, _, _, _, _, get2, rfl, rfl, ?_, ?_, ?_, ?_⟩) | (with_reducible refine ⟨3, _, _, _, _, get3, rfl, rfl, ?_, ?_, ?_, ?_⟩) | (with_reducible refine ⟨4, _, _, _, _, get4, rfl, rfl, ?_, ?_, ?_, ?_⟩) | (with_reducible refine ⟨5, _, _, _, _, get5, rfl, rfl, ?_, ?_, ?_, ?_⟩)); (kernel_rfl); (simp [Value.cells]); (rfl); (clear st; intro w st))
        | ((with_reducible refine wl_alloc ?_ (fun K hK => ?_)); rfl; refine owp_alloc (o := ⟨some 10, _, _, _, _, _⟩) rfl st ?_; apply Exists.intro; apply Exists.intro; refine ⟨?_, ?_⟩; (focus (first | (go_simp; done) | (go_simp; rfl))); (clear st; intro b10 w hb st; clear hb))
        | ((with_reducible refine wl_alloc ?_ (fun K hK => ?_)); rfl; refine owp_alloc (o := ⟨some 13, _, _, _, _, _⟩) rfl st ?_; apply Exists.intro; apply Exists.intro; refine ⟨?_, ?_⟩; (focus (first | (go_simp; done) | (go_simp; rfl))); (clear st; intro b13 w hb st; clear hb))); (try simp only [nsl, Value.cells, unB] at st); (try clear hc); have hc := st.facts; (try simp only [nfl, nft, Nat.reduceAdd] at hc))
  refine (HLI.out _).mono ?_
  rintro en w ⟨rfl, hx⟩
  replace st := st.ext hx
  clear hx
  (try clear hc); have hc := st.facts; (try simp only [nfl, nft, Nat.reduceAdd] at hc)
  cases c3 with
  | true =>
    obtain ⟨b1, b2⟩ := p1
    obtain ⟨d1, d2⟩ := p2
    obtain ⟨h1, h2⟩ := h
    go_wp2_with ((first
          | ((with_reducible refine wl_box ?_ (fun K hK => ?_)); rfl; refine owp_box (o := ⟨some 2, _, _, _, _, _⟩) rfl st ?_; apply Exists.intro; refine ⟨?_, ?_⟩; (focus (go_simp; try rfl)); (clear st; intro b2 w hb st; clear hb))
          | ((with_reducible refine wl_alloc ?_ (fun K hK => ?_)); rfl; refine owp_alloc (o := ⟨some 4, _, _, _, _, _⟩) rfl st ?_; apply Exists.intro; apply Exists.intro; refine ⟨?_, ?_⟩; (focus (first | (go_simp; done) | (go_simp; rfl))); (clear st; intro b4 w hb st; clear hb))
          | ((with_reducible refine wl_alloc ?_ (fun K hK => ?_)); rfl; refine owp_alloc (o := ⟨some 8, _, _, _, _, _⟩) rfl st ?_; apply Exists.intro; apply Exists.intro; refine ⟨?_, ?_⟩; (focus (first | (go_simp; done) | (go_simp; rfl))); (clear st; intro b8 w hb st; clear hb))
          | ((with_reducible refine wl_store ?_ (fun K hK => ?_)); rfl; refine owp_store rfl st ?_; apply Exists.intro; apply Exists.intro; refine ⟨?_, ?_, ?_⟩; (focus (go_simp; try rfl)); (focus (go_simp; try rfl)); (first | (with_reducible refine ⟨0, _, _, _, _, get0, rfl, rfl, ?_, ?_, ?_, ?_⟩) | (with_reducible refine ⟨1, _, _, _, _, get1, rfl, rfl, ?_, ?_, ?_, ?_⟩) | (with_reducible refine ⟨2, _, _, _, _, get2, rfl, rfl, ?_, ?_, ?_, ?_⟩) | (with_reducible refine ⟨3, _, _, _, _, get3, rfl, rfl, ?_, ?_, ?_, ?_⟩) | (with_reducible refine ⟨4, _, _, _, _, get4, rfl, rfl, ?_, ?_, ?_, ?_⟩) | (with_reducible refine ⟨5, _, _, _, _, get5, rfl, rfl, ?_, ?_, ?_, ?_⟩)); (kernel_rfl); (simp [Value.cells]); (rfl); (clear st; intro w st))
          | ((with_reducible refine wl_alloc ?_ (fun K hK => ?_)); rfl; refine owp_alloc (o := ⟨some 10, _, _, _, _, _⟩) rfl st ?_; apply Exists.intro; apply Exists.intro; refine ⟨?_, ?_⟩; (focus (first | (go_simp; done) | (go_simp; rfl))); (clear st; intro b10 w hb st; clear hb))
          | ((with_reducible refine wl_alloc ?_ (fun K hK => ?_)); rfl; refine owp_alloc (o := ⟨some 13, _, _, _, _, _⟩) rfl st ?_; apply Exists.intro; apply Exists.intro; refine ⟨?_, ?_⟩; (focus (first | (go_simp; done) | (go_simp; rfl))); (clear st; intro b13 w hb st; clear hb))); (try simp only [nsl, Value.cells, unB] at st); (try clear hc); have hc := st.facts; (try simp only [nfl, nft, Nat.reduceAdd] at hc))
    (try simp only [Exit.inBlock, Exit.then])
    refine bodyPost_cell rfl rfl (st.blk (i := 2) get2) Tryz.underlying47 rfl (by kernel_rfl) rfl ?_
    exact ⟨by rw [HO.out]; rfl, st.ext0⟩
  | false =>
    obtain ⟨b1, b2⟩ := p1
    obtain ⟨h1, h2⟩ := h
    go_wp2_with ((first
          | ((with_reducible refine wl_box ?_ (fun K hK => ?_)); rfl; refine owp_box (o := ⟨some 2, _, _, _, _, _⟩) rfl st ?_; apply Exists.intro; refine ⟨?_, ?_⟩; (focus (go_simp; try rfl)); (clear st; intro b2 w hb st; clear hb))
          | ((with_reducible refine wl_alloc ?_ (fun K hK => ?_)); rfl; refine owp_alloc (o := ⟨some 4, _, _, _, _, _⟩) rfl st ?_; apply Exists.intro; apply Exists.intro; refine ⟨?_, ?_⟩; (focus (first | (go_simp; done) | (go_simp; rfl))); (clear st; intro b4 w hb st; clear hb))
          | ((with_reducible refine wl_alloc ?_ (fun K hK => ?_)); rfl; refine owp_alloc (o := ⟨some 8, _, _, _, _, _⟩) rfl st ?_; apply Exists.intro; apply Exists.intro; refine ⟨?_, ?_⟩; (focus (first | (go_simp; done) | (go_simp; rfl))); (clear st; intro b8 w hb st; clear hb))
          | ((with_reducible refine wl_store ?_ (fun K hK => ?_)); rfl; refine owp_store rfl st ?_; apply Exists.intro; apply Exists.intro; refine ⟨?_, ?_, ?_⟩; (focus (go_simp; try rfl)); (focus (go_simp; try rfl)); (first | (with_reducible refine ⟨0, _, _, _, _, get0, rfl, rfl, ?_, ?_, ?_, ?_⟩) | (with_reducible refine ⟨1, _, _, _, _, get1, rfl, rfl, ?_, ?_, ?_, ?_⟩) | (with_reducible refine ⟨2, _, _, _, _, get2, rfl, rfl, ?_, ?_, ?_, ?_⟩) | (with_reducible refine ⟨3, _, _, _, _, get3, rfl, rfl, ?_, ?_, ?_, ?_⟩) | (with_reducible refine ⟨4, _, _, _, _, get4, rfl, rfl, ?_, ?_, ?_, ?_⟩) | (with_reducible refine ⟨5, _, _, _, _, get5, rfl, rfl, ?_, ?_, ?_, ?_⟩)); (kernel_rfl); (simp [Value.cells]); (rfl); (clear st; intro w st))
          | ((with_reducible refine wl_alloc ?_ (fun K hK => ?_)); rfl; refine owp_alloc (o := ⟨some 10, _, _, _, _, _⟩) rfl st ?_; apply Exists.intro; apply Exists.intro; refine ⟨?_, ?_⟩; (focus (first | (go_simp; done) | (go_simp; rfl))); (clear st; intro b10 w hb st; clear hb))
          | ((with_reducible refine wl_alloc ?_ (fun K hK => ?_)); rfl; refine owp_alloc (o := ⟨some 13, _, _, _, _, _⟩) rfl st ?_; apply Exists.intro; apply Exists.intro; refine ⟨?_, ?_⟩; (focus (first | (go_simp; done) | (go_simp; rfl))); (clear st; intro b13 w hb st; clear hb))); (try simp only [nsl, Value.cells, unB] at st); (try clear hc); have hc := st.facts; (try simp only [nfl, nft, Nat.reduceAdd] at hc))
    refine (HCN.out _).mono ?_
    rintro en w ⟨rfl, hx⟩
    replace st := st.ext hx
    clear hx
    (try clear hc); have hc := st.facts; (try simp only [nfl, nft, Nat.reduceAdd] at hc)
    by_cases n0 : cn = 0
    · subst n0
      go_wp2_with ((first
            | ((with_reducible refine wl_box ?_ (fun K hK => ?_)); rfl; refine owp_box (o := ⟨some 2, _, _, _, _, _⟩) rfl st ?_; apply Exists.intro; refine ⟨?_, ?_⟩; (focus (go_simp; try rfl)); (clear st; intro b2 w hb st; clear hb))
            | ((with_reducible refine wl_alloc ?_ (fun K hK => ?_)); rfl; refine owp_alloc (o := ⟨some 4, _, _, _, _, _⟩) rfl st ?_; apply Exists.intro; apply Exists.intro; refine ⟨?_, ?_⟩; (focus (first | (go_simp; done) | (go_simp; rfl))); (clear st; intro b4 w hb st; clear hb))
            | ((with_reducible refine wl_alloc ?_ (fun K hK => ?_)); rfl; refine owp_alloc (o := ⟨some 8, _, _, _, _, _⟩) rfl st ?_; apply Exists.intro; apply Exists.intro; refine ⟨?_, ?_⟩; (focus (first | (go_simp; done) | (go_simp; rfl))); (clear st; intro b8 w hb st; clear hb))
            | ((with_reducible refine wl_store ?_ (fun K hK => ?_)); rfl; refine owp_store rfl st ?_; apply Exists.intro; apply Exists.intro; refine ⟨?_, ?_, ?_⟩; (focus (go_simp; try rfl)); (focus (go_simp; try rfl)); (first | (with_reducible refine ⟨0, _, _, _, _, get0, rfl, rfl, ?_, ?_, ?_, ?_⟩) | (with_reducible refine ⟨1, _, _, _, _, get1, rfl, rfl, ?_, ?_, ?_, ?_⟩) | (with_reducible refine ⟨2, _, _, _, _, get2, rfl, rfl, ?_, ?_, ?_, ?_⟩) | (with_reducible refine ⟨3, _, _, _, _, get3, rfl, rfl, ?_, ?_, ?_, ?_⟩) | (with_reducible refine ⟨4, _, _, _, _, get4, rfl, rfl, ?_, ?_, ?_, ?_⟩) | (with_reducible refine ⟨5, _, _, _, _, get5, rfl, rfl, ?_, ?_, ?_, ?_⟩)); (kernel_rfl); (simp [Value.cells]); (rfl); (clear st; intro w st))
            | ((with_reducible refine wl_alloc ?_ (fun K hK => ?_)); rfl; refine owp_alloc (o := ⟨some 10, _, _, _, _, _⟩) rfl st ?_; apply Exists.intro; apply Exists.intro; refine ⟨?_, ?_⟩; (focus (first | (go_simp; done) | (go_simp; rfl))); (clear st; intro b10 w hb st; clear hb))
            | ((with_reducible refine wl_alloc ?_ (fun K hK => ?_)); rfl; refine owp_alloc (o := ⟨some 13, _, _, _, _, _⟩) rfl st ?_; apply Exists.intro; apply Exists.intro; refine ⟨?_, ?_⟩; (focus (first | (go_simp; done) | (go_simp; rfl))); (clear st; intro b13 w hb st; clear hb))); (try simp only [nsl, Value.cells, unB] at st); (try clear hc); have hc := st.facts; (try simp only [nfl, nft, Nat.reduceAdd] at hc))
      (try simp only [Exit.inBlock, Exit.then])
      refine bodyPost_cell rfl rfl (st.blk (i := 2) get2) Tryz.underlying47 rfl (by kernel_rfl) rfl ?_
      exact ⟨by rw [HO.out]; rfl, st.ext0⟩
    · have hn0 : ((cn : Int) == 0) = false := by simp; omega
      go_wp2_with ((first
            | ((with_reducible refine wl_box ?_ (fun K hK => ?_)); rfl; refine owp_box (o := ⟨some 2, _, _, _, _, _⟩) rfl st ?_; apply Exists.intro; refine ⟨?_, ?_⟩; (focus (go_simp; try rfl)); (clear st; intro b2 w hb st; clear hb))
            | ((with_reducible refine wl_alloc ?_ (fun K hK => ?_)); rfl; refine owp_alloc (o := ⟨some 4, _, _, _, _, _⟩) rfl st ?_; apply Exists.intro; apply Exists.intro; refine ⟨?_, ?_⟩; (focus (first | (go_simp; done) | (go_simp; rfl))); (clear st; intro b4 w hb st; clear hb))
            | ((with_reducible refine wl_alloc ?_ (fun K hK => ?_)); rfl; refine owp_alloc (o := ⟨some 8, _, _, _, _, _⟩) rfl st ?_; apply Exists.intro; apply Exists.intro; refine ⟨?_, ?_⟩; (focus (first | (go_simp; done) | (go_simp; rfl))); (clear st; intro b8 w hb st; clear hb))
            | ((with_reducible refine wl_store ?_ (fun K hK => ?_)); rfl; refine owp_store rfl st ?_; apply Exists.intro; apply Exists.intro; refine ⟨?_, ?_, ?_⟩; (focus (go_simp; try rfl)); (focus (go_simp; try rfl)); (first | (with_reducible refine ⟨0, _, _, _, _, get0, rfl, rfl, ?_, ?_, ?_, ?_⟩) | (with_reducible refine ⟨1, _, _, _, _, get1, rfl, rfl, ?_, ?_, ?_, ?_⟩) | (with_reducible refine ⟨2, _, _, _, _, get2, rfl, rfl, ?_, ?_, ?_, ?_⟩) | (with_reducible refine ⟨3, _, _, _, _, get3, rfl, rfl, ?_, ?_, ?_, ?_⟩) | (with_reducible refine ⟨4, _, _, _, _, get4, rfl, rfl, ?_, ?_, ?_, ?_⟩) | (with_reducible refine ⟨5, _, _, _, _, get5, rfl, rfl, ?_, ?_, ?_, ?_⟩)); (kernel_rfl); (simp [Value.cells]); (rfl); (clear st; intro w st))
            | ((with_reducible refine wl_alloc ?_ (fun K hK => ?_)); rfl; refine owp_alloc (o := ⟨some 10, _, _, _, _, _⟩) rfl st ?_; apply Exists.intro; apply Exists.intro; refine ⟨?_, ?_⟩; (focus (first | (go_simp; done) | (go_simp; rfl))); (clear st; intro b10 w hb st; clear hb))
            | ((with_reducible refine wl_alloc ?_ (fun K hK => ?_)); rfl; refine owp_alloc (o := ⟨some 13, _, _, _, _, _⟩) rfl st ?_; apply Exists.intro; apply Exists.intro; refine ⟨?_, ?_⟩; (focus (first | (go_simp; done) | (go_simp; rfl))); (clear st; intro b13 w hb st; clear hb))); (try simp only [nsl, Value.cells, unB] at st); (try clear hc); have hc := st.facts; (try simp only [nfl, nft, Nat.reduceAdd] at hc))
      refine (HCN.out _).mono ?_
      rintro en w ⟨rfl, hx⟩
      replace st := st.ext hx
      clear hx
      (try clear hc); have hc := st.facts; (try simp only [nfl, nft, Nat.reduceAdd] at hc)
      by_cases n1 : cn = 1
      · subst n1
        go_wp2_with ((first
              | ((with_reducible refine wl_box ?_ (fun K hK => ?_)); rfl; refine owp_box (o := ⟨some 2, _, _, _, _, _⟩) rfl st ?_; apply Exists.intro; refine ⟨?_, ?_⟩; (focus (go_simp; try rfl)); (clear st; intro b2 w hb st; clear hb))
              | ((with_reducible refine wl_alloc ?_ (fun K hK => ?_)); rfl; refine owp_alloc (o := ⟨some 4, _, _, _, _, _⟩) rfl st ?_; apply Exists.intro; apply Exists.intro; refine ⟨?_, ?_⟩; (focus (first | (go_simp; done) | (go_simp; rfl))); (clear st; intro b4 w hb st; clear hb))
              | ((with_reducible refine wl_alloc ?_ (fun K hK => ?_)); rfl; refine owp_alloc (o := ⟨some 8, _, _, _, _, _⟩) rfl st ?_; apply Exists.intro; apply Exists.intro; refine ⟨?_, ?_⟩; (focus (first | (go_simp; done) | (go_simp; rfl))); (clear st; intro b8 w hb st; clear hb))
              | ((with_reducible refine wl_store ?_ (fun K hK => ?_)); rfl; refine owp_store rfl st ?_; apply Exists.intro; apply Exists.intro; refine ⟨?_, ?_, ?_⟩; (focus (go_simp; try rfl)); (focus (go_simp; try rfl)); (first | (with_reducible refine ⟨0, _, _, _, _, get0, rfl, rfl, ?_, ?_, ?_, ?_⟩) | (with_reducible refine ⟨1, _, _, _, _, get1, rfl, rfl, ?_, ?_, ?_, ?_⟩) | (with_reducible refine ⟨2, _, _, _, _, get2, rfl, rfl, ?_, ?_, ?_, ?_⟩) | (with_reducible refine ⟨3, _, _, _, _, get3, rfl, rfl, ?_, ?_, ?_, ?_⟩) | (with_reducible refine ⟨4, _, _, _, _, get4, rfl, rfl, ?_, ?_, ?_, ?_⟩) | (with_reducible refine ⟨5, _, _, _, _, get5, rfl, rfl, ?_, ?_, ?_, ?_⟩)); (kernel_rfl); (simp [Value.cells]); (rfl); (clear st; intro w st))
              | ((with_reducible refine wl_alloc ?_ (fun K hK => ?_)); rfl; refine owp_alloc (o := ⟨some 10, _, _, _, _, _⟩) rfl st ?_; apply Exists.intro; apply Exists.intro; refine ⟨?_, ?_⟩; (focus (first | (go_simp; done) | (go_simp; rfl))); (clear st; intro b10 w hb st; clear hb))
              | ((with_reducible refine wl_alloc ?_ (fun K hK => ?_)); rfl; refine owp_alloc (o := ⟨some 13, _, _, _, _, _⟩) rfl st ?_; apply Exists.intro; apply Exists.intro; refine ⟨?_, ?_⟩; (focus (first | (go_simp; done) | (go_simp; rfl))); (clear st; intro b13 w hb st; clear hb))); (try simp only [nsl, Value.cells, unB] at st); (try clear hc); have hc := st.facts; (try simp only [nfl, nft, Nat.reduceAdd] at hc))
        (try simp only [Exit.inBlock, Exit.then])
        refine bodyPost_cell rfl rfl (st.blk (i := 2) get2) Tryz.underlying47 rfl (by kernel_rfl) rfl ?_
        exact ⟨by rw [HO.out]; rfl, st.ext0⟩
      · have hn1 : ((cn : Int) == 1) = false := by simp; omega
        obtain ⟨i, hi, hil⟩ := HLP.out n0
        subst hi
        have HN := Lib.hid (And.intro n0 n1)
        clear n0 n1
        have hsz : (⟨s.toArray⟩ : ByteArray).size = s.length := by simp [ByteArray.size]
        have e1 : (⟨s.toArray⟩ : ByteArray).extract 0 i = ⟨(s.take i).toArray⟩ := by apply ByteArray.ext; rw [ByteArray.data_extract]; simp [List.extract_eq_take_drop]
        have e2 : (⟨s.toArray⟩ : ByteArray).extract (i + 1) s.length = ⟨(s.drop (i + 1)).toArray⟩ := by apply ByteArray.ext; rw [ByteArray.data_extract]; simp only [List.extract_toArray, List.extract_eq_take_drop]; rw [List.take_of_length_le (by simp)]
        have hw1 : IntKind.i64.wrap ((i : Int) + 1) = ((i + 1 : Nat) : Int) := IntWalk.i64_in _ ⟨by omega, by omega⟩
        have HP3 := Lib.hid (fun W => roleParse_any (s.take i) W (by simp; omega))
        simp only [Int.toNat_natCast] at HO
        obtain ⟨⟨u1, u2⟩, hp3⟩ : ∃ p, roleP1 (s.take i) = p := ⟨_, rfl⟩
        obtain ⟨q3, hq3⟩ : ∃ p, (roleP (s.take i)).isSome = p := ⟨_, rfl⟩
        rw [hp3] at HO HP3
        rw [hq3] at HP3
        clear hp3 hq3
        have HE := Lib.hid (And.intro e1 e2)
        clear e1 e2
        obtain ⟨tk, htk⟩ : ∃ t, s.take i = t := ⟨_, rfl⟩
        obtain ⟨dp, hdp⟩ : ∃ t, s.drop (i + 1) = t := ⟨_, rfl⟩
        rw [htk] at HP3 HE
        rw [hdp] at HO HE
        clear htk hdp
        unfold rV S at HP3
        go_wp2_with ((first
              | ((with_reducible refine wl_box ?_ (fun K hK => ?_)); rfl; refine owp_box (o := ⟨some 2, _, _, _, _, _⟩) rfl st ?_; apply Exists.intro; refine ⟨?_, ?_⟩; (focus (go_simp; try rfl)); (clear st; intro b2 w hb st; clear hb))
              | ((with_reducible refine wl_alloc ?_ (fun K hK => ?_)); rfl; refine owp_alloc (o := ⟨some 4, _, _, _, _, _⟩) rfl st ?_; apply Exists.intro; apply Exists.intro; refine ⟨?_, ?_⟩; (focus (first | (go_simp; done) | (go_simp; rfl))); (clear st; intro b4 w hb st; clear hb))
              | ((with_reducible refine wl_alloc ?_ (fun K hK => ?_)); rfl; refine owp_alloc (o := ⟨some 8, _, _, _, _, _⟩) rfl st ?_; apply Exists.intro; apply Exists.intro; refine ⟨?_, ?_⟩; (focus (first | (go_simp; done) | (go_simp; rfl))); (clear st; intro b8 w hb st; clear hb))
              | ((with_reducible refine wl_store ?_ (fun K hK => ?_)); rfl; refine owp_store rfl st ?_; apply Exists.intro; apply Exists.intro; refine ⟨?_, ?_, ?_⟩; (focus (go_simp; try rfl)); (focus (go_simp; try rfl)); (first | (with_reducible refine ⟨0, _, _, _, _, get0, rfl, rfl, ?_, ?_, ?_, ?_⟩) | (with_reducible refine ⟨1, _, _, _, _, get1, rfl, rfl, ?_, ?_, ?_, ?_⟩) | (with_reducible refine ⟨2, _, _, _, _, get2, rfl, rfl, ?_, ?_, ?_, ?_⟩) | (with_reducible refine ⟨3, _, _, _, _, get3, rfl, rfl, ?_, ?_, ?_, ?_⟩) | (with_reducible refine ⟨4, _, _, _, _, get4, rfl, rfl, ?_, ?_, ?_, ?_⟩) | (with_reducible refine ⟨5, _, _, _, _, get5, rfl, rfl, ?_, ?_, ?_, ?_⟩)); (kernel_rfl); (simp [Value.cells]); (rfl); (clear st; intro w st))
              | ((with_reducible refine wl_alloc ?_ (fun K hK => ?_)); rfl; refine owp_alloc (o := ⟨some 10, _, _, _, _, _⟩) rfl st ?_; apply Exists.intro; apply Exists.intro; refine ⟨?_, ?_⟩; (focus (first | (go_simp; done) | (go_simp; rfl))); (clear st; intro b10 w hb st; clear hb))
              | ((with_reducible refine wl_alloc ?_ (fun K hK => ?_)); rfl; refine owp_alloc (o := ⟨some 13, _, _, _, _, _⟩) rfl st ?_; apply Exists.intro; apply Exists.intro; refine ⟨?_, ?_⟩; (focus (first | (go_simp; done) | (go_simp; rfl))); (clear st; intro b13 w hb st; clear hb))); (try simp only [nsl, Value.cells, unB] at st); (try clear hc); have hc := st.facts; (try simp only [nfl, nft, Nat.reduceAdd] at hc))
        rw [HE.out.1]
        refine (HP3.out _).mono ?_
        rintro en w ⟨rfl, hx⟩
        replace st := st.ext hx
        clear hx
        (try clear hc); have hc := st.facts; (try simp only [nfl, nft, Nat.reduceAdd] at hc)
        go_wp2_with ((first
              | ((with_reducible refine wl_box ?_ (fun K hK => ?_)); rfl; refine owp_box (o := ⟨some 2, _, _, _, _, _⟩) rfl st ?_; apply Exists.intro; refine ⟨?_, ?_⟩; (focus (go_simp; try rfl)); (clear st; intro b2 w hb st; clear hb))
              | ((with_reducible refine wl_alloc ?_ (fun K hK => ?_)); rfl; refine owp_alloc (o := ⟨some 4, _, _, _, _, _⟩) rfl st ?_; apply Exists.intro; apply Exists.intro; refine ⟨?_, ?_⟩; (focus (first | (go_simp; done) | (go_simp; rfl))); (clear st; intro b4 w hb st; clear hb))
              | ((with_reducible refine wl_alloc ?_ (fun K hK => ?_)); rfl; refine owp_alloc (o := ⟨some 8, _, _, _, _, _⟩) rfl st ?_; apply Exists.intro; apply Exists.intro; refine ⟨?_, ?_⟩; (focus (first | (go_simp; done) | (go_simp; rfl))); (clear st; intro b8 w hb st; clear hb))
              | ((with_reducible refine wl_store ?_ (fun K hK => ?_)); rfl; refine owp_store rfl st ?_; apply Exists.intro; apply Exists.intro; refine ⟨?_, ?_, ?_⟩; (focus (go_simp; try rfl)); (focus (go_simp; try rfl)); (first | (with_reducible refine ⟨0, _, _, _, _, get0, rfl, rfl, ?_, ?_, ?_, ?_⟩) | (with_reducible refine ⟨1, _, _, _, _, get1, rfl, rfl, ?_, ?_, ?_, ?_⟩) | (with_reducible refine ⟨2, _, _, _, _, get2, rfl, rfl, ?_, ?_, ?_, ?_⟩) | (with_reducible refine ⟨3, _, _, _, _, get3, rfl, rfl, ?_, ?_, ?_, ?_⟩) | (with_reducible refine ⟨4, _, _, _, _, get4, rfl, rfl, ?_, ?_, ?_, ?_⟩) | (with_reducible refine ⟨5, _, _, _, _, get5, rfl, rfl, ?_, ?_, ?_, ?_⟩)); (kernel_rfl); (simp [Value.cells]); (rfl); (clear st; intro w st))
              | ((with_reducible refine wl_alloc ?_ (fun K hK => ?_)); rfl; refine owp_alloc (o := ⟨some 10, _, _, _, _, _⟩) rfl st ?_; apply Exists.intro; apply Exists.intro; refine ⟨?_, ?_⟩; (focus (first | (go_simp; done) | (go_simp; rfl))); (clear st; intro b10 w hb st; clear hb))
              | ((with_reducible refine wl_alloc ?_ (fun K hK => ?_)); rfl; refine owp_alloc (o := ⟨some 13, _, _, _, _, _⟩) rfl st ?_; apply Exists.intro; apply Exists.intro; refine ⟨?_, ?_⟩; (focus (first | (go_simp; done) | (go_simp; rfl))); (clear st; intro b13 w hb st; clear hb))); (try simp only [nsl, Value.cells, unB] at st); (try clear hc); have hc := st.facts; (try simp only [nfl, nft, Nat.reduceAdd] at hc))
        refine Rg4.wp_region4_eq #[0, 0, 0, 0, 8, 28, 63, 127] [7] [0, 1] (fun _ => True) [0, 1, 2, 3, 4, 5, 6, 7] (by kernel_rfl) (by kernel_rfl) (by kernel_rfl) (by kernel_rfl) (show Rg4.PB _ by repeat (first | with_reducible exact Rg4.pb_body | with_reducible exact Rg4.pb_bodyD rfl | with_reducible refine Rg4.pb_then ?_ | with_reducible refine Rg4.pb_inBlock ?_ | with_reducible refine Rg4.pb_noGoto ?_)) (trivial) ?_
        replace st := st.drew
        change Rg4.wp4 _ _ _ _ _ _ _ _ _ (World.drew _) _ _
        generalize World.drew _ = w at st ⊢
        (try clear hc); have hc := st.facts; (try simp only [nfl, nft, Nat.reduceAdd] at hc)
        iterate 2 (refine Rg4.w4_read (Rg4.want_none rfl) rfl rfl ?_; apply Exists.intro; refine ⟨fun w' hw' hcl' => ?_, ?_⟩; focus (subst hw'; (focus (first | (go_simp; done) | (go_simp; first | rfl | (rw [if_neg] <;> first | rfl | omega) | (rw [if_pos] <;> first | rfl | omega))))); (try simp only [Rg4.nrm]))
        iterate 5 (refine Rg4.w4_any (Rg4.want_none rfl) rfl ?_; apply Exists.intro; refine ⟨fun w' => ?_, ?_⟩; (focus (first | (go_simp; done) | (go_simp; first | rfl | (rw [if_neg] <;> first | rfl | omega) | (rw [if_pos] <;> first | rfl | omega)))); (try simp only [Rg4.nrm]))
        (refine Rg4.w4_bar (Rg4.want_none rfl) rfl (fun w' hw' hcl' _ K hK => ?_); subst hw'; (refine owp_store rfl st ?_; apply Exists.intro; apply Exists.intro; refine ⟨?_, ?_, ?_⟩; (focus (go_simp; try rfl)); (focus (go_simp; try rfl)); (first | (with_reducible refine ⟨0, _, _, _, _, get0, rfl, rfl, ?_, ?_, ?_, ?_⟩) | (with_reducible refine ⟨1, _, _, _, _, get1, rfl, rfl, ?_, ?_, ?_, ?_⟩) | (with_reducible refine ⟨2, _, _, _, _, get2, rfl, rfl, ?_, ?_, ?_, ?_⟩) | (with_reducible refine ⟨3, _, _, _, _, get3, rfl, rfl, ?_, ?_, ?_, ?_⟩) | (with_reducible refine ⟨4, _, _, _, _, get4, rfl, rfl, ?_, ?_, ?_, ?_⟩) | (with_reducible refine ⟨5, _, _, _, _, get5, rfl, rfl, ?_, ?_, ?_, ?_⟩)); (kernel_rfl); (simp [Value.cells]); (rfl); (clear st; intro w st); (try simp only [nsl, Value.cells, unB] at st); (try clear hc); have hc := st.facts; (try simp only [nfl, nft, Nat.reduceAdd] at hc)); refine hK _ _ ⟨trivial, ?_⟩; (try simp only [Rg4.nrm]))
        refine Rg4.w4_nil (fun w' hw' hcl' _ => ?_); subst hw'; clear hcl'
        rw [HE.out.2] at st
        go_wp2_with ((first
              | ((with_reducible refine wl_box ?_ (fun K hK => ?_)); rfl; refine owp_box (o := ⟨some 2, _, _, _, _, _⟩) rfl st ?_; apply Exists.intro; refine ⟨?_, ?_⟩; (focus (go_simp; try rfl)); (clear st; intro b2 w hb st; clear hb))
              | ((with_reducible refine wl_alloc ?_ (fun K hK => ?_)); rfl; refine owp_alloc (o := ⟨some 4, _, _, _, _, _⟩) rfl st ?_; apply Exists.intro; apply Exists.intro; refine ⟨?_, ?_⟩; (focus (first | (go_simp; done) | (go_simp; rfl))); (clear st; intro b4 w hb st; clear hb))
              | ((with_reducible refine wl_alloc ?_ (fun K hK => ?_)); rfl; refine owp_alloc (o := ⟨some 8, _, _, _, _, _⟩) rfl st ?_; apply Exists.intro; apply Exists.intro; refine ⟨?_, ?_⟩; (focus (first | (go_simp; done) | (go_simp; rfl))); (clear st; intro b8 w hb st; clear hb))
              | ((with_reducible refine wl_store ?_ (fun K hK => ?_)); rfl; refine owp_store rfl st ?_; apply Exists.intro; apply Exists.intro; refine ⟨?_, ?_, ?_⟩; (focus (go_simp; try rfl)); (focus (go_simp; try rfl)); (first | (with_reducible refine ⟨0, _, _, _, _, get0, rfl, rfl, ?_, ?_, ?_, ?_⟩) | (with_reducible refine ⟨1, _, _, _, _, get1, rfl, rfl, ?_, ?_, ?_, ?_⟩) | (with_reducible refine ⟨2, _, _, _, _, get2, rfl, rfl, ?_, ?_, ?_, ?_⟩) | (with_reducible refine ⟨3, _, _, _, _, get3, rfl, rfl, ?_, ?_, ?_, ?_⟩) | (with_reducible refine ⟨4, _, _, _, _, get4, rfl, rfl, ?_, ?_, ?_, ?_⟩) | (with_reducible refine ⟨5, _, _, _, _, get5, rfl, rfl, ?_, ?_, ?_, ?_⟩)); (kernel_rfl); (simp [Value.cells]); (rfl); (clear st; intro w st))
              | ((with_reducible refine wl_alloc ?_ (fun K hK => ?_)); rfl; refine owp_alloc (o := ⟨some 10, _, _, _, _, _⟩) rfl st ?_; apply Exists.intro; apply Exists.intro; refine ⟨?_, ?_⟩; (focus (first | (go_simp; done) | (go_simp; rfl))); (clear st; intro b10 w hb st; clear hb))
              | ((with_reducible refine wl_alloc ?_ (fun K hK => ?_)); rfl; refine owp_alloc (o := ⟨some 13, _, _, _, _, _⟩) rfl st ?_; apply Exists.intro; apply Exists.intro; refine ⟨?_, ?_⟩; (focus (first | (go_simp; done) | (go_simp; rfl))); (clear st; intro b13 w hb st; clear hb))); (try simp only [nsl, Value.cells, unB] at st); (try clear hc); have hc := st.facts; (try simp only [nfl, nft, Nat.reduceAdd] at hc))
        (try simp only [Exit.inBlock, Exit.then])
        refine bodyPost_cell rfl rfl (st.blk (i := 2) get2) Tryz.underlying47 rfl (by kernel_rfl) rfl ?_
        exact ⟨by rw [HO.out, if_neg (by decide), if_neg HN.out.1, if_neg HN.out.2]; rfl, st.ext0⟩
theorem cV_z : cV zC = .agg #[.int .i64 0, .string ⟨#[]⟩, .string ⟨#[]⟩, .string ⟨#[]⟩, .string ⟨#[]⟩, .string ⟨#[]⟩, .string ⟨#[]⟩, .string ⟨#[]⟩, .string ⟨#[]⟩] := rfl
def refP1 (s : List UInt8) : CredT := (refP s).getD zC
theorem ofP_len (h : Role) (s : List UInt8) (hh : h.1.length ≤ 100000 ∧ h.2.length ≤ 100000) (hs : s.length ≤ 100000) : CredL 100000 (ofP h s) := by
  have hc := cut_le s ampS
  have r1 := roleP1_le (Lib.cut s ampS).1
  have r2 := roleP1_le (Lib.cut s ampS).2.1
  have r3 := roleP1_le (s.take (Lib.lastIndex s [46]).toNat)
  have r4 : (s.take (Lib.lastIndex s [46]).toNat).length ≤ s.length := by simp; omega
  unfold ofP CredL
  split
  · simp only [List.length_nil]; omega
  · split
    · simp only [nR, List.length_nil]; omega
    · split
      · simp only [nR, List.length_nil]; omega
      · simp only [nR, List.length_nil, List.length_drop]; omega
set_option maxRecDepth 100000 in
set_option maxHeartbeats 1000000 in
theorem credParse_any (s : List UInt8) (W : World) (hs : s.length ≤ 100000) (hg : Glob W) :
    Calls Tryz.prog 20 #[S s] W fun e w' => e = .returned (.tuple #[cV (refP1 s), .bool (refP s).isSome]) ∧ Ext W w' := by
  have hg1 := Lib.hid hg
  have hc1 := cut_le s arrow
  have HC := Lib.hid (fun W => sCut_any s arrow W (by omega))
  unfold refP1
  rw [← progP_eq s]
  obtain ⟨⟨c1, c2, c3⟩, hcc⟩ : ∃ p, Lib.cut s arrow = p := ⟨_, rfl⟩
  have HO : Hid (progP s = if c3 = true ∧ (roleP c1).isSome = true then (if credTy (ofP (roleP1 c1) c2) = s then some (ofP (roleP1 c1) c2) else none) else none) := Lib.hid (by unfold progP; rw [hcc])
  rw [hcc] at HC hc1
  simp only at HC hc1
  clear hcc hg
  have HP1 := Lib.hid (fun W => roleParse_any c1 W (by omega))
  have hrl := roleP1_le c1
  have hol := ofP_len (roleP1 c1) c2 (by omega) (by omega)
  have HOF := Lib.hid (fun W hg => credOf_any (roleP1 c1) c2 W (by omega) hg)
  obtain ⟨⟨p1, p2⟩, hp1⟩ : ∃ p, roleP1 c1 = p := ⟨_, rfl⟩
  obtain ⟨q1, hq1⟩ : ∃ p, (roleP c1).isSome = p := ⟨_, rfl⟩
  rw [hp1] at HP1 HO HOF hol
  rw [hq1] at HP1 HO
  clear hp1 hq1
  obtain ⟨x, hx0⟩ : ∃ x, ofP (p1, p2) c2 = x := ⟨_, rfl⟩
  rw [hx0] at HO HOF hol
  clear hx0
  have HT := Lib.hid (fun W => credText_any x W hol)
  obtain ⟨t, ht0⟩ : ∃ t, credTy x = t := ⟨_, rfl⟩
  rw [ht0] at HO HT
  clear ht0 hol
  have HZ := Lib.hid cV_z
  have st := Own.startOld W
  unfold rV S at *
  unfold arrow at HC
  have HV : Hid (cV x = .agg #[.int .i64 x.k, .string ⟨x.h.1.toArray⟩, .string ⟨x.h.2.toArray⟩, .string ⟨x.w.toArray⟩, .string ⟨x.b.1.toArray⟩, .string ⟨x.b.2.toArray⟩, .string ⟨x.c.1.toArray⟩, .string ⟨x.c.2.toArray⟩, .string ⟨x.e.toArray⟩]) := Lib.hid rfl
  rw [HV.out] at HOF HT
  (try simp only [nsl, Value.cells, unB] at st)
  (try clear hc); have hc := st.facts; (try simp only [nfl, nft, Nat.reduceAdd] at hc)
  go_enter Tryz.func20, Tryz.ntmps20
  go_wp2_with ((first
        | ((with_reducible refine wl_alloc ?_ (fun K hK => ?_)); rfl; refine owp_alloc (o := ⟨some 2, _, _, _, _, _⟩) rfl st ?_; apply Exists.intro; apply Exists.intro; refine ⟨?_, ?_⟩; (focus (first | (go_simp; done) | (go_simp; rfl))); (clear st; intro b2 w hb st; clear hb))
        | ((with_reducible refine wl_alloc ?_ (fun K hK => ?_)); rfl; refine owp_alloc (o := ⟨some 7, _, _, _, _, _⟩) rfl st ?_; apply Exists.intro; apply Exists.intro; refine ⟨?_, ?_⟩; (focus (first | (go_simp; done) | (go_simp; rfl))); (clear st; intro b7 w hb st; clear hb))
        | ((with_reducible refine wl_store ?_ (fun K hK => ?_)); rfl; refine owp_store rfl st ?_; apply Exists.intro; apply Exists.intro; refine ⟨?_, ?_, ?_⟩; (focus (go_simp; try rfl)); (focus (go_simp; try rfl)); (first | (with_reducible refine ⟨0, _, _, _, _, get0, rfl, rfl, ?_, ?_, ?_, ?_⟩) | (with_reducible refine ⟨1, _, _, _, _, get1, rfl, rfl, ?_, ?_, ?_, ?_⟩) | (with_reducible refine ⟨2, _, _, _, _, get2, rfl, rfl, ?_, ?_, ?_, ?_⟩) | (with_reducible refine ⟨3, _, _, _, _, get3, rfl, rfl, ?_, ?_, ?_, ?_⟩) | (with_reducible refine ⟨4, _, _, _, _, get4, rfl, rfl, ?_, ?_, ?_, ?_⟩) | (with_reducible refine ⟨5, _, _, _, _, get5, rfl, rfl, ?_, ?_, ?_, ?_⟩)); (kernel_rfl); (simp [Value.cells]); (rfl); (clear st; intro w st))
        | ((with_reducible refine wl_alloc ?_ (fun K hK => ?_)); rfl; refine owp_alloc (o := ⟨some 9, _, _, _, _, _⟩) rfl st ?_; apply Exists.intro; apply Exists.intro; refine ⟨?_, ?_⟩; (focus (first | (go_simp; done) | (go_simp; rfl))); (clear st; intro b9 w hb st; clear hb))); (try simp only [nsl, Value.cells, unB] at st); (try clear hc); have hc := st.facts; (try simp only [nfl, nft, Nat.reduceAdd] at hc))
  refine (HC.out _ (hg1.out.ext st.ext0)).mono ?_
  rintro en w ⟨rfl, hx⟩
  replace st := st.ext hx
  clear hx
  (try clear hc); have hc := st.facts; (try simp only [nfl, nft, Nat.reduceAdd] at hc)
  go_wp2_with ((first
        | ((with_reducible refine wl_alloc ?_ (fun K hK => ?_)); rfl; refine owp_alloc (o := ⟨some 2, _, _, _, _, _⟩) rfl st ?_; apply Exists.intro; apply Exists.intro; refine ⟨?_, ?_⟩; (focus (first | (go_simp; done) | (go_simp; rfl))); (clear st; intro b2 w hb st; clear hb))
        | ((with_reducible refine wl_alloc ?_ (fun K hK => ?_)); rfl; refine owp_alloc (o := ⟨some 7, _, _, _, _, _⟩) rfl st ?_; apply Exists.intro; apply Exists.intro; refine ⟨?_, ?_⟩; (focus (first | (go_simp; done) | (go_simp; rfl))); (clear st; intro b7 w hb st; clear hb))
        | ((with_reducible refine wl_store ?_ (fun K hK => ?_)); rfl; refine owp_store rfl st ?_; apply Exists.intro; apply Exists.intro; refine ⟨?_, ?_, ?_⟩; (focus (go_simp; try rfl)); (focus (go_simp; try rfl)); (first | (with_reducible refine ⟨0, _, _, _, _, get0, rfl, rfl, ?_, ?_, ?_, ?_⟩) | (with_reducible refine ⟨1, _, _, _, _, get1, rfl, rfl, ?_, ?_, ?_, ?_⟩) | (with_reducible refine ⟨2, _, _, _, _, get2, rfl, rfl, ?_, ?_, ?_, ?_⟩) | (with_reducible refine ⟨3, _, _, _, _, get3, rfl, rfl, ?_, ?_, ?_, ?_⟩) | (with_reducible refine ⟨4, _, _, _, _, get4, rfl, rfl, ?_, ?_, ?_, ?_⟩) | (with_reducible refine ⟨5, _, _, _, _, get5, rfl, rfl, ?_, ?_, ?_, ?_⟩)); (kernel_rfl); (simp [Value.cells]); (rfl); (clear st; intro w st))
        | ((with_reducible refine wl_alloc ?_ (fun K hK => ?_)); rfl; refine owp_alloc (o := ⟨some 9, _, _, _, _, _⟩) rfl st ?_; apply Exists.intro; apply Exists.intro; refine ⟨?_, ?_⟩; (focus (first | (go_simp; done) | (go_simp; rfl))); (clear st; intro b9 w hb st; clear hb))); (try simp only [nsl, Value.cells, unB] at st); (try clear hc); have hc := st.facts; (try simp only [nfl, nft, Nat.reduceAdd] at hc))
  refine (HP1.out _).mono ?_
  rintro en w ⟨rfl, hx⟩
  replace st := st.ext hx
  clear hx
  (try clear hc); have hc := st.facts; (try simp only [nfl, nft, Nat.reduceAdd] at hc)
  cases c3 with
  | false =>
    go_wp2_with ((first
          | ((with_reducible refine wl_alloc ?_ (fun K hK => ?_)); rfl; refine owp_alloc (o := ⟨some 2, _, _, _, _, _⟩) rfl st ?_; apply Exists.intro; apply Exists.intro; refine ⟨?_, ?_⟩; (focus (first | (go_simp; done) | (go_simp; rfl))); (clear st; intro b2 w hb st; clear hb))
          | ((with_reducible refine wl_alloc ?_ (fun K hK => ?_)); rfl; refine owp_alloc (o := ⟨some 7, _, _, _, _, _⟩) rfl st ?_; apply Exists.intro; apply Exists.intro; refine ⟨?_, ?_⟩; (focus (first | (go_simp; done) | (go_simp; rfl))); (clear st; intro b7 w hb st; clear hb))
          | ((with_reducible refine wl_store ?_ (fun K hK => ?_)); rfl; refine owp_store rfl st ?_; apply Exists.intro; apply Exists.intro; refine ⟨?_, ?_, ?_⟩; (focus (go_simp; try rfl)); (focus (go_simp; try rfl)); (first | (with_reducible refine ⟨0, _, _, _, _, get0, rfl, rfl, ?_, ?_, ?_, ?_⟩) | (with_reducible refine ⟨1, _, _, _, _, get1, rfl, rfl, ?_, ?_, ?_, ?_⟩) | (with_reducible refine ⟨2, _, _, _, _, get2, rfl, rfl, ?_, ?_, ?_, ?_⟩) | (with_reducible refine ⟨3, _, _, _, _, get3, rfl, rfl, ?_, ?_, ?_, ?_⟩) | (with_reducible refine ⟨4, _, _, _, _, get4, rfl, rfl, ?_, ?_, ?_, ?_⟩) | (with_reducible refine ⟨5, _, _, _, _, get5, rfl, rfl, ?_, ?_, ?_, ?_⟩)); (kernel_rfl); (simp [Value.cells]); (rfl); (clear st; intro w st))
          | ((with_reducible refine wl_alloc ?_ (fun K hK => ?_)); rfl; refine owp_alloc (o := ⟨some 9, _, _, _, _, _⟩) rfl st ?_; apply Exists.intro; apply Exists.intro; refine ⟨?_, ?_⟩; (focus (first | (go_simp; done) | (go_simp; rfl))); (clear st; intro b9 w hb st; clear hb))); (try simp only [nsl, Value.cells, unB] at st); (try clear hc); have hc := st.facts; (try simp only [nfl, nft, Nat.reduceAdd] at hc))
    (try simp only [Exit.inBlock, Exit.then])
    refine bodyPost_cell2 rfl rfl (st.blk (i := 1) get1) Tryz.underlying47 rfl (by kernel_rfl) rfl ?_
    exact ⟨by rw [HO.out]; rfl, st.ext0⟩
  | true =>
    cases q1 with
    | false =>
      go_wp2_with ((first
            | ((with_reducible refine wl_alloc ?_ (fun K hK => ?_)); rfl; refine owp_alloc (o := ⟨some 2, _, _, _, _, _⟩) rfl st ?_; apply Exists.intro; apply Exists.intro; refine ⟨?_, ?_⟩; (focus (first | (go_simp; done) | (go_simp; rfl))); (clear st; intro b2 w hb st; clear hb))
            | ((with_reducible refine wl_alloc ?_ (fun K hK => ?_)); rfl; refine owp_alloc (o := ⟨some 7, _, _, _, _, _⟩) rfl st ?_; apply Exists.intro; apply Exists.intro; refine ⟨?_, ?_⟩; (focus (first | (go_simp; done) | (go_simp; rfl))); (clear st; intro b7 w hb st; clear hb))
            | ((with_reducible refine wl_store ?_ (fun K hK => ?_)); rfl; refine owp_store rfl st ?_; apply Exists.intro; apply Exists.intro; refine ⟨?_, ?_, ?_⟩; (focus (go_simp; try rfl)); (focus (go_simp; try rfl)); (first | (with_reducible refine ⟨0, _, _, _, _, get0, rfl, rfl, ?_, ?_, ?_, ?_⟩) | (with_reducible refine ⟨1, _, _, _, _, get1, rfl, rfl, ?_, ?_, ?_, ?_⟩) | (with_reducible refine ⟨2, _, _, _, _, get2, rfl, rfl, ?_, ?_, ?_, ?_⟩) | (with_reducible refine ⟨3, _, _, _, _, get3, rfl, rfl, ?_, ?_, ?_, ?_⟩) | (with_reducible refine ⟨4, _, _, _, _, get4, rfl, rfl, ?_, ?_, ?_, ?_⟩) | (with_reducible refine ⟨5, _, _, _, _, get5, rfl, rfl, ?_, ?_, ?_, ?_⟩)); (kernel_rfl); (simp [Value.cells]); (rfl); (clear st; intro w st))
            | ((with_reducible refine wl_alloc ?_ (fun K hK => ?_)); rfl; refine owp_alloc (o := ⟨some 9, _, _, _, _, _⟩) rfl st ?_; apply Exists.intro; apply Exists.intro; refine ⟨?_, ?_⟩; (focus (first | (go_simp; done) | (go_simp; rfl))); (clear st; intro b9 w hb st; clear hb))); (try simp only [nsl, Value.cells, unB] at st); (try clear hc); have hc := st.facts; (try simp only [nfl, nft, Nat.reduceAdd] at hc))
      (try simp only [Exit.inBlock, Exit.then])
      refine bodyPost_cell2 rfl rfl (st.blk (i := 1) get1) Tryz.underlying47 rfl (by kernel_rfl) rfl ?_
      exact ⟨by rw [HO.out]; rfl, st.ext0⟩
    | true =>
      go_wp2_with ((first
            | ((with_reducible refine wl_alloc ?_ (fun K hK => ?_)); rfl; refine owp_alloc (o := ⟨some 2, _, _, _, _, _⟩) rfl st ?_; apply Exists.intro; apply Exists.intro; refine ⟨?_, ?_⟩; (focus (first | (go_simp; done) | (go_simp; rfl))); (clear st; intro b2 w hb st; clear hb))
            | ((with_reducible refine wl_alloc ?_ (fun K hK => ?_)); rfl; refine owp_alloc (o := ⟨some 7, _, _, _, _, _⟩) rfl st ?_; apply Exists.intro; apply Exists.intro; refine ⟨?_, ?_⟩; (focus (first | (go_simp; done) | (go_simp; rfl))); (clear st; intro b7 w hb st; clear hb))
            | ((with_reducible refine wl_store ?_ (fun K hK => ?_)); rfl; refine owp_store rfl st ?_; apply Exists.intro; apply Exists.intro; refine ⟨?_, ?_, ?_⟩; (focus (go_simp; try rfl)); (focus (go_simp; try rfl)); (first | (with_reducible refine ⟨0, _, _, _, _, get0, rfl, rfl, ?_, ?_, ?_, ?_⟩) | (with_reducible refine ⟨1, _, _, _, _, get1, rfl, rfl, ?_, ?_, ?_, ?_⟩) | (with_reducible refine ⟨2, _, _, _, _, get2, rfl, rfl, ?_, ?_, ?_, ?_⟩) | (with_reducible refine ⟨3, _, _, _, _, get3, rfl, rfl, ?_, ?_, ?_, ?_⟩) | (with_reducible refine ⟨4, _, _, _, _, get4, rfl, rfl, ?_, ?_, ?_, ?_⟩) | (with_reducible refine ⟨5, _, _, _, _, get5, rfl, rfl, ?_, ?_, ?_, ?_⟩)); (kernel_rfl); (simp [Value.cells]); (rfl); (clear st; intro w st))
            | ((with_reducible refine wl_alloc ?_ (fun K hK => ?_)); rfl; refine owp_alloc (o := ⟨some 9, _, _, _, _, _⟩) rfl st ?_; apply Exists.intro; apply Exists.intro; refine ⟨?_, ?_⟩; (focus (first | (go_simp; done) | (go_simp; rfl))); (clear st; intro b9 w hb st; clear hb))); (try simp only [nsl, Value.cells, unB] at st); (try clear hc); have hc := st.facts; (try simp only [nfl, nft, Nat.reduceAdd] at hc))
      refine (HOF.out _ (hg1.out.ext st.ext0)).mono ?_
      rintro en w ⟨rfl, hx⟩
      replace st := st.ext hx
      clear hx
      (try clear hc); have hc := st.facts; (try simp only [nfl, nft, Nat.reduceAdd] at hc)
      go_wp2_with ((first
            | ((with_reducible refine wl_alloc ?_ (fun K hK => ?_)); rfl; refine owp_alloc (o := ⟨some 2, _, _, _, _, _⟩) rfl st ?_; apply Exists.intro; apply Exists.intro; refine ⟨?_, ?_⟩; (focus (first | (go_simp; done) | (go_simp; rfl))); (clear st; intro b2 w hb st; clear hb))
            | ((with_reducible refine wl_alloc ?_ (fun K hK => ?_)); rfl; refine owp_alloc (o := ⟨some 7, _, _, _, _, _⟩) rfl st ?_; apply Exists.intro; apply Exists.intro; refine ⟨?_, ?_⟩; (focus (first | (go_simp; done) | (go_simp; rfl))); (clear st; intro b7 w hb st; clear hb))
            | ((with_reducible refine wl_store ?_ (fun K hK => ?_)); rfl; refine owp_store rfl st ?_; apply Exists.intro; apply Exists.intro; refine ⟨?_, ?_, ?_⟩; (focus (go_simp; try rfl)); (focus (go_simp; try rfl)); (first | (with_reducible refine ⟨0, _, _, _, _, get0, rfl, rfl, ?_, ?_, ?_, ?_⟩) | (with_reducible refine ⟨1, _, _, _, _, get1, rfl, rfl, ?_, ?_, ?_, ?_⟩) | (with_reducible refine ⟨2, _, _, _, _, get2, rfl, rfl, ?_, ?_, ?_, ?_⟩) | (with_reducible refine ⟨3, _, _, _, _, get3, rfl, rfl, ?_, ?_, ?_, ?_⟩) | (with_reducible refine ⟨4, _, _, _, _, get4, rfl, rfl, ?_, ?_, ?_, ?_⟩) | (with_reducible refine ⟨5, _, _, _, _, get5, rfl, rfl, ?_, ?_, ?_, ?_⟩)); (kernel_rfl); (simp [Value.cells]); (rfl); (clear st; intro w st))
            | ((with_reducible refine wl_alloc ?_ (fun K hK => ?_)); rfl; refine owp_alloc (o := ⟨some 9, _, _, _, _, _⟩) rfl st ?_; apply Exists.intro; apply Exists.intro; refine ⟨?_, ?_⟩; (focus (first | (go_simp; done) | (go_simp; rfl))); (clear st; intro b9 w hb st; clear hb))); (try simp only [nsl, Value.cells, unB] at st); (try clear hc); have hc := st.facts; (try simp only [nfl, nft, Nat.reduceAdd] at hc))
      refine (HT.out _).mono ?_
      rintro en w ⟨rfl, hx⟩
      replace st := st.ext hx
      clear hx
      (try clear hc); have hc := st.facts; (try simp only [nfl, nft, Nat.reduceAdd] at hc)
      cases hts : (t == s) with
      | true =>
        have hne : (t != s) = false := by simp [bne, hts]
        have hts2 : t = s := by simpa using hts
        have HS := Lib.hid hts2
        clear hts2
        go_wp2_with ((first
              | ((with_reducible refine wl_alloc ?_ (fun K hK => ?_)); rfl; refine owp_alloc (o := ⟨some 2, _, _, _, _, _⟩) rfl st ?_; apply Exists.intro; apply Exists.intro; refine ⟨?_, ?_⟩; (focus (first | (go_simp; done) | (go_simp; rfl))); (clear st; intro b2 w hb st; clear hb))
              | ((with_reducible refine wl_alloc ?_ (fun K hK => ?_)); rfl; refine owp_alloc (o := ⟨some 7, _, _, _, _, _⟩) rfl st ?_; apply Exists.intro; apply Exists.intro; refine ⟨?_, ?_⟩; (focus (first | (go_simp; done) | (go_simp; rfl))); (clear st; intro b7 w hb st; clear hb))
              | ((with_reducible refine wl_store ?_ (fun K hK => ?_)); rfl; refine owp_store rfl st ?_; apply Exists.intro; apply Exists.intro; refine ⟨?_, ?_, ?_⟩; (focus (go_simp; try rfl)); (focus (go_simp; try rfl)); (first | (with_reducible refine ⟨0, _, _, _, _, get0, rfl, rfl, ?_, ?_, ?_, ?_⟩) | (with_reducible refine ⟨1, _, _, _, _, get1, rfl, rfl, ?_, ?_, ?_, ?_⟩) | (with_reducible refine ⟨2, _, _, _, _, get2, rfl, rfl, ?_, ?_, ?_, ?_⟩) | (with_reducible refine ⟨3, _, _, _, _, get3, rfl, rfl, ?_, ?_, ?_, ?_⟩) | (with_reducible refine ⟨4, _, _, _, _, get4, rfl, rfl, ?_, ?_, ?_, ?_⟩) | (with_reducible refine ⟨5, _, _, _, _, get5, rfl, rfl, ?_, ?_, ?_, ?_⟩)); (kernel_rfl); (simp [Value.cells]); (rfl); (clear st; intro w st))
              | ((with_reducible refine wl_alloc ?_ (fun K hK => ?_)); rfl; refine owp_alloc (o := ⟨some 9, _, _, _, _, _⟩) rfl st ?_; apply Exists.intro; apply Exists.intro; refine ⟨?_, ?_⟩; (focus (first | (go_simp; done) | (go_simp; rfl))); (clear st; intro b9 w hb st; clear hb))); (try simp only [nsl, Value.cells, unB] at st); (try clear hc); have hc := st.facts; (try simp only [nfl, nft, Nat.reduceAdd] at hc))
        (try simp only [Exit.inBlock, Exit.then])
        refine bodyPost_cell2 rfl rfl (st.blk (i := 1) get1) Tryz.underlying47 rfl (by kernel_rfl) rfl ?_
        exact ⟨by rw [HO.out, if_pos (by simp), if_pos HS.out]; rfl, st.ext0⟩
      | false =>
        have hne : (t != s) = true := by simp [bne, hts]
        have hts2 : t ≠ s := by simpa using hts
        have HS := Lib.hid hts2
        clear hts2
        go_wp2_with ((first
              | ((with_reducible refine wl_alloc ?_ (fun K hK => ?_)); rfl; refine owp_alloc (o := ⟨some 2, _, _, _, _, _⟩) rfl st ?_; apply Exists.intro; apply Exists.intro; refine ⟨?_, ?_⟩; (focus (first | (go_simp; done) | (go_simp; rfl))); (clear st; intro b2 w hb st; clear hb))
              | ((with_reducible refine wl_alloc ?_ (fun K hK => ?_)); rfl; refine owp_alloc (o := ⟨some 7, _, _, _, _, _⟩) rfl st ?_; apply Exists.intro; apply Exists.intro; refine ⟨?_, ?_⟩; (focus (first | (go_simp; done) | (go_simp; rfl))); (clear st; intro b7 w hb st; clear hb))
              | ((with_reducible refine wl_store ?_ (fun K hK => ?_)); rfl; refine owp_store rfl st ?_; apply Exists.intro; apply Exists.intro; refine ⟨?_, ?_, ?_⟩; (focus (go_simp; try rfl)); (focus (go_simp; try rfl)); (first | (with_reducible refine ⟨0, _, _, _, _, get0, rfl, rfl, ?_, ?_, ?_, ?_⟩) | (with_reducible refine ⟨1, _, _, _, _, get1, rfl, rfl, ?_, ?_, ?_, ?_⟩) | (with_reducible refine ⟨2, _, _, _, _, get2, rfl, rfl, ?_, ?_, ?_, ?_⟩) | (with_reducible refine ⟨3, _, _, _, _, get3, rfl, rfl, ?_, ?_, ?_, ?_⟩) | (with_reducible refine ⟨4, _, _, _, _, get4, rfl, rfl, ?_, ?_, ?_, ?_⟩) | (with_reducible refine ⟨5, _, _, _, _, get5, rfl, rfl, ?_, ?_, ?_, ?_⟩)); (kernel_rfl); (simp [Value.cells]); (rfl); (clear st; intro w st))
              | ((with_reducible refine wl_alloc ?_ (fun K hK => ?_)); rfl; refine owp_alloc (o := ⟨some 9, _, _, _, _, _⟩) rfl st ?_; apply Exists.intro; apply Exists.intro; refine ⟨?_, ?_⟩; (focus (first | (go_simp; done) | (go_simp; rfl))); (clear st; intro b9 w hb st; clear hb))); (try simp only [nsl, Value.cells, unB] at st); (try clear hc); have hc := st.facts; (try simp only [nfl, nft, Nat.reduceAdd] at hc))
        (try simp only [Exit.inBlock, Exit.then])
        refine bodyPost_cell2 rfl rfl (st.blk (i := 1) get1) Tryz.underlying47 rfl (by kernel_rfl) rfl ?_
        exact ⟨by rw [HO.out, if_pos (by simp), if_neg HS.out]; rfl, st.ext0⟩
/-- The roles of a credential. -/
def credRo (x : CredT) : List Role := if credR x = true then (if x.k = 1 then [x.h] else if x.k = 4 then [x.h, x.b, x.c] else [x.h, x.b]) else []
end Go.Proofs.YtekngjkjgmplpaaGreat

namespace Go.Proofs.YtekngjkjgmplpaaGreat
set_option linter.unusedSimpArgs false
set_option linter.unusedVariables false
open Go Go.RowKit
theorem credRo_1 {x : CredT} (h : credR x = true) (k : x.k = 1) : credRo x = [x.h] := by unfold credRo; rw [if_pos h, if_pos k]
theorem credRo_4 {x : CredT} (h : credR x = true) (k : x.k = 4) : credRo x = [x.h, x.b, x.c] := by unfold credRo; rw [if_pos h, if_neg (by omega), if_pos k]
theorem credRo_2 {x : CredT} (h : credR x = true) (k : x.k ≠ 1) (k4 : x.k ≠ 4) : credRo x = [x.h, x.b] := by unfold credRo; rw [if_pos h, if_neg k, if_neg k4]
set_option maxRecDepth 100000 in
set_option maxHeartbeats 1000000 in
theorem credRoles_any (x : CredT) (W : World) (hl : CredL 100000 x) :
    Calls Tryz.prog 26 #[cV x] W fun e w' => ∃ va vc, e = .returned (.slice va (credRo x).length vc) ∧ FreshI W w' (rowI 45 2 (.slice va (credRo x).length vc) (credRo x).length (cellsL (credRo x))) := by
  have HR := Lib.hid (fun W => credRight_any x W (by unfold CredL at hl; omega))
  clear hl
  obtain ⟨ro, hro0⟩ : ∃ l, credRo x = l := ⟨_, rfl⟩
  rw [hro0]
  have HRO := Lib.hid hro0
  clear hro0
  have st := Own.startOld W
  unfold cV S at *
  (try simp only [nsl, Value.cells, unB] at st)
  (try clear hc); have hc := st.facts; (try simp only [nfl, nft, Nat.reduceAdd] at hc)
  go_enter Tryz.func26, Tryz.ntmps26
  go_wp2_with ((((with_reducible refine wl_box ?_ (fun K hK => ?_)); rfl; refine owp_box (o := ⟨some 1, _, _, _, _, _⟩) rfl st ?_; apply Exists.intro; refine ⟨?_, ?_⟩; (focus (go_simp; try rfl)); (clear st; intro b1 w hb st; clear hb))); (try simp only [nsl, Value.cells, unB] at st); (try clear hc); have hc := st.facts; (try simp only [nfl, nft, Nat.reduceAdd] at hc))
  refine (HR.out _).mono ?_
  rintro en w ⟨rfl, hx⟩
  replace st := st.ext hx
  clear hx
  (try clear hc); have hc := st.facts; (try simp only [nfl, nft, Nat.reduceAdd] at hc)
  cases hr : credR x with
  | false =>
    have hro : credRo x = [] := by unfold credRo; rw [hr]; rfl
    obtain rfl : ro = [] := HRO.out.symm.trans hro
    clear hr hro
    go_wp2_with fail
    replace st := (st.row_nil 45 2)
    go_ret
    exact ⟨none, 0, rfl, st.toFresh (i := 2) get2⟩
  | true =>
    have hr1 := fun k => credRo_1 (x := x) hr k
    have hr2 := fun k k4 => credRo_2 (x := x) hr k k4
    have hr4 := fun k => credRo_4 (x := x) hr k
    have H := Lib.hid hr
    clear hr
    by_cases k1 : x.k = 1
    · obtain rfl : ro = [x.h] := HRO.out.symm.trans (hr1 k1)
      have hk1 : (x.k != 1) = false := by simp [k1]
      clear hr1 hr2 hr4
      go_wp2_with ((with_reducible refine wl_buildSlice ?_ (fun K hK => ?_)); (rfl); (refine owp_buildRow (o := ⟨some 9, _, _, _, _, _⟩) rfl st 45 2 ?_; refine ⟨1, #[.string ⟨x.h.1.toArray⟩, .string ⟨x.h.2.toArray⟩], ?_, by simp, by simp [maxLen], ?_⟩; (focus (go_simp; (first | done | rfl))); (clear st; intro b9 w hb st; clear hb)); (try simp only [nsl, Value.cells, unB] at st); (try clear hc); have hc := st.facts; (try simp only [nfl, nft, Nat.reduceAdd] at hc))
      go_ret
      exact ⟨_, _, rfl, st.toFresh (i := 2) get2⟩
    · have hk1 : (x.k != 1) = true := by simpa using k1
      by_cases k4 : x.k = 4
      · obtain rfl : ro = [x.h, x.b, x.c] := HRO.out.symm.trans (hr4 k4)
        clear hr1 hr2 hr4
        have K1 := Lib.hid k1
        clear k1
        go_wp2_with (first
            | ((with_reducible refine wl_append ?_ (fun K hK => ?_)); (rfl); (obtain ⟨inf, hinf, hz0, hz1, hz2⟩ := roleInfo); (refine owp_append rfl st 2 get2 Tryz.underlying22 hinf hz0 hz1 hz2 rfl (by decide) rfl rfl (by first | exact (st.blk (i := 4) get4).flat rfl | exact (st.blk (i := 3) get3).flat rfl) (by first | exact cellsL_all _ | simp [Value.oneCell']) (by simp only [maxLen]; omega) (by omega) ?_); (clear hinf hz0 hz1 hz2 inf); (clear st; intro v' w st); (obtain ⟨va', vc', rfl⟩ := own_slice (st.row (i := 2) get2)); (try simp only [nsl, Value.cells, unB] at st); (try simp only [Nat.zero_add] at st); (try clear hc); have hc := st.facts; (try simp only [nfl, nft, Nat.reduceAdd] at hc))
            | ((with_reducible refine wl_buildSlice ?_ (fun K hK => ?_)); (rfl); (refine owp_buildRow (o := ⟨some 9, _, _, _, _, _⟩) rfl st 45 2 ?_; refine ⟨1, #[.string ⟨x.h.1.toArray⟩, .string ⟨x.h.2.toArray⟩], ?_, by simp, by simp [maxLen], ?_⟩; (focus (go_simp; (first | done | rfl))); (clear st; intro b9 w hb st; clear hb)); (try simp only [nsl, Value.cells, unB] at st); (try clear hc); have hc := st.facts; (try simp only [nfl, nft, Nat.reduceAdd] at hc))
            | ((first
              | ((with_reducible refine wl_buildSlice ?_ (fun K hK => ?_)); rfl; refine owp_buildSlice (o := ⟨some 16, _, _, _, _, _⟩) rfl st ?_; apply Exists.intro; apply Exists.intro; apply Exists.intro; apply Exists.intro; refine ⟨?_, ?_⟩; (focus (go_simp; (first | done | exact ⟨⟨rfl, rfl⟩, rfl⟩ | rfl))); (clear st; intro b16 w hb st; clear hb))
              | ((with_reducible refine wl_buildSlice ?_ (fun K hK => ?_)); rfl; refine owp_buildSlice (o := ⟨some 24, _, _, _, _, _⟩) rfl st ?_; apply Exists.intro; apply Exists.intro; apply Exists.intro; apply Exists.intro; refine ⟨?_, ?_⟩; (focus (go_simp; (first | done | exact ⟨⟨rfl, rfl⟩, rfl⟩ | rfl))); (clear st; intro b24 w hb st; clear hb))); (try simp only [nsl, Value.cells, unB] at st); (try clear hc); have hc := st.facts; (try simp only [nfl, nft, Nat.reduceAdd] at hc)))
        go_ret
        exact ⟨_, _, rfl, st.toFresh (i := 2) get2⟩
      · obtain rfl : ro = [x.h, x.b] := HRO.out.symm.trans (hr2 k1 k4)
        have hk4 : (x.k == 4) = false := by simpa using k4
        clear hr1 hr2 hr4
        have K1 := Lib.hid k1
        clear k1 k4
        go_wp2_with (first
            | ((with_reducible refine wl_append ?_ (fun K hK => ?_)); (rfl); (obtain ⟨inf, hinf, hz0, hz1, hz2⟩ := roleInfo); (refine owp_append rfl st 2 get2 Tryz.underlying22 hinf hz0 hz1 hz2 rfl (by decide) rfl rfl (by first | exact (st.blk (i := 4) get4).flat rfl | exact (st.blk (i := 3) get3).flat rfl) (by first | exact cellsL_all _ | simp [Value.oneCell']) (by simp only [maxLen]; omega) (by omega) ?_); (clear hinf hz0 hz1 hz2 inf); (clear st; intro v' w st); (obtain ⟨va', vc', rfl⟩ := own_slice (st.row (i := 2) get2)); (try simp only [nsl, Value.cells, unB] at st); (try simp only [Nat.zero_add] at st); (try clear hc); have hc := st.facts; (try simp only [nfl, nft, Nat.reduceAdd] at hc))
            | ((with_reducible refine wl_buildSlice ?_ (fun K hK => ?_)); (rfl); (refine owp_buildRow (o := ⟨some 9, _, _, _, _, _⟩) rfl st 45 2 ?_; refine ⟨1, #[.string ⟨x.h.1.toArray⟩, .string ⟨x.h.2.toArray⟩], ?_, by simp, by simp [maxLen], ?_⟩; (focus (go_simp; (first | done | rfl))); (clear st; intro b9 w hb st; clear hb)); (try simp only [nsl, Value.cells, unB] at st); (try clear hc); have hc := st.facts; (try simp only [nfl, nft, Nat.reduceAdd] at hc))
            | ((((with_reducible refine wl_buildSlice ?_ (fun K hK => ?_)); rfl; refine owp_buildSlice (o := ⟨some 16, _, _, _, _, _⟩) rfl st ?_; apply Exists.intro; apply Exists.intro; apply Exists.intro; apply Exists.intro; refine ⟨?_, ?_⟩; (focus (go_simp; (first | done | exact ⟨⟨rfl, rfl⟩, rfl⟩ | rfl))); (clear st; intro b16 w hb st; clear hb))); (try simp only [nsl, Value.cells, unB] at st); (try clear hc); have hc := st.facts; (try simp only [nfl, nft, Nat.reduceAdd] at hc)))
        go_ret
        exact ⟨_, _, rfl, st.toFresh (i := 2) get2⟩
end Go.Proofs.YtekngjkjgmplpaaGreat

namespace Go.Proofs.YtekngjkjgmplpaaGreat
set_option linter.unusedSimpArgs false
set_option linter.unusedVariables false
open Go Go.RowKit
open Go.Lib (index occAt NoOcc index_hit index_none index_spec index_room index_ge)
/-- A text put ahead of the first part. -/
def addW (w : List UInt8) : List (List UInt8) → List (List UInt8)
  | [] => [w]
  | h :: t => (w ++ h) :: t
theorem addW_nil {l : List (List UInt8)} (h : l ≠ []) : addW [] l = l := by
  cases l with
  | nil => exact absurd rfl h
  | cons x l => rfl
theorem addW_one (w : List UInt8) (x : UInt8) (l : List (List UInt8)) : addW w (addW [x] l) = addW (w ++ [x]) l := by
  cases l <;> simp [addW]
theorem splitG_ne (sep s : List UInt8) : splitG sep s ≠ [] := splitF_ne sep _ s
theorem splitG_hit {sep t : List UInt8} (hsep : sep ≠ []) (h : sep.isPrefixOf t = true) : splitG sep t = [] :: splitG sep (t.drop sep.length) := by
  have hi : index t sep = ((0 : Nat) : Int) := by
    cases t with
    | nil => cases sep with
      | nil => exact absurd rfl hsep
      | cons a b => simp at h
    | cons b l => unfold index; rw [if_pos h]; rfl
  rw [splitG_some hsep hi]
  simp
theorem splitG_miss {sep t : List UInt8} {x : UInt8} (hsep : sep ≠ []) (h : sep.isPrefixOf (x :: t) = false) : splitG sep (x :: t) = addW [x] (splitG sep t) := by
  have hu : index (x :: t) sep = if index t sep == -1 then -1 else index t sep + 1 := by
    conv => lhs; unfold index
    rw [if_neg (by rw [h]; decide)]
  by_cases h1 : index t sep = -1
  · rw [h1] at hu
    rw [splitG_none h1, splitG_none (by simpa using hu)]
    rfl
  · have hg := index_ge t sep
    obtain ⟨i, hi⟩ : ∃ i : Nat, index t sep = i := ⟨(index t sep).toNat, by omega⟩
    rw [hi] at hu
    have hne : ((i : Int) == -1) = false := by simp <;> omega
    rw [hne] at hu
    have hu2 : index (x :: t) sep = ((i + 1 : Nat) : Int) := by rw [hu]; (try simp)
    rw [splitG_some hsep hi, splitG_some hsep hu2, List.take_succ_cons, show i + 1 + sep.length = (i + sep.length) + 1 by omega, List.drop_succ_cons]
    rfl
theorem pre_take {sep t : List UInt8} : sep.isPrefixOf t = (t.take sep.length == sep) := by
  rw [Bool.eq_iff_iff, List.isPrefixOf_iff_prefix, List.prefix_iff_eq_take, beq_iff_eq]
  exact eq_comm
theorem ba_mid (s : List UInt8) (i j : Nat) : (⟨s.toArray⟩ : ByteArray).extract i j = ⟨((s.drop i).take (j - i)).toArray⟩ := by
  apply ByteArray.ext
  rw [ByteArray.data_extract]
  simp [List.extract_eq_take_drop]
theorem addW_hit {sep s acc : List UInt8} {L : List (List UInt8)} {j : Nat} (hsep : sep ≠ []) (h : splitG sep s = L ++ addW acc (splitG sep (s.drop j))) (hp : (s.drop j).take sep.length = sep) :
    splitG sep s = (L ++ [acc]) ++ addW [] (splitG sep (s.drop (j + sep.length))) := by
  have h1 : sep.isPrefixOf (s.drop j) = true := by rw [pre_take, hp]; simp
  rw [h, splitG_hit hsep h1, List.drop_drop, addW_nil (splitG_ne _ _)]
  simp [addW]
theorem addW_miss {sep s acc : List UInt8} {L : List (List UInt8)} {j : Nat} (hsep : sep ≠ []) (hj : j < s.length) (h : splitG sep s = L ++ addW acc (splitG sep (s.drop j))) (hp : (s.drop j).take sep.length ≠ sep) :
    splitG sep s = L ++ addW (acc ++ [s[j]]) (splitG sep (s.drop (j + 1))) := by
  have hd : s.drop j = s[j] :: s.drop (j + 1) := List.drop_eq_getElem_cons hj
  have h1 : sep.isPrefixOf (s[j] :: s.drop (j + 1)) = false := by rw [← hd, pre_take]; simpa using hp
  rw [h, hd, splitG_miss hsep h1, addW_one]
set_option maxRecDepth 100000 in
set_option maxHeartbeats 1000000 in
theorem refText1_any (r : Role) (W : World) (h1 : r.1.length ≤ 100000) (h2 : r.2.length ≤ 100000) :
    Calls Tryz.prog 56 #[rV r] W fun e w' => e = .returned (S (roleT r)) ∧ Ext W w' := by
  obtain ⟨o, d⟩ := r
  simp only at h1 h2
  have happ := ba_append
  have happ2 : ∀ a : List UInt8, (⟨a.toArray⟩ : ByteArray) ++ ⟨#[46]⟩ = ⟨(a ++ [46]).toArray⟩ := fun a => ba_append a [46]
  have st := Own.startOld W
  unfold rV S
  simp only
  (try simp only [nsl, Value.cells, unB] at st)
  (try clear hc); have hc := st.facts; (try simp only [nfl, nft, Nat.reduceAdd] at hc)
  go_enter Tryz.func56, Tryz.ntmps56
  go_wp2_with ((((with_reducible refine wl_box ?_ (fun K hK => ?_)); rfl; refine owp_box (o := ⟨some 1, _, _, _, _, _⟩) rfl st ?_; apply Exists.intro; refine ⟨?_, ?_⟩; (focus (go_simp; try rfl)); (clear st; intro b1 w hb st; clear hb))); (try simp only [nsl, Value.cells, unB] at st); (try clear hc); have hc := st.facts; (try simp only [nfl, nft, Nat.reduceAdd] at hc))
  go_ret
  exact ⟨by simp [roleT, happ, happ2], st.ext0⟩
set_option maxRecDepth 100000 in
set_option maxHeartbeats 2000000 in
theorem refSplit_any (s sep : List UInt8) (W : World) (hsep : sep ≠ []) (hs : s.length ≤ 100000) (hm : sep.length ≤ 100) :
    Calls Tryz.prog 60 #[S s, S sep] W fun e w' => ∃ a c, e = .returned (.slice a (splitG sep s).length c) ∧ NewStr W w' a c (splitG sep s) := by
  have happ := ba_append
  have st := (Own.startOld W).row_nil 9 1
  simp only [List.cons_append, List.nil_append] at st
  have hn0 : 0 < sep.length := List.length_pos_iff.2 hsep
  have HI0 : Hid (splitG sep s = [] ++ addW [] (splitG sep (s.drop 0))) := Lib.hid (by rw [addW_nil (splitG_ne _ _)]; simp)
  have HHIT := Lib.hid (fun (acc : List UInt8) (L : List (List UInt8)) (j : Nat) => addW_hit (s := s) (acc := acc) (L := L) (j := j) hsep)
  have HMISS := Lib.hid (fun (acc : List UInt8) (L : List (List UInt8)) (j : Nat) => addW_miss (s := s) (acc := acc) (L := L) (j := j) hsep)
  obtain ⟨G, hG⟩ : ∃ G, splitG sep s = G := ⟨_, rfl⟩
  rw [hG] at HI0 HHIT HMISS ⊢
  have HEND : Hid (∀ acc : List UInt8, addW acc (splitG sep []) = [acc]) := Lib.hid (fun acc => by simp [splitG, splitF, addW])
  obtain ⟨m, hmm⟩ : ∃ m, sep.length = m := ⟨_, rfl⟩
  obtain ⟨n, hn⟩ : ∃ n, s.length = n := ⟨_, rfl⟩
  have HM := Lib.hid hmm
  have HN := Lib.hid hn
  rw [hmm] at hm hn0 HHIT HMISS
  rw [hn] at hs
  clear hmm hn hG hsep
  have hsz : (⟨s.toArray⟩ : ByteArray).size = n := by rw [← HN.out]; simp [ByteArray.size]
  have hsz2 : (⟨sep.toArray⟩ : ByteArray).size = m := by rw [← HM.out]; simp [ByteArray.size]
  unfold S
  (try simp only [nsl, Value.cells, unB] at st)
  (try clear hc); have hc := st.facts; (try simp only [nfl, nft, Nat.reduceAdd] at hc)
  go_enter Tryz.func60, Tryz.ntmps60
  go_wp2_with ((first
        | ((with_reducible refine wl_buildSlice ?_ (fun K hK => ?_)); rfl; refine owp_buildSlice (o := ⟨some 32, _, _, _, _, _⟩) rfl st ?_; apply Exists.intro; apply Exists.intro; apply Exists.intro; apply Exists.intro; refine ⟨?_, ?_⟩; (focus (go_simp; (first | done | exact ⟨⟨rfl, rfl⟩, rfl⟩ | rfl))); (clear st; intro b32 w hb st; clear hb))
        | ((with_reducible refine wl_buildSlice ?_ (fun K hK => ?_)); rfl; refine owp_buildSlice (o := ⟨some 49, _, _, _, _, _⟩) rfl st ?_; apply Exists.intro; apply Exists.intro; apply Exists.intro; apply Exists.intro; refine ⟨?_, ?_⟩; (focus (go_simp; (first | done | exact ⟨⟨rfl, rfl⟩, rfl⟩ | rfl))); (clear st; intro b49 w hb st; clear hb))); (try simp only [nsl, Value.cells, unB] at st); (try clear hc); have hc := st.facts; (try simp only [nfl, nft, Nat.reduceAdd] at hc))
  go_loopg [5, 6, 7] n (fun k o wv i wr => ∃ (j q : Nat) (L : List (List UInt8)) (acc : List UInt8), j ≤ n ∧ k = n - j ∧ q ≤ j ∧ Hid (q = L.length ∧ acc.length ≤ j) ∧ i = .int .i64 (j : Int) ∧ wv = .string ⟨acc.toArray⟩ ∧ Hid (G = L ++ addW acc (splitG sep (s.drop j))) ∧ Own (fun _ => False) (fun _ => True) W [oldI W, rowI 9 1 o q (cellsL L)] wr)
  case atStart => exact ⟨0, 0, [], [], by omega, by omega, by omega, Lib.hid ⟨rfl, by simp⟩, rfl, rfl, HI0, by simpa [cellsL] using st⟩
  case round =>
    obtain ⟨j, q, L, acc, hj, rfl, hq, HQ, rfl, rfl, HT, st'⟩ := hrel
    clear st hc
    have st := st'
    clear st'
    (try simp only [nsl, Value.cells, unB] at st)
    (try clear hc); have hc := st.facts; (try simp only [nfl, nft, Nat.reduceAdd] at hc)
    by_cases hjn : j < n
    · have zj : IntKind.i64.wrap ((j : Int) + (m : Int)) = ((j + m : Nat) : Int) := by rw [IntWalk.i64_in _ ⟨by omega, by omega⟩]; simp
      have zj1 : IntKind.i64.wrap ((j : Int) + 1) = ((j + 1 : Nat) : Int) := by rw [IntWalk.i64_in _ ⟨by omega, by omega⟩]; simp
      have e1 : (⟨s.toArray⟩ : ByteArray).extract j (j + m) = ⟨((s.drop j).take m).toArray⟩ := by rw [ba_mid, Nat.add_sub_cancel_left]
      have e2 : (⟨s.toArray⟩ : ByteArray).extract j (j + 1) = ⟨((s.drop j).take 1).toArray⟩ := by rw [ba_mid, Nat.add_sub_cancel_left]
      have hjl : j < s.length := by rw [HN.out]; exact hjn
      have e3 : (s.drop j).take 1 = [s[j]] := by rw [List.drop_eq_getElem_cons hjl]; rfl
      rw [e3] at e2
      have HMJ := Lib.hid (HMISS.out acc L j hjl HT.out)
      have HHJ := Lib.hid (HHIT.out acc L j HT.out)
      obtain ⟨z, hz⟩ : ∃ z, s[j] = z := ⟨_, rfl⟩
      rw [hz] at e2 HMJ
      have htl : ((s.drop j).take m).length ≤ n - j := by rw [List.length_take, List.length_drop, HN.out]; omega
      obtain ⟨tk, htk⟩ : ∃ t, (s.drop j).take m = t := ⟨_, rfl⟩
      rw [htk] at e1 HMJ HHJ htl
      have hal : acc.length ≤ 100000 := by have := HQ.out.2; omega
      clear e3 hz htk hjl HT
      by_cases hjm : j + m ≤ n
      · by_cases ht : tk = sep
        · subst ht
          have hse : (tk == tk) = true := by simp
          have HX := Lib.hid (HHJ.out rfl)
          go_wp2_with (first
              | ((with_reducible refine wl_append ?_ (fun K hK => ?_)); (rfl); (obtain ⟨inf, hinf, hz0, hz1, hz2⟩ := strInfo); (refine owp_append rfl st 1 get1 Tryz.underlying98 hinf hz0 hz1 hz2 rfl (by decide) rfl rfl ((st.blk (i := 2) get2).flat rfl) (by first | exact cellsL_all _ | simp [Value.oneCell']) (by simp only [maxLen]; omega) (by omega) ?_); (clear hinf hz0 hz1 hz2 inf); (clear st; intro v' w st); (obtain ⟨va', vc', rfl⟩ := own_slice (st.row (i := 1) get1)); (try simp only [nsl, Value.cells, unB] at st); (try simp only [Nat.zero_add] at st); (try clear hc); have hc := st.facts; (try simp only [nfl, nft, Nat.reduceAdd] at hc))
              | ((first
                | ((with_reducible refine wl_buildSlice ?_ (fun K hK => ?_)); rfl; refine owp_buildSlice (o := ⟨some 32, _, _, _, _, _⟩) rfl st ?_; apply Exists.intro; apply Exists.intro; apply Exists.intro; apply Exists.intro; refine ⟨?_, ?_⟩; (focus (go_simp; (first | done | exact ⟨⟨rfl, rfl⟩, rfl⟩ | rfl))); (clear st; intro b32 w hb st; clear hb))
                | ((with_reducible refine wl_buildSlice ?_ (fun K hK => ?_)); rfl; refine owp_buildSlice (o := ⟨some 49, _, _, _, _, _⟩) rfl st ?_; apply Exists.intro; apply Exists.intro; apply Exists.intro; apply Exists.intro; refine ⟨?_, ?_⟩; (focus (go_simp; (first | done | exact ⟨⟨rfl, rfl⟩, rfl⟩ | rfl))); (clear st; intro b49 w hb st; clear hb))); (try simp only [nsl, Value.cells, unB] at st); (try clear hc); have hc := st.facts; (try simp only [nfl, nft, Nat.reduceAdd] at hc)))
          have st' := st.keep [0, 1] (by decide) (by simp)
          go_roundg (n - (j + m))
          case measure => omega
          case rel => exact ⟨j + m, q + 1, L ++ [acc], [], by omega, by omega, by omega, Lib.hid ⟨by simp [HQ.out.1], by simp⟩, by go_num, rfl, HX, by rw [cellsL_append, cellsL_one', str_cells]; simpa [pick] using st'⟩
        · have hse : (tk == sep) = false := by simpa using ht
          have HX := Lib.hid (HMJ.out ht)
          clear ht
          go_wp2_with fail
          go_roundg (n - (j + 1))
          case measure => omega
          case rel => exact ⟨j + 1, q, L, acc ++ [z], by omega, by omega, by omega, Lib.hid ⟨HQ.out.1, by have := HQ.out.2; simp; omega⟩, by go_num, by simp [happ], HX, st⟩
      · have ht : tk ≠ sep := fun e => by
          have := HM.out
          rw [← e] at this
          omega
        have HX := Lib.hid (HMJ.out ht)
        clear ht
        go_wp2_with fail
        go_roundg (n - (j + 1))
        case measure => omega
        case rel => exact ⟨j + 1, q, L, acc ++ [z], by omega, by omega, by omega, Lib.hid ⟨HQ.out.1, by have := HQ.out.2; simp; omega⟩, by go_num, by simp [happ], HX, st⟩
    · obtain rfl : j = n := by omega
      have HX : Hid (G = L ++ [acc]) := Lib.hid (by rw [HT.out, List.drop_of_length_le (by have := HN.out; omega), HEND.out])
      clear HT
      go_wp2_with (first
          | ((with_reducible refine wl_append ?_ (fun K hK => ?_)); (rfl); (obtain ⟨inf, hinf, hz0, hz1, hz2⟩ := strInfo); (refine owp_append rfl st 1 get1 Tryz.underlying98 hinf hz0 hz1 hz2 rfl (by decide) rfl rfl ((st.blk (i := 2) get2).flat rfl) (by first | exact cellsL_all _ | simp [Value.oneCell']) (by simp only [maxLen]; omega) (by omega) ?_); (clear hinf hz0 hz1 hz2 inf); (clear st; intro v' w st); (obtain ⟨va', vc', rfl⟩ := own_slice (st.row (i := 1) get1)); (try simp only [nsl, Value.cells, unB] at st); (try simp only [Nat.zero_add] at st); (try clear hc); have hc := st.facts; (try simp only [nfl, nft, Nat.reduceAdd] at hc))
          | ((first
            | ((with_reducible refine wl_buildSlice ?_ (fun K hK => ?_)); rfl; refine owp_buildSlice (o := ⟨some 32, _, _, _, _, _⟩) rfl st ?_; apply Exists.intro; apply Exists.intro; apply Exists.intro; apply Exists.intro; refine ⟨?_, ?_⟩; (focus (go_simp; (first | done | exact ⟨⟨rfl, rfl⟩, rfl⟩ | rfl))); (clear st; intro b32 w hb st; clear hb))
            | ((with_reducible refine wl_buildSlice ?_ (fun K hK => ?_)); rfl; refine owp_buildSlice (o := ⟨some 49, _, _, _, _, _⟩) rfl st ?_; apply Exists.intro; apply Exists.intro; apply Exists.intro; apply Exists.intro; refine ⟨?_, ?_⟩; (focus (go_simp; (first | done | exact ⟨⟨rfl, rfl⟩, rfl⟩ | rfl))); (clear st; intro b49 w hb st; clear hb))); (try simp only [nsl, Value.cells, unB] at st); (try clear hc); have hc := st.facts; (try simp only [nfl, nft, Nat.reduceAdd] at hc)))
      have hqL := HQ.out.1
      subst hqL
      have hGe := HX.out
      subst hGe
      go_ret
      refine ⟨va', vc', by simp, ?_⟩
      unfold NewStr
      rw [List.length_append, List.length_singleton, cellsL_append, cellsL_one', str_cells]
      exact st.toFresh (i := 1) get1
end Go.Proofs.YtekngjkjgmplpaaGreat

namespace Go.Proofs.YtekngjkjgmplpaaGreat
set_option linter.unusedSimpArgs false
set_option linter.unusedVariables false
open Go Go.RowKit
set_option maxRecDepth 100000 in
set_option maxHeartbeats 2000000 in
theorem refText_r (x : CredT) (W : World) (hl : CredL 100000 x) (hr : credR x = true) :
    Calls Tryz.prog 18 #[cV x] W fun e w' => e = .returned (S (credTx x)) ∧ Ext W w' := by
  have happ := ba_append
  have happ2 : ∀ a : List UInt8, (⟨a.toArray⟩ : ByteArray) ++ ⟨#[32, 60, 45, 32]⟩ = ⟨(a ++ [32, 60, 45, 32]).toArray⟩ := fun a => ba_append a [32, 60, 45, 32]
  have happ3 : ∀ a : List UInt8, (⟨#[46]⟩ : ByteArray) ++ ⟨a.toArray⟩ = ⟨([46] ++ a).toArray⟩ := fun a => ba_append [46] a
  have happ4 : ∀ a : List UInt8, (⟨#[32, 38, 32]⟩ : ByteArray) ++ ⟨a.toArray⟩ = ⟨([32, 38, 32] ++ a).toArray⟩ := fun a => ba_append [32, 38, 32] a
  obtain ⟨l1, l2, l3, l4, l5, l6, l7, l8⟩ := hl
  have HTH := Lib.hid (fun W => refText1_any x.h W l1 l2)
  have HTB := Lib.hid (fun W => refText1_any x.b W l4 l5)
  have HTC := Lib.hid (fun W => refText1_any x.c W l6 l7)
  have hb0 : (roleT x.h).length ≤ 200001 := by simp [roleT]; omega
  have hb1 : (roleT x.b).length ≤ 200001 := by simp [roleT]; omega
  have hb2 : (roleT x.c).length ≤ 200001 := by simp [roleT]; omega
  obtain ⟨_, hcs⟩ := credR_cases hr
  obtain ⟨th, hth⟩ : ∃ t, roleT x.h = t := ⟨_, rfl⟩
  obtain ⟨tb, htb⟩ : ∃ t, roleT x.b = t := ⟨_, rfl⟩
  obtain ⟨tc, htc⟩ : ∃ t, roleT x.c = t := ⟨_, rfl⟩
  have HE : Hid (credTx x = th ++ arrow ++ (if x.k = 1 then x.w else if x.k = 2 then tb else if x.k = 3 then tb ++ [46] ++ x.e else tb ++ ampS ++ tc)) := Lib.hid (by unfold credTx bodyT; rw [hth, htb, htc])
  rw [hth] at HTH hb0
  rw [htb] at HTB hb1
  rw [htc] at HTC hb2
  clear hth htb htc hr
  have st := Own.startOld W
  obtain ⟨r, hr⟩ : ∃ r, credTx x = r := ⟨_, rfl⟩
  rw [hr] at HE ⊢
  clear hr
  obtain ⟨k, ⟨ho, hd⟩, nw, ⟨bo, bd⟩, ⟨co, cd⟩, we⟩ := x
  unfold cV S
  unfold rV S at HTH HTB HTC
  simp only at HE hcs l1 l2 l3 l4 l5 l6 l7 l8 HTH HTB HTC ⊢
  (try simp only [nsl, Value.cells, unB] at st)
  (try clear hc); have hc := st.facts; (try simp only [nfl, nft, Nat.reduceAdd] at hc)
  have hkk : k = 1 ∨ k = 2 ∨ k = 3 ∨ k = 4 := by
    rcases hcs with ⟨h, _⟩ | ⟨_, _, ⟨h, _⟩ | ⟨h, _⟩ | ⟨h, _⟩⟩
    · exact .inl h
    · exact .inr (.inl h)
    · exact .inr (.inr (.inl h))
    · exact .inr (.inr (.inr h))
  clear hcs
  rcases hkk with rfl | rfl | rfl | rfl
  · have HF : Hid (r = th ++ arrow ++ nw) := Lib.hid HE.out
    go_enter Tryz.func18, Tryz.ntmps18
    go_wp2_with ((((with_reducible refine wl_box ?_ (fun K hK => ?_)); rfl; refine owp_box (o := ⟨some 1, _, _, _, _, _⟩) rfl st ?_; apply Exists.intro; refine ⟨?_, ?_⟩; (focus (go_simp; try rfl)); (clear st; intro b1 w hb st; clear hb))); (try simp only [nsl, Value.cells, unB] at st); (try clear hc); have hc := st.facts; (try simp only [nfl, nft, Nat.reduceAdd] at hc))
    refine (HTH.out _).mono ?_
    rintro en w ⟨rfl, hx⟩
    replace st := st.ext hx
    clear hx
    (try clear hc); have hc := st.facts; (try simp only [nfl, nft, Nat.reduceAdd] at hc)
    go_wp2_with ((((with_reducible refine wl_box ?_ (fun K hK => ?_)); rfl; refine owp_box (o := ⟨some 1, _, _, _, _, _⟩) rfl st ?_; apply Exists.intro; refine ⟨?_, ?_⟩; (focus (go_simp; try rfl)); (clear st; intro b1 w hb st; clear hb))); (try simp only [nsl, Value.cells, unB] at st); (try clear hc); have hc := st.facts; (try simp only [nfl, nft, Nat.reduceAdd] at hc))
    go_ret
    exact ⟨by rw [HF.out]; simp [arrow, happ, happ2], st.ext0⟩
  · have HF : Hid (r = th ++ arrow ++ tb) := Lib.hid HE.out
    go_enter Tryz.func18, Tryz.ntmps18
    go_wp2_with ((((with_reducible refine wl_box ?_ (fun K hK => ?_)); rfl; refine owp_box (o := ⟨some 1, _, _, _, _, _⟩) rfl st ?_; apply Exists.intro; refine ⟨?_, ?_⟩; (focus (go_simp; try rfl)); (clear st; intro b1 w hb st; clear hb))); (try simp only [nsl, Value.cells, unB] at st); (try clear hc); have hc := st.facts; (try simp only [nfl, nft, Nat.reduceAdd] at hc))
    refine (HTH.out _).mono ?_
    rintro en w ⟨rfl, hx⟩
    replace st := st.ext hx
    clear hx
    (try clear hc); have hc := st.facts; (try simp only [nfl, nft, Nat.reduceAdd] at hc)
    go_wp2_with ((((with_reducible refine wl_box ?_ (fun K hK => ?_)); rfl; refine owp_box (o := ⟨some 1, _, _, _, _, _⟩) rfl st ?_; apply Exists.intro; refine ⟨?_, ?_⟩; (focus (go_simp; try rfl)); (clear st; intro b1 w hb st; clear hb))); (try simp only [nsl, Value.cells, unB] at st); (try clear hc); have hc := st.facts; (try simp only [nfl, nft, Nat.reduceAdd] at hc))
    refine (HTB.out _).mono ?_
    rintro en w ⟨rfl, hx⟩
    replace st := st.ext hx
    clear hx
    (try clear hc); have hc := st.facts; (try simp only [nfl, nft, Nat.reduceAdd] at hc)
    go_wp2_with ((((with_reducible refine wl_box ?_ (fun K hK => ?_)); rfl; refine owp_box (o := ⟨some 1, _, _, _, _, _⟩) rfl st ?_; apply Exists.intro; refine ⟨?_, ?_⟩; (focus (go_simp; try rfl)); (clear st; intro b1 w hb st; clear hb))); (try simp only [nsl, Value.cells, unB] at st); (try clear hc); have hc := st.facts; (try simp only [nfl, nft, Nat.reduceAdd] at hc))
    go_ret
    exact ⟨by rw [HF.out]; simp [arrow, happ, happ2], st.ext0⟩
  · have HF : Hid (r = th ++ arrow ++ (tb ++ [46] ++ we)) := Lib.hid HE.out
    go_enter Tryz.func18, Tryz.ntmps18
    go_wp2_with ((((with_reducible refine wl_box ?_ (fun K hK => ?_)); rfl; refine owp_box (o := ⟨some 1, _, _, _, _, _⟩) rfl st ?_; apply Exists.intro; refine ⟨?_, ?_⟩; (focus (go_simp; try rfl)); (clear st; intro b1 w hb st; clear hb))); (try simp only [nsl, Value.cells, unB] at st); (try clear hc); have hc := st.facts; (try simp only [nfl, nft, Nat.reduceAdd] at hc))
    refine (HTH.out _).mono ?_
    rintro en w ⟨rfl, hx⟩
    replace st := st.ext hx
    clear hx
    (try clear hc); have hc := st.facts; (try simp only [nfl, nft, Nat.reduceAdd] at hc)
    go_wp2_with ((((with_reducible refine wl_box ?_ (fun K hK => ?_)); rfl; refine owp_box (o := ⟨some 1, _, _, _, _, _⟩) rfl st ?_; apply Exists.intro; refine ⟨?_, ?_⟩; (focus (go_simp; try rfl)); (clear st; intro b1 w hb st; clear hb))); (try simp only [nsl, Value.cells, unB] at st); (try clear hc); have hc := st.facts; (try simp only [nfl, nft, Nat.reduceAdd] at hc))
    refine (HTB.out _).mono ?_
    rintro en w ⟨rfl, hx⟩
    replace st := st.ext hx
    clear hx
    (try clear hc); have hc := st.facts; (try simp only [nfl, nft, Nat.reduceAdd] at hc)
    go_wp2_with ((((with_reducible refine wl_box ?_ (fun K hK => ?_)); rfl; refine owp_box (o := ⟨some 1, _, _, _, _, _⟩) rfl st ?_; apply Exists.intro; refine ⟨?_, ?_⟩; (focus (go_simp; try rfl)); (clear st; intro b1 w hb st; clear hb))); (try simp only [nsl, Value.cells, unB] at st); (try clear hc); have hc := st.facts; (try simp only [nfl, nft, Nat.reduceAdd] at hc))
    go_ret
    exact ⟨by rw [HF.out]; simp [arrow, happ, happ2, happ3], st.ext0⟩
  · have HF : Hid (r = th ++ arrow ++ (tb ++ ampS ++ tc)) := Lib.hid HE.out
    go_enter Tryz.func18, Tryz.ntmps18
    go_wp2_with ((((with_reducible refine wl_box ?_ (fun K hK => ?_)); rfl; refine owp_box (o := ⟨some 1, _, _, _, _, _⟩) rfl st ?_; apply Exists.intro; refine ⟨?_, ?_⟩; (focus (go_simp; try rfl)); (clear st; intro b1 w hb st; clear hb))); (try simp only [nsl, Value.cells, unB] at st); (try clear hc); have hc := st.facts; (try simp only [nfl, nft, Nat.reduceAdd] at hc))
    refine (HTH.out _).mono ?_
    rintro en w ⟨rfl, hx⟩
    replace st := st.ext hx
    clear hx
    (try clear hc); have hc := st.facts; (try simp only [nfl, nft, Nat.reduceAdd] at hc)
    go_wp2_with ((((with_reducible refine wl_box ?_ (fun K hK => ?_)); rfl; refine owp_box (o := ⟨some 1, _, _, _, _, _⟩) rfl st ?_; apply Exists.intro; refine ⟨?_, ?_⟩; (focus (go_simp; try rfl)); (clear st; intro b1 w hb st; clear hb))); (try simp only [nsl, Value.cells, unB] at st); (try clear hc); have hc := st.facts; (try simp only [nfl, nft, Nat.reduceAdd] at hc))
    refine (HTB.out _).mono ?_
    rintro en w ⟨rfl, hx⟩
    replace st := st.ext hx
    clear hx
    (try clear hc); have hc := st.facts; (try simp only [nfl, nft, Nat.reduceAdd] at hc)
    go_wp2_with ((((with_reducible refine wl_box ?_ (fun K hK => ?_)); rfl; refine owp_box (o := ⟨some 1, _, _, _, _, _⟩) rfl st ?_; apply Exists.intro; refine ⟨?_, ?_⟩; (focus (go_simp; try rfl)); (clear st; intro b1 w hb st; clear hb))); (try simp only [nsl, Value.cells, unB] at st); (try clear hc); have hc := st.facts; (try simp only [nfl, nft, Nat.reduceAdd] at hc))
    refine (HTC.out _).mono ?_
    rintro en w ⟨rfl, hx⟩
    replace st := st.ext hx
    clear hx
    (try clear hc); have hc := st.facts; (try simp only [nfl, nft, Nat.reduceAdd] at hc)
    go_wp2_with ((((with_reducible refine wl_box ?_ (fun K hK => ?_)); rfl; refine owp_box (o := ⟨some 1, _, _, _, _, _⟩) rfl st ?_; apply Exists.intro; refine ⟨?_, ?_⟩; (focus (go_simp; try rfl)); (clear st; intro b1 w hb st; clear hb))); (try simp only [nsl, Value.cells, unB] at st); (try clear hc); have hc := st.facts; (try simp only [nfl, nft, Nat.reduceAdd] at hc))
    go_ret
    exact ⟨by rw [HF.out]; simp [arrow, ampS, happ, happ2, happ4], st.ext0⟩
set_option maxRecDepth 100000 in
set_option maxHeartbeats 2000000 in
theorem refRoles_any (x : CredT) (W : World) (hl : CredL 100000 x) :
    Calls Tryz.prog 27 #[cV x] W fun e w' => ∃ va vc, e = .returned (.slice va (credRo x).length vc) ∧ FreshI W w' (rowI 45 2 (.slice va (credRo x).length vc) (credRo x).length (cellsL (credRo x))) := by
  have HR := Lib.hid (fun W => refCredRight_any x W (by unfold CredL at hl; omega))
  clear hl
  obtain ⟨ro, hro0⟩ : ∃ l, credRo x = l := ⟨_, rfl⟩
  rw [hro0]
  have HRO := Lib.hid hro0
  clear hro0
  have st := Own.startOld W
  unfold cV S at *
  (try simp only [nsl, Value.cells, unB] at st)
  (try clear hc); have hc := st.facts; (try simp only [nfl, nft, Nat.reduceAdd] at hc)
  go_enter Tryz.func27, Tryz.ntmps27
  go_wp2_with ((first
        | ((with_reducible refine wl_box ?_ (fun K hK => ?_)); rfl; refine owp_box (o := ⟨some 1, _, _, _, _, _⟩) rfl st ?_; apply Exists.intro; refine ⟨?_, ?_⟩; (focus (go_simp; try rfl)); (clear st; intro b1 w hb st; clear hb))
        | ((with_reducible refine wl_buildSlice ?_ (fun K hK => ?_)); rfl; refine owp_buildSlice (o := ⟨some 11, _, _, _, _, _⟩) rfl st ?_; apply Exists.intro; apply Exists.intro; apply Exists.intro; apply Exists.intro; refine ⟨?_, ?_⟩; (focus (go_simp; (first | done | exact ⟨⟨rfl, rfl⟩, rfl⟩ | rfl))); (clear st; intro b11 w hb st; clear hb))
        | ((with_reducible refine wl_buildSlice ?_ (fun K hK => ?_)); rfl; refine owp_buildSlice (o := ⟨some 21, _, _, _, _, _⟩) rfl st ?_; apply Exists.intro; apply Exists.intro; apply Exists.intro; apply Exists.intro; refine ⟨?_, ?_⟩; (focus (go_simp; (first | done | exact ⟨⟨rfl, rfl⟩, rfl⟩ | rfl))); (clear st; intro b21 w hb st; clear hb))
        | ((with_reducible refine wl_buildSlice ?_ (fun K hK => ?_)); rfl; refine owp_buildSlice (o := ⟨some 26, _, _, _, _, _⟩) rfl st ?_; apply Exists.intro; apply Exists.intro; apply Exists.intro; apply Exists.intro; refine ⟨?_, ?_⟩; (focus (go_simp; (first | done | exact ⟨⟨rfl, rfl⟩, rfl⟩ | rfl))); (clear st; intro b26 w hb st; clear hb))); (try simp only [nsl, Value.cells, unB] at st); (try clear hc); have hc := st.facts; (try simp only [nfl, nft, Nat.reduceAdd] at hc))
  refine (HR.out _).mono ?_
  rintro en w ⟨rfl, hx⟩
  replace st := st.ext hx
  clear hx
  (try clear hc); have hc := st.facts; (try simp only [nfl, nft, Nat.reduceAdd] at hc)
  cases hr : credR x with
  | false =>
    have hro : credRo x = [] := by unfold credRo; rw [hr]; rfl
    obtain rfl : ro = [] := HRO.out.symm.trans hro
    clear hr hro
    go_wp2_with ((first
          | ((with_reducible refine wl_box ?_ (fun K hK => ?_)); rfl; refine owp_box (o := ⟨some 1, _, _, _, _, _⟩) rfl st ?_; apply Exists.intro; refine ⟨?_, ?_⟩; (focus (go_simp; try rfl)); (clear st; intro b1 w hb st; clear hb))
          | ((with_reducible refine wl_buildSlice ?_ (fun K hK => ?_)); rfl; refine owp_buildSlice (o := ⟨some 11, _, _, _, _, _⟩) rfl st ?_; apply Exists.intro; apply Exists.intro; apply Exists.intro; apply Exists.intro; refine ⟨?_, ?_⟩; (focus (go_simp; (first | done | exact ⟨⟨rfl, rfl⟩, rfl⟩ | rfl))); (clear st; intro b11 w hb st; clear hb))
          | ((with_reducible refine wl_buildSlice ?_ (fun K hK => ?_)); rfl; refine owp_buildSlice (o := ⟨some 21, _, _, _, _, _⟩) rfl st ?_; apply Exists.intro; apply Exists.intro; apply Exists.intro; apply Exists.intro; refine ⟨?_, ?_⟩; (focus (go_simp; (first | done | exact ⟨⟨rfl, rfl⟩, rfl⟩ | rfl))); (clear st; intro b21 w hb st; clear hb))
          | ((with_reducible refine wl_buildSlice ?_ (fun K hK => ?_)); rfl; refine owp_buildSlice (o := ⟨some 26, _, _, _, _, _⟩) rfl st ?_; apply Exists.intro; apply Exists.intro; apply Exists.intro; apply Exists.intro; refine ⟨?_, ?_⟩; (focus (go_simp; (first | done | exact ⟨⟨rfl, rfl⟩, rfl⟩ | rfl))); (clear st; intro b26 w hb st; clear hb))); (try simp only [nsl, Value.cells, unB] at st); (try clear hc); have hc := st.facts; (try simp only [nfl, nft, Nat.reduceAdd] at hc))
    replace st := (st.row_nil 45 2)
    go_ret
    exact ⟨none, 0, rfl, st.toFresh (i := 2) get2⟩
  | true =>
    have hr1 := fun k => credRo_1 (x := x) hr k
    have hr2 := fun k k4 => credRo_2 (x := x) hr k k4
    have hr4 := fun k => credRo_4 (x := x) hr k
    clear hr
    by_cases k1 : x.k = 1
    · obtain rfl : ro = [x.h] := HRO.out.symm.trans (hr1 k1)
      have hk1 : (x.k == 1) = true := by simp [k1]
      clear hr1 hr2 hr4
      go_wp2_with (first
          | ((with_reducible refine wl_buildSlice ?_ (fun K hK => ?_)); (rfl); (refine owp_buildRow (o := ⟨some 11, _, _, _, _, _⟩) rfl st 45 2 ?_; refine ⟨1, #[.string ⟨x.h.1.toArray⟩, .string ⟨x.h.2.toArray⟩], ?_, by simp, by simp [maxLen], ?_⟩; (focus (go_simp; (first | done | rfl))); (clear st; intro b11 w hb st; clear hb)); (try simp only [nsl, Value.cells, unB] at st); (try clear hc); have hc := st.facts; (try simp only [nfl, nft, Nat.reduceAdd] at hc))
          | ((first
            | ((with_reducible refine wl_box ?_ (fun K hK => ?_)); rfl; refine owp_box (o := ⟨some 1, _, _, _, _, _⟩) rfl st ?_; apply Exists.intro; refine ⟨?_, ?_⟩; (focus (go_simp; try rfl)); (clear st; intro b1 w hb st; clear hb))
            | ((with_reducible refine wl_buildSlice ?_ (fun K hK => ?_)); rfl; refine owp_buildSlice (o := ⟨some 11, _, _, _, _, _⟩) rfl st ?_; apply Exists.intro; apply Exists.intro; apply Exists.intro; apply Exists.intro; refine ⟨?_, ?_⟩; (focus (go_simp; (first | done | exact ⟨⟨rfl, rfl⟩, rfl⟩ | rfl))); (clear st; intro b11 w hb st; clear hb))
            | ((with_reducible refine wl_buildSlice ?_ (fun K hK => ?_)); rfl; refine owp_buildSlice (o := ⟨some 21, _, _, _, _, _⟩) rfl st ?_; apply Exists.intro; apply Exists.intro; apply Exists.intro; apply Exists.intro; refine ⟨?_, ?_⟩; (focus (go_simp; (first | done | exact ⟨⟨rfl, rfl⟩, rfl⟩ | rfl))); (clear st; intro b21 w hb st; clear hb))
            | ((with_reducible refine wl_buildSlice ?_ (fun K hK => ?_)); rfl; refine owp_buildSlice (o := ⟨some 26, _, _, _, _, _⟩) rfl st ?_; apply Exists.intro; apply Exists.intro; apply Exists.intro; apply Exists.intro; refine ⟨?_, ?_⟩; (focus (go_simp; (first | done | exact ⟨⟨rfl, rfl⟩, rfl⟩ | rfl))); (clear st; intro b26 w hb st; clear hb))); (try simp only [nsl, Value.cells, unB] at st); (try clear hc); have hc := st.facts; (try simp only [nfl, nft, Nat.reduceAdd] at hc)))
      go_ret
      exact ⟨_, _, rfl, st.toFresh (i := 2) get2⟩
    · have hk1 : (x.k == 1) = false := by simpa using k1
      by_cases k4 : x.k = 4
      · obtain rfl : ro = [x.h, x.b, x.c] := HRO.out.symm.trans (hr4 k4)
        have hk4 : (x.k == 4) = true := by simp [k4]
        clear hr1 hr2 hr4 k1 k4
        go_wp2_with (first
            | ((with_reducible refine wl_buildSlice ?_ (fun K hK => ?_)); (rfl); (refine owp_buildRow (o := ⟨some 21, _, _, _, _, _⟩) rfl st 45 2 ?_; refine ⟨3, #[.string ⟨x.h.1.toArray⟩, .string ⟨x.h.2.toArray⟩, .string ⟨x.b.1.toArray⟩, .string ⟨x.b.2.toArray⟩, .string ⟨x.c.1.toArray⟩, .string ⟨x.c.2.toArray⟩], ?_, by simp, by simp [maxLen], ?_⟩; (focus (go_simp; (first | done | rfl))); (clear st; intro b21 w hb st; clear hb)); (try simp only [nsl, Value.cells, unB] at st); (try clear hc); have hc := st.facts; (try simp only [nfl, nft, Nat.reduceAdd] at hc))
            | ((first
              | ((with_reducible refine wl_box ?_ (fun K hK => ?_)); rfl; refine owp_box (o := ⟨some 1, _, _, _, _, _⟩) rfl st ?_; apply Exists.intro; refine ⟨?_, ?_⟩; (focus (go_simp; try rfl)); (clear st; intro b1 w hb st; clear hb))
              | ((with_reducible refine wl_buildSlice ?_ (fun K hK => ?_)); rfl; refine owp_buildSlice (o := ⟨some 11, _, _, _, _, _⟩) rfl st ?_; apply Exists.intro; apply Exists.intro; apply Exists.intro; apply Exists.intro; refine ⟨?_, ?_⟩; (focus (go_simp; (first | done | exact ⟨⟨rfl, rfl⟩, rfl⟩ | rfl))); (clear st; intro b11 w hb st; clear hb))
              | ((with_reducible refine wl_buildSlice ?_ (fun K hK => ?_)); rfl; refine owp_buildSlice (o := ⟨some 21, _, _, _, _, _⟩) rfl st ?_; apply Exists.intro; apply Exists.intro; apply Exists.intro; apply Exists.intro; refine ⟨?_, ?_⟩; (focus (go_simp; (first | done | exact ⟨⟨rfl, rfl⟩, rfl⟩ | rfl))); (clear st; intro b21 w hb st; clear hb))
              | ((with_reducible refine wl_buildSlice ?_ (fun K hK => ?_)); rfl; refine owp_buildSlice (o := ⟨some 26, _, _, _, _, _⟩) rfl st ?_; apply Exists.intro; apply Exists.intro; apply Exists.intro; apply Exists.intro; refine ⟨?_, ?_⟩; (focus (go_simp; (first | done | exact ⟨⟨rfl, rfl⟩, rfl⟩ | rfl))); (clear st; intro b26 w hb st; clear hb))); (try simp only [nsl, Value.cells, unB] at st); (try clear hc); have hc := st.facts; (try simp only [nfl, nft, Nat.reduceAdd] at hc)))
        go_ret
        exact ⟨_, _, rfl, st.toFresh (i := 2) get2⟩
      · obtain rfl : ro = [x.h, x.b] := HRO.out.symm.trans (hr2 k1 k4)
        have hk4 : (x.k == 4) = false := by simpa using k4
        clear hr1 hr2 hr4 k1 k4
        go_wp2_with (first
            | ((with_reducible refine wl_buildSlice ?_ (fun K hK => ?_)); (rfl); (refine owp_buildRow (o := ⟨some 26, _, _, _, _, _⟩) rfl st 45 2 ?_; refine ⟨2, #[.string ⟨x.h.1.toArray⟩, .string ⟨x.h.2.toArray⟩, .string ⟨x.b.1.toArray⟩, .string ⟨x.b.2.toArray⟩], ?_, by simp, by simp [maxLen], ?_⟩; (focus (go_simp; (first | done | rfl))); (clear st; intro b26 w hb st; clear hb)); (try simp only [nsl, Value.cells, unB] at st); (try clear hc); have hc := st.facts; (try simp only [nfl, nft, Nat.reduceAdd] at hc))
            | ((first
              | ((with_reducible refine wl_box ?_ (fun K hK => ?_)); rfl; refine owp_box (o := ⟨some 1, _, _, _, _, _⟩) rfl st ?_; apply Exists.intro; refine ⟨?_, ?_⟩; (focus (go_simp; try rfl)); (clear st; intro b1 w hb st; clear hb))
              | ((with_reducible refine wl_buildSlice ?_ (fun K hK => ?_)); rfl; refine owp_buildSlice (o := ⟨some 11, _, _, _, _, _⟩) rfl st ?_; apply Exists.intro; apply Exists.intro; apply Exists.intro; apply Exists.intro; refine ⟨?_, ?_⟩; (focus (go_simp; (first | done | exact ⟨⟨rfl, rfl⟩, rfl⟩ | rfl))); (clear st; intro b11 w hb st; clear hb))
              | ((with_reducible refine wl_buildSlice ?_ (fun K hK => ?_)); rfl; refine owp_buildSlice (o := ⟨some 21, _, _, _, _, _⟩) rfl st ?_; apply Exists.intro; apply Exists.intro; apply Exists.intro; apply Exists.intro; refine ⟨?_, ?_⟩; (focus (go_simp; (first | done | exact ⟨⟨rfl, rfl⟩, rfl⟩ | rfl))); (clear st; intro b21 w hb st; clear hb))
              | ((with_reducible refine wl_buildSlice ?_ (fun K hK => ?_)); rfl; refine owp_buildSlice (o := ⟨some 26, _, _, _, _, _⟩) rfl st ?_; apply Exists.intro; apply Exists.intro; apply Exists.intro; apply Exists.intro; refine ⟨?_, ?_⟩; (focus (go_simp; (first | done | exact ⟨⟨rfl, rfl⟩, rfl⟩ | rfl))); (clear st; intro b26 w hb st; clear hb))); (try simp only [nsl, Value.cells, unB] at st); (try clear hc); have hc := st.facts; (try simp only [nfl, nft, Nat.reduceAdd] at hc)))
        go_ret
        exact ⟨_, _, rfl, st.toFresh (i := 2) get2⟩
end Go.Proofs.YtekngjkjgmplpaaGreat

namespace Go.Proofs.YtekngjkjgmplpaaGreat
set_option linter.unusedSimpArgs false
set_option linter.unusedVariables false
open Go Go.RowKit
def elF (w : World) (b : Nat) : List (Nat × Value) → Prop
  | [] => True
  | p :: l => w.cell? ⟨b, p.1, none⟩ = some p.2 ∧ elF w b l
theorem elF_of {w : World} {b : Nat} : ∀ {l : List (Nat × Value)}, (∀ p ∈ l, w.cell? ⟨b, p.1, none⟩ = some p.2) → elF w b l
  | [], _ => trivial
  | p :: l, h => ⟨h p (by simp), elF_of fun q hq => h q (by simp [hq])⟩
def elI (b : Nat) (l : List (Nat × Value)) : It where
  P _ s w := s b ∧ ∀ p ∈ l, w.cell? ⟨b, p.1, none⟩ = some p.2
  st := fun {e s w w'} ⟨h1, h2⟩ hag => ⟨h1, fun p hp => by rw [World.cell?_of_block (w := w) (hag b (.inr h1))]; exact h2 p hp⟩
  facts w := elF w b l
  ok := fun h => elF_of h.2
end Go.Proofs.YtekngjkjgmplpaaGreat

namespace Go.Proofs.YtekngjkjgmplpaaGreat
set_option linter.unusedSimpArgs false
set_option linter.unusedVariables false
open Go Go.RowKit
theorem refP_2 {s p0 p1 : List UInt8} (h : splitG arrow s = [p0, p1]) : refP s = onlyR (refQ (roleP1 p0) p1) := by unfold refP; rw [h]
theorem refP_no {s : List UInt8} (h : (splitG arrow s).length ≠ 2) : refP s = none := by
  unfold refP
  split
  · rename_i e; rw [e] at h; exact absurd rfl h
  · rfl
theorem refQ_4 {h : Role} {q x y : List UInt8} (hB : splitG ampS q = [x, y]) : refQ h q = some ⟨4, h, [], roleP1 x, roleP1 y, []⟩ := by unfold refQ; rw [hB]
theorem refQ_no {h : Role} {q : List UInt8} (hB : 2 < (splitG ampS q).length) : refQ h q = none := by
  unfold refQ
  split
  · rename_i e; rw [e] at hB; simp at hB
  · rfl
  · rename_i h1 h2
    exfalso
    cases hs : splitG ampS q with
    | nil => rw [hs] at hB; simp at hB
    | cons a l => cases l with
      | nil => rw [hs] at hB; simp at hB
      | cons b l => cases l with
        | nil => rw [hs] at hB; simp at hB
        | cons c l => exact h2 a b c l hs
theorem refQ_s {h : Role} {q b : List UInt8} (hB : splitG ampS q = [b]) : refQ h q = match splitG [46] q with
    | [_] => some ⟨1, h, q, nR, nR, []⟩
    | [x, y] => some ⟨2, h, [], (x, y), nR, []⟩
    | [x, y, z] => some ⟨3, h, [], (x, y), nR, z⟩
    | _ => none := by unfold refQ; rw [hB]; rfl
theorem refQ_5 {h : Role} {q b : List UInt8} (hB : splitG ampS q = [b]) (hD : 3 < (splitG [46] q).length) : refQ h q = none := by
  rw [refQ_s hB]
  cases hs : splitG [46] q with
  | nil => exfalso; rw [hs] at hD; simp at hD
  | cons a l => cases l with
    | nil => exfalso; rw [hs] at hD; simp at hD
    | cons b l => cases l with
      | nil => exfalso; rw [hs] at hD; simp at hD
      | cons c l => cases l with
        | nil => exfalso; rw [hs] at hD; simp at hD
        | cons d l => rfl
theorem join_2 {sep s a b : List UInt8} (h : splitG sep s = [a, b]) : a.length ≤ s.length ∧ b.length ≤ s.length := by
  have := splitG_join sep s
  rw [h] at this
  rw [← this]
  simp [joinG]
  omega
theorem join_3 {sep s a b c : List UInt8} (h : splitG sep s = [a, b, c]) : a.length ≤ s.length ∧ b.length ≤ s.length ∧ c.length ≤ s.length := by
  have := splitG_join sep s
  rw [h] at this
  rw [← this]
  simp [joinG]
  omega
theorem list_1 {α : Type} {l : List α} (h : l.length = 1) : ∃ a, l = [a] := by
  match l, h with
  | [a], _ => exact ⟨a, rfl⟩
theorem list_2 {α : Type} {l : List α} (h : l.length = 2) : ∃ a b, l = [a, b] := by
  match l, h with
  | [a, b], _ => exact ⟨a, b, rfl⟩
theorem list_3 {α : Type} {l : List α} (h : l.length = 3) : ∃ a b c, l = [a, b, c] := by
  match l, h with
  | [a, b, c], _ => exact ⟨a, b, c, rfl⟩
theorem Own.rowToEl {fr al : Nat → Prop} {w0 w : World} {L : List It} (st : Own fr al w0 L w) {i n c g : Nat} {E : TypeId} {xs : List Value} (l : List (Nat × Value)) (hi : L[i]? = some (rowI E 1 (.slice (some ⟨g, 0, none⟩) n c) n xs)) (hl : ∀ p ∈ l, xs[p.1]? = some p.2 ∧ p.1 < n) : Own fr al w0 (L.set i (elI g l)) w :=
  st.conv hi fun e s ⟨h1, h2⟩ h3 => ⟨fun _ => False, fun k => e k, ⟨h2 g rfl, fun p hp => (row_cell h1 p.1 (by have := (hl p hp).2; omega)).1.trans (hl p hp).1⟩, fun _ q => q.elim, fun k hk => .inl hk, fun _ q => q.elim⟩
set_option maxRecDepth 100000 in
set_option maxHeartbeats 8000000 in
theorem refCParse_any (s : List UInt8) (W : World) (hs : s.length ≤ 10000) :
    Calls Tryz.prog 21 #[S s] W fun e w' => e = .returned (.tuple #[cV (refP1 s), .bool (refP s).isSome]) ∧ Ext W w' := by
  have HS0 := Lib.hid (fun W => refSplit_any s arrow W (by decide) (by omega) (by decide))
  have st := Own.startOld W
  unfold S arrow at HS0
  unfold refP1
  by_cases h2 : (splitG arrow s).length = 2
  case neg =>
    have HN := Lib.hid (refP_no h2)
    have hne : (((splitG arrow s).length : Int) != 2) = true := by simp; omega
    unfold arrow at hne
    generalize splitG [32, 60, 45, 32] s = G at *
    clear h2
    have HZ := Lib.hid cV_z
    unfold S
    (try simp only [nsl, Value.cells, unB] at st)
    (try clear hc); have hc := st.facts; (try simp only [nfl, nft, elI, elF, Nat.reduceAdd] at hc)
    go_enter Tryz.func21, Tryz.ntmps21
    go_wp2_with ((first
          | ((with_reducible refine wl_alloc ?_ (fun K hK => ?_)); rfl; refine owp_alloc (o := ⟨some 2, _, _, _, _, _⟩) rfl st ?_; apply Exists.intro; apply Exists.intro; refine ⟨?_, ?_⟩; (focus (first | (go_simp; done) | (go_simp; rfl))); (clear st; intro b2 w hb st; clear hb))
          | ((with_reducible refine wl_store ?_ (fun K hK => ?_)); rfl; refine owp_store rfl st ?_; apply Exists.intro; apply Exists.intro; refine ⟨?_, ?_, ?_⟩; (focus (go_simp; try rfl)); (focus (go_simp; try rfl)); (first | (with_reducible refine ⟨0, _, _, _, _, get0, rfl, rfl, ?_, ?_, ?_, ?_⟩) | (with_reducible refine ⟨1, _, _, _, _, get1, rfl, rfl, ?_, ?_, ?_, ?_⟩) | (with_reducible refine ⟨2, _, _, _, _, get2, rfl, rfl, ?_, ?_, ?_, ?_⟩) | (with_reducible refine ⟨3, _, _, _, _, get3, rfl, rfl, ?_, ?_, ?_, ?_⟩) | (with_reducible refine ⟨4, _, _, _, _, get4, rfl, rfl, ?_, ?_, ?_, ?_⟩) | (with_reducible refine ⟨5, _, _, _, _, get5, rfl, rfl, ?_, ?_, ?_, ?_⟩)); (kernel_rfl); (simp [Value.cells]); (rfl); (clear st; intro w st))
          | ((with_reducible refine wl_alloc ?_ (fun K hK => ?_)); rfl; refine owp_alloc (o := ⟨some 5, _, _, _, _, _⟩) rfl st ?_; apply Exists.intro; apply Exists.intro; refine ⟨?_, ?_⟩; (focus (first | (go_simp; done) | (go_simp; rfl))); (clear st; intro b5 w hb st; clear hb))); (try simp only [nsl, Value.cells, unB] at st); (try clear hc); have hc := st.facts; (try simp only [nfl, nft, elI, elF, Nat.reduceAdd] at hc))
    refine (HS0.out _).mono ?_
    rintro en w ⟨a, c, rfl, hfr⟩
    replace st := st.ext hfr.ext
    clear hfr
    (try simp only [nsl, Value.cells, unB] at st)
    (try clear hc); have hc := st.facts; (try simp only [nfl, nft, elI, elF, Nat.reduceAdd] at hc)
    go_wp2_with ((first
          | ((with_reducible refine wl_alloc ?_ (fun K hK => ?_)); rfl; refine owp_alloc (o := ⟨some 2, _, _, _, _, _⟩) rfl st ?_; apply Exists.intro; apply Exists.intro; refine ⟨?_, ?_⟩; (focus (first | (go_simp; done) | (go_simp; rfl))); (clear st; intro b2 w hb st; clear hb))
          | ((with_reducible refine wl_store ?_ (fun K hK => ?_)); rfl; refine owp_store rfl st ?_; apply Exists.intro; apply Exists.intro; refine ⟨?_, ?_, ?_⟩; (focus (go_simp; try rfl)); (focus (go_simp; try rfl)); (first | (with_reducible refine ⟨0, _, _, _, _, get0, rfl, rfl, ?_, ?_, ?_, ?_⟩) | (with_reducible refine ⟨1, _, _, _, _, get1, rfl, rfl, ?_, ?_, ?_, ?_⟩) | (with_reducible refine ⟨2, _, _, _, _, get2, rfl, rfl, ?_, ?_, ?_, ?_⟩) | (with_reducible refine ⟨3, _, _, _, _, get3, rfl, rfl, ?_, ?_, ?_, ?_⟩) | (with_reducible refine ⟨4, _, _, _, _, get4, rfl, rfl, ?_, ?_, ?_, ?_⟩) | (with_reducible refine ⟨5, _, _, _, _, get5, rfl, rfl, ?_, ?_, ?_, ?_⟩)); (kernel_rfl); (simp [Value.cells]); (rfl); (clear st; intro w st))
          | ((with_reducible refine wl_alloc ?_ (fun K hK => ?_)); rfl; refine owp_alloc (o := ⟨some 5, _, _, _, _, _⟩) rfl st ?_; apply Exists.intro; apply Exists.intro; refine ⟨?_, ?_⟩; (focus (first | (go_simp; done) | (go_simp; rfl))); (clear st; intro b5 w hb st; clear hb))); (try simp only [nsl, Value.cells, unB] at st); (try clear hc); have hc := st.facts; (try simp only [nfl, nft, elI, elF, Nat.reduceAdd] at hc))
    (try simp only [Exit.inBlock, Exit.then])
    refine bodyPost_cell2 rfl rfl (st.blk (i := 1) get1) Tryz.underlying47 rfl (by kernel_rfl) rfl ?_
    exact ⟨by rw [HN.out]; rfl, st.ext0⟩
  obtain ⟨p0, p1, hG⟩ := list_2 h2
  obtain ⟨l0, l1⟩ := join_2 hG
  have HP := Lib.hid (refP_2 hG)
  unfold arrow at hG
  rw [hG] at HS0
  have HR0 := Lib.hid (fun W => refParse_any p0 W (by omega))
  have hr0 := roleP1_le p0
  have HB0 := Lib.hid (fun W => refSplit_any p1 ampS W (by decide) (by omega) (by decide))
  have HD0 := Lib.hid (fun W => refSplit_any p1 [46] W (by decide) (by omega) (by decide))
  obtain ⟨⟨ho, hd⟩, hr⟩ : ∃ r, roleP1 p0 = r := ⟨_, rfl⟩
  rw [hr] at HR0 HP hr0
  simp only at hr0
  obtain ⟨ok0, hok0⟩ : ∃ b, (roleP p0).isSome = b := ⟨_, rfl⟩
  rw [hok0] at HR0
  clear hr hok0 h2 hG
  have hBp := List.length_pos_iff.2 (splitG_ne ampS p1)
  have hDp := List.length_pos_iff.2 (splitG_ne [46] p1)
  obtain ⟨L, hL⟩ : ∃ L, splitG ampS p1 = L := ⟨_, rfl⟩
  obtain ⟨D, hD⟩ : ∃ D, splitG [46] p1 = D := ⟨_, rfl⟩
  rw [hL] at HB0 hBp
  rw [hD] at HD0 hDp
  obtain ⟨nb, hnb⟩ : ∃ n, L.length = n := ⟨_, rfl⟩
  obtain ⟨nd, hnd⟩ : ∃ n, D.length = n := ⟨_, rfl⟩
  unfold NewStr at HB0 HD0
  rw [hnb] at HB0 hBp
  rw [hnd] at HD0 hDp
  have HL := Lib.hid (And.intro hL hnb)
  have HD := Lib.hid (And.intro hD hnd)
  clear hL hD hnb hnd
  unfold S rV at HR0
  unfold S ampS at HB0
  unfold S at HD0
  simp only at HR0
  unfold S
  (try simp only [nsl, Value.cells, unB] at st)
  (try clear hc); have hc := st.facts; (try simp only [nfl, nft, elI, elF, Nat.reduceAdd] at hc)
  go_enter Tryz.func21, Tryz.ntmps21
  go_wp2_with ((first
        | ((with_reducible refine wl_alloc ?_ (fun K hK => ?_)); rfl; refine owp_alloc (o := ⟨some 2, _, _, _, _, _⟩) rfl st ?_; apply Exists.intro; apply Exists.intro; refine ⟨?_, ?_⟩; (focus (first | (go_simp; done) | (go_simp; rfl))); (clear st; intro b2 w hb st; clear hb))
        | ((with_reducible refine wl_store ?_ (fun K hK => ?_)); rfl; refine owp_store rfl st ?_; apply Exists.intro; apply Exists.intro; refine ⟨?_, ?_, ?_⟩; (focus (go_simp; try rfl)); (focus (go_simp; try rfl)); (first | (with_reducible refine ⟨0, _, _, _, _, get0, rfl, rfl, ?_, ?_, ?_, ?_⟩) | (with_reducible refine ⟨1, _, _, _, _, get1, rfl, rfl, ?_, ?_, ?_, ?_⟩) | (with_reducible refine ⟨2, _, _, _, _, get2, rfl, rfl, ?_, ?_, ?_, ?_⟩) | (with_reducible refine ⟨3, _, _, _, _, get3, rfl, rfl, ?_, ?_, ?_, ?_⟩) | (with_reducible refine ⟨4, _, _, _, _, get4, rfl, rfl, ?_, ?_, ?_, ?_⟩) | (with_reducible refine ⟨5, _, _, _, _, get5, rfl, rfl, ?_, ?_, ?_, ?_⟩)); (kernel_rfl); (simp [Value.cells]); (rfl); (clear st; intro w st))
        | ((with_reducible refine wl_alloc ?_ (fun K hK => ?_)); rfl; refine owp_alloc (o := ⟨some 5, _, _, _, _, _⟩) rfl st ?_; apply Exists.intro; apply Exists.intro; refine ⟨?_, ?_⟩; (focus (first | (go_simp; done) | (go_simp; rfl))); (clear st; intro b5 w hb st; clear hb))); (try simp only [nsl, Value.cells, unB] at st); (try clear hc); have hc := st.facts; (try simp only [nfl, nft, elI, elF, Nat.reduceAdd] at hc))
  refine (HS0.out _).mono ?_
  rintro en w ⟨a, c, rfl, hfr⟩
  replace st := st.fresh hfr
  clear hfr
  obtain ⟨g, gc, hv, hcap, -⟩ := st.rowAt (i := 2) get2 (by simp)
  injection hv with v1 _ v3
  subst v1 v3
  clear hcap
  simp only [List.length_cons, List.length_nil, Nat.zero_add, Nat.reduceAdd] at st ⊢
  replace st := st.rowToEl (i := 2) [(0, .string ⟨p0.toArray⟩), (1, .string ⟨p1.toArray⟩)] get2 (by intro p hp; simp at hp; rcases hp with rfl | rfl <;> exact ⟨rfl, by simp⟩)
  (try simp only [nsl, Value.cells, unB] at st)
  (try clear hc); have hc := st.facts; (try simp only [nfl, nft, elI, elF, Nat.reduceAdd] at hc)
  go_wp2_with ((first
        | ((with_reducible refine wl_alloc ?_ (fun K hK => ?_)); rfl; refine owp_alloc (o := ⟨some 2, _, _, _, _, _⟩) rfl st ?_; apply Exists.intro; apply Exists.intro; refine ⟨?_, ?_⟩; (focus (first | (go_simp; done) | (go_simp; rfl))); (clear st; intro b2 w hb st; clear hb))
        | ((with_reducible refine wl_store ?_ (fun K hK => ?_)); rfl; refine owp_store rfl st ?_; apply Exists.intro; apply Exists.intro; refine ⟨?_, ?_, ?_⟩; (focus (go_simp; try rfl)); (focus (go_simp; try rfl)); (first | (with_reducible refine ⟨0, _, _, _, _, get0, rfl, rfl, ?_, ?_, ?_, ?_⟩) | (with_reducible refine ⟨1, _, _, _, _, get1, rfl, rfl, ?_, ?_, ?_, ?_⟩) | (with_reducible refine ⟨2, _, _, _, _, get2, rfl, rfl, ?_, ?_, ?_, ?_⟩) | (with_reducible refine ⟨3, _, _, _, _, get3, rfl, rfl, ?_, ?_, ?_, ?_⟩) | (with_reducible refine ⟨4, _, _, _, _, get4, rfl, rfl, ?_, ?_, ?_, ?_⟩) | (with_reducible refine ⟨5, _, _, _, _, get5, rfl, rfl, ?_, ?_, ?_, ?_⟩)); (kernel_rfl); (simp [Value.cells]); (rfl); (clear st; intro w st))
        | ((with_reducible refine wl_alloc ?_ (fun K hK => ?_)); rfl; refine owp_alloc (o := ⟨some 5, _, _, _, _, _⟩) rfl st ?_; apply Exists.intro; apply Exists.intro; refine ⟨?_, ?_⟩; (focus (first | (go_simp; done) | (go_simp; rfl))); (clear st; intro b5 w hb st; clear hb))); (try simp only [nsl, Value.cells, unB] at st); (try clear hc); have hc := st.facts; (try simp only [nfl, nft, elI, elF, Nat.reduceAdd] at hc))
  refine (HR0.out _).mono ?_
  rintro en w ⟨rfl, hx⟩
  replace st := st.ext hx
  clear hx
  (try clear hc); have hc := st.facts; (try simp only [nfl, nft, elI, elF, Nat.reduceAdd] at hc)
  go_wp2_with ((first
        | ((with_reducible refine wl_alloc ?_ (fun K hK => ?_)); rfl; refine owp_alloc (o := ⟨some 2, _, _, _, _, _⟩) rfl st ?_; apply Exists.intro; apply Exists.intro; refine ⟨?_, ?_⟩; (focus (first | (go_simp; done) | (go_simp; rfl))); (clear st; intro b2 w hb st; clear hb))
        | ((with_reducible refine wl_store ?_ (fun K hK => ?_)); rfl; refine owp_store rfl st ?_; apply Exists.intro; apply Exists.intro; refine ⟨?_, ?_, ?_⟩; (focus (go_simp; try rfl)); (focus (go_simp; try rfl)); (first | (with_reducible refine ⟨0, _, _, _, _, get0, rfl, rfl, ?_, ?_, ?_, ?_⟩) | (with_reducible refine ⟨1, _, _, _, _, get1, rfl, rfl, ?_, ?_, ?_, ?_⟩) | (with_reducible refine ⟨2, _, _, _, _, get2, rfl, rfl, ?_, ?_, ?_, ?_⟩) | (with_reducible refine ⟨3, _, _, _, _, get3, rfl, rfl, ?_, ?_, ?_, ?_⟩) | (with_reducible refine ⟨4, _, _, _, _, get4, rfl, rfl, ?_, ?_, ?_, ?_⟩) | (with_reducible refine ⟨5, _, _, _, _, get5, rfl, rfl, ?_, ?_, ?_, ?_⟩)); (kernel_rfl); (simp [Value.cells]); (rfl); (clear st; intro w st))
        | ((with_reducible refine wl_alloc ?_ (fun K hK => ?_)); rfl; refine owp_alloc (o := ⟨some 5, _, _, _, _, _⟩) rfl st ?_; apply Exists.intro; apply Exists.intro; refine ⟨?_, ?_⟩; (focus (first | (go_simp; done) | (go_simp; rfl))); (clear st; intro b5 w hb st; clear hb))); (try simp only [nsl, Value.cells, unB] at st); (try clear hc); have hc := st.facts; (try simp only [nfl, nft, elI, elF, Nat.reduceAdd] at hc))
  refine (HB0.out _).mono ?_
  rintro en w ⟨a2, c2, rfl, hfr⟩
  replace st := st.fresh hfr
  clear hfr
  obtain ⟨gb, gbc, hv, hcap, -⟩ := st.rowAt (i := 4) get4 hBp
  injection hv with v1 _ v3
  subst v1 v3
  clear hcap
  (try simp only [nsl, Value.cells, unB] at st)
  (try clear hc); have hc := st.facts; (try simp only [nfl, nft, elI, elF, Nat.reduceAdd] at hc)
  go_wp2_with ((first
        | ((with_reducible refine wl_alloc ?_ (fun K hK => ?_)); rfl; refine owp_alloc (o := ⟨some 2, _, _, _, _, _⟩) rfl st ?_; apply Exists.intro; apply Exists.intro; refine ⟨?_, ?_⟩; (focus (first | (go_simp; done) | (go_simp; rfl))); (clear st; intro b2 w hb st; clear hb))
        | ((with_reducible refine wl_store ?_ (fun K hK => ?_)); rfl; refine owp_store rfl st ?_; apply Exists.intro; apply Exists.intro; refine ⟨?_, ?_, ?_⟩; (focus (go_simp; try rfl)); (focus (go_simp; try rfl)); (first | (with_reducible refine ⟨0, _, _, _, _, get0, rfl, rfl, ?_, ?_, ?_, ?_⟩) | (with_reducible refine ⟨1, _, _, _, _, get1, rfl, rfl, ?_, ?_, ?_, ?_⟩) | (with_reducible refine ⟨2, _, _, _, _, get2, rfl, rfl, ?_, ?_, ?_, ?_⟩) | (with_reducible refine ⟨3, _, _, _, _, get3, rfl, rfl, ?_, ?_, ?_, ?_⟩) | (with_reducible refine ⟨4, _, _, _, _, get4, rfl, rfl, ?_, ?_, ?_, ?_⟩) | (with_reducible refine ⟨5, _, _, _, _, get5, rfl, rfl, ?_, ?_, ?_, ?_⟩)); (kernel_rfl); (simp [Value.cells]); (rfl); (clear st; intro w st))
        | ((with_reducible refine wl_alloc ?_ (fun K hK => ?_)); rfl; refine owp_alloc (o := ⟨some 5, _, _, _, _, _⟩) rfl st ?_; apply Exists.intro; apply Exists.intro; refine ⟨?_, ?_⟩; (focus (first | (go_simp; done) | (go_simp; rfl))); (clear st; intro b5 w hb st; clear hb))); (try simp only [nsl, Value.cells, unB] at st); (try clear hc); have hc := st.facts; (try simp only [nfl, nft, elI, elF, Nat.reduceAdd] at hc))
  refine (HD0.out _).mono ?_
  rintro en w ⟨a3, c3, rfl, hfr⟩
  replace st := st.fresh hfr
  clear hfr
  obtain ⟨gd, gdc, hv, hcap, -⟩ := st.rowAt (i := 5) get5 hDp
  injection hv with v1 _ v3
  subst v1 v3
  clear hcap HS0 HB0 HD0 HR0
  (try simp only [nsl, Value.cells, unB] at st)
  (try clear hc); have hc := st.facts; (try simp only [nfl, nft, elI, elF, Nat.reduceAdd] at hc)
  by_cases b2 : nb = 2
  · subst b2
    obtain ⟨x, y, hxy⟩ := list_2 HL.out.2
    subst hxy
    obtain ⟨lx, ly⟩ := join_2 HL.out.1
    have HRX := Lib.hid (fun W => refParse_any x W (by omega))
    have HRY := Lib.hid (fun W => refParse_any y W (by omega))
    have hrx := roleP1_le x
    have hry := roleP1_le y
    have HQ : Hid (refQ (ho, hd) p1 = some ⟨4, (ho, hd), [], roleP1 x, roleP1 y, []⟩) := Lib.hid (refQ_4 HL.out.1)
    obtain ⟨⟨xo, xd⟩, hx1⟩ : ∃ r, roleP1 x = r := ⟨_, rfl⟩
    obtain ⟨⟨yo, yd⟩, hy1⟩ : ∃ r, roleP1 y = r := ⟨_, rfl⟩
    rw [hx1] at HRX hrx HQ
    rw [hy1] at HRY hry HQ
    simp only at hrx hry
    clear hx1 hy1
    unfold S rV at HRX HRY
    simp only at HRX HRY
    replace st := st.rowToEl (i := 4) [(0, .string ⟨x.toArray⟩), (1, .string ⟨y.toArray⟩)] get4 (by intro p hp; simp at hp; rcases hp with rfl | rfl <;> exact ⟨rfl, by simp⟩)
    (try simp only [nsl, Value.cells, unB] at st)
    (try clear hc); have hc := st.facts; (try simp only [nfl, nft, elI, elF, Nat.reduceAdd] at hc)
    go_wp2_with ((first
          | ((with_reducible refine wl_alloc ?_ (fun K hK => ?_)); rfl; refine owp_alloc (o := ⟨some 2, _, _, _, _, _⟩) rfl st ?_; apply Exists.intro; apply Exists.intro; refine ⟨?_, ?_⟩; (focus (first | (go_simp; done) | (go_simp; rfl))); (clear st; intro b2 w hb st; clear hb))
          | ((with_reducible refine wl_store ?_ (fun K hK => ?_)); rfl; refine owp_store rfl st ?_; apply Exists.intro; apply Exists.intro; refine ⟨?_, ?_, ?_⟩; (focus (go_simp; try rfl)); (focus (go_simp; try rfl)); (first | (with_reducible refine ⟨0, _, _, _, _, get0, rfl, rfl, ?_, ?_, ?_, ?_⟩) | (with_reducible refine ⟨1, _, _, _, _, get1, rfl, rfl, ?_, ?_, ?_, ?_⟩) | (with_reducible refine ⟨2, _, _, _, _, get2, rfl, rfl, ?_, ?_, ?_, ?_⟩) | (with_reducible refine ⟨3, _, _, _, _, get3, rfl, rfl, ?_, ?_, ?_, ?_⟩) | (with_reducible refine ⟨4, _, _, _, _, get4, rfl, rfl, ?_, ?_, ?_, ?_⟩) | (with_reducible refine ⟨5, _, _, _, _, get5, rfl, rfl, ?_, ?_, ?_, ?_⟩)); (kernel_rfl); (simp [Value.cells]); (rfl); (clear st; intro w st))
          | ((with_reducible refine wl_alloc ?_ (fun K hK => ?_)); rfl; refine owp_alloc (o := ⟨some 5, _, _, _, _, _⟩) rfl st ?_; apply Exists.intro; apply Exists.intro; refine ⟨?_, ?_⟩; (focus (first | (go_simp; done) | (go_simp; rfl))); (clear st; intro b5 w hb st; clear hb))); (try simp only [nsl, Value.cells, unB] at st); (try clear hc); have hc := st.facts; (try simp only [nfl, nft, elI, elF, Nat.reduceAdd] at hc))
    refine (HRX.out _).mono ?_
    rintro en w ⟨rfl, hx⟩
    replace st := st.ext hx
    clear hx
    (try clear hc); have hc := st.facts; (try simp only [nfl, nft, elI, elF, Nat.reduceAdd] at hc)
    unfold S
    go_wp2_with ((first
          | ((with_reducible refine wl_alloc ?_ (fun K hK => ?_)); rfl; refine owp_alloc (o := ⟨some 2, _, _, _, _, _⟩) rfl st ?_; apply Exists.intro; apply Exists.intro; refine ⟨?_, ?_⟩; (focus (first | (go_simp; done) | (go_simp; rfl))); (clear st; intro b2 w hb st; clear hb))
          | ((with_reducible refine wl_store ?_ (fun K hK => ?_)); rfl; refine owp_store rfl st ?_; apply Exists.intro; apply Exists.intro; refine ⟨?_, ?_, ?_⟩; (focus (go_simp; try rfl)); (focus (go_simp; try rfl)); (first | (with_reducible refine ⟨0, _, _, _, _, get0, rfl, rfl, ?_, ?_, ?_, ?_⟩) | (with_reducible refine ⟨1, _, _, _, _, get1, rfl, rfl, ?_, ?_, ?_, ?_⟩) | (with_reducible refine ⟨2, _, _, _, _, get2, rfl, rfl, ?_, ?_, ?_, ?_⟩) | (with_reducible refine ⟨3, _, _, _, _, get3, rfl, rfl, ?_, ?_, ?_, ?_⟩) | (with_reducible refine ⟨4, _, _, _, _, get4, rfl, rfl, ?_, ?_, ?_, ?_⟩) | (with_reducible refine ⟨5, _, _, _, _, get5, rfl, rfl, ?_, ?_, ?_, ?_⟩)); (kernel_rfl); (simp [Value.cells]); (rfl); (clear st; intro w st))
          | ((with_reducible refine wl_alloc ?_ (fun K hK => ?_)); rfl; refine owp_alloc (o := ⟨some 5, _, _, _, _, _⟩) rfl st ?_; apply Exists.intro; apply Exists.intro; refine ⟨?_, ?_⟩; (focus (first | (go_simp; done) | (go_simp; rfl))); (clear st; intro b5 w hb st; clear hb))); (try simp only [nsl, Value.cells, unB] at st); (try clear hc); have hc := st.facts; (try simp only [nfl, nft, elI, elF, Nat.reduceAdd] at hc))
    refine (HRY.out _).mono ?_
    rintro en w ⟨rfl, hx⟩
    replace st := st.ext hx
    clear hx
    (try clear hc); have hc := st.facts; (try simp only [nfl, nft, elI, elF, Nat.reduceAdd] at hc)
    unfold S
    go_wp2_with ((first
          | ((with_reducible refine wl_alloc ?_ (fun K hK => ?_)); rfl; refine owp_alloc (o := ⟨some 2, _, _, _, _, _⟩) rfl st ?_; apply Exists.intro; apply Exists.intro; refine ⟨?_, ?_⟩; (focus (first | (go_simp; done) | (go_simp; rfl))); (clear st; intro b2 w hb st; clear hb))
          | ((with_reducible refine wl_store ?_ (fun K hK => ?_)); rfl; refine owp_store rfl st ?_; apply Exists.intro; apply Exists.intro; refine ⟨?_, ?_, ?_⟩; (focus (go_simp; try rfl)); (focus (go_simp; try rfl)); (first | (with_reducible refine ⟨0, _, _, _, _, get0, rfl, rfl, ?_, ?_, ?_, ?_⟩) | (with_reducible refine ⟨1, _, _, _, _, get1, rfl, rfl, ?_, ?_, ?_, ?_⟩) | (with_reducible refine ⟨2, _, _, _, _, get2, rfl, rfl, ?_, ?_, ?_, ?_⟩) | (with_reducible refine ⟨3, _, _, _, _, get3, rfl, rfl, ?_, ?_, ?_, ?_⟩) | (with_reducible refine ⟨4, _, _, _, _, get4, rfl, rfl, ?_, ?_, ?_, ?_⟩) | (with_reducible refine ⟨5, _, _, _, _, get5, rfl, rfl, ?_, ?_, ?_, ?_⟩)); (kernel_rfl); (simp [Value.cells]); (rfl); (clear st; intro w st))
          | ((with_reducible refine wl_alloc ?_ (fun K hK => ?_)); rfl; refine owp_alloc (o := ⟨some 5, _, _, _, _, _⟩) rfl st ?_; apply Exists.intro; apply Exists.intro; refine ⟨?_, ?_⟩; (focus (first | (go_simp; done) | (go_simp; rfl))); (clear st; intro b5 w hb st; clear hb))); (try simp only [nsl, Value.cells, unB] at st); (try clear hc); have hc := st.facts; (try simp only [nfl, nft, elI, elF, Nat.reduceAdd] at hc))
    obtain ⟨rr, hrr⟩ : ∃ b, credR (⟨4, (ho, hd), [], (xo, xd), (yo, yd), []⟩ : CredT) = b := ⟨_, rfl⟩
    have HF : Hid (refP s = if rr = true then some (⟨4, (ho, hd), [], (xo, xd), (yo, yd), []⟩ : CredT) else none) := Lib.hid (by rw [HP.out, HQ.out]; simp [onlyR, hrr])
    have HRT := Lib.hid (fun W => refCredRight_any (⟨4, (ho, hd), [], (xo, xd), (yo, yd), []⟩ : CredT) W ⟨by simp only; omega, by simp only; omega, by simp [nR] <;> omega, by simp [nR] <;> omega, by simp [nR] <;> omega, by simp [nR] <;> omega, by simp [nR] <;> omega, by simp [nR] <;> omega⟩)
    rw [hrr] at HRT
    clear hrr
    unfold cV S at HRT
    simp only [nR] at HRT
    refine (HRT.out _).mono ?_
    rintro en w ⟨rfl, hx⟩
    replace st := st.ext hx
    clear hx
    (try simp only [nsl, Value.cells, unB] at st)
    (try clear hc); have hc := st.facts; (try simp only [nfl, nft, elI, elF, Nat.reduceAdd] at hc)
    cases rr with
    | true =>
      go_wp2_with ((first
            | ((with_reducible refine wl_alloc ?_ (fun K hK => ?_)); rfl; refine owp_alloc (o := ⟨some 2, _, _, _, _, _⟩) rfl st ?_; apply Exists.intro; apply Exists.intro; refine ⟨?_, ?_⟩; (focus (first | (go_simp; done) | (go_simp; rfl))); (clear st; intro b2 w hb st; clear hb))
            | ((with_reducible refine wl_store ?_ (fun K hK => ?_)); rfl; refine owp_store rfl st ?_; apply Exists.intro; apply Exists.intro; refine ⟨?_, ?_, ?_⟩; (focus (go_simp; try rfl)); (focus (go_simp; try rfl)); (first | (with_reducible refine ⟨0, _, _, _, _, get0, rfl, rfl, ?_, ?_, ?_, ?_⟩) | (with_reducible refine ⟨1, _, _, _, _, get1, rfl, rfl, ?_, ?_, ?_, ?_⟩) | (with_reducible refine ⟨2, _, _, _, _, get2, rfl, rfl, ?_, ?_, ?_, ?_⟩) | (with_reducible refine ⟨3, _, _, _, _, get3, rfl, rfl, ?_, ?_, ?_, ?_⟩) | (with_reducible refine ⟨4, _, _, _, _, get4, rfl, rfl, ?_, ?_, ?_, ?_⟩) | (with_reducible refine ⟨5, _, _, _, _, get5, rfl, rfl, ?_, ?_, ?_, ?_⟩)); (kernel_rfl); (simp [Value.cells]); (rfl); (clear st; intro w st))
            | ((with_reducible refine wl_alloc ?_ (fun K hK => ?_)); rfl; refine owp_alloc (o := ⟨some 5, _, _, _, _, _⟩) rfl st ?_; apply Exists.intro; apply Exists.intro; refine ⟨?_, ?_⟩; (focus (first | (go_simp; done) | (go_simp; rfl))); (clear st; intro b5 w hb st; clear hb))); (try simp only [nsl, Value.cells, unB] at st); (try clear hc); have hc := st.facts; (try simp only [nfl, nft, elI, elF, Nat.reduceAdd] at hc))
      (try simp only [Exit.inBlock, Exit.then])
      refine bodyPost_cell2 rfl rfl (st.blk (i := 1) get1) Tryz.underlying47 rfl (by kernel_rfl) rfl ?_
      exact ⟨by rw [HF.out]; rfl, st.ext0⟩
    | false =>
      go_wp2_with ((first
            | ((with_reducible refine wl_alloc ?_ (fun K hK => ?_)); rfl; refine owp_alloc (o := ⟨some 2, _, _, _, _, _⟩) rfl st ?_; apply Exists.intro; apply Exists.intro; refine ⟨?_, ?_⟩; (focus (first | (go_simp; done) | (go_simp; rfl))); (clear st; intro b2 w hb st; clear hb))
            | ((with_reducible refine wl_store ?_ (fun K hK => ?_)); rfl; refine owp_store rfl st ?_; apply Exists.intro; apply Exists.intro; refine ⟨?_, ?_, ?_⟩; (focus (go_simp; try rfl)); (focus (go_simp; try rfl)); (first | (with_reducible refine ⟨0, _, _, _, _, get0, rfl, rfl, ?_, ?_, ?_, ?_⟩) | (with_reducible refine ⟨1, _, _, _, _, get1, rfl, rfl, ?_, ?_, ?_, ?_⟩) | (with_reducible refine ⟨2, _, _, _, _, get2, rfl, rfl, ?_, ?_, ?_, ?_⟩) | (with_reducible refine ⟨3, _, _, _, _, get3, rfl, rfl, ?_, ?_, ?_, ?_⟩) | (with_reducible refine ⟨4, _, _, _, _, get4, rfl, rfl, ?_, ?_, ?_, ?_⟩) | (with_reducible refine ⟨5, _, _, _, _, get5, rfl, rfl, ?_, ?_, ?_, ?_⟩)); (kernel_rfl); (simp [Value.cells]); (rfl); (clear st; intro w st))
            | ((with_reducible refine wl_alloc ?_ (fun K hK => ?_)); rfl; refine owp_alloc (o := ⟨some 5, _, _, _, _, _⟩) rfl st ?_; apply Exists.intro; apply Exists.intro; refine ⟨?_, ?_⟩; (focus (first | (go_simp; done) | (go_simp; rfl))); (clear st; intro b5 w hb st; clear hb))); (try simp only [nsl, Value.cells, unB] at st); (try clear hc); have hc := st.facts; (try simp only [nfl, nft, elI, elF, Nat.reduceAdd] at hc))
      (try simp only [Exit.inBlock, Exit.then])
      refine bodyPost_cell2 rfl rfl (st.blk (i := 1) get1) Tryz.underlying47 rfl (by kernel_rfl) rfl ?_
      exact ⟨by rw [HF.out]; rfl, st.ext0⟩
  have b2' : ((nb : Int) == 2) = false := by simp; omega
  by_cases b3 : 2 < nb
  · have HN : Hid (refP s = none) := Lib.hid (by rw [HP.out, refQ_no (by rw [HL.out.1, HL.out.2]; exact b3)]; rfl)
    have HZ := Lib.hid cV_z
    go_wp2_with ((first
          | ((with_reducible refine wl_alloc ?_ (fun K hK => ?_)); rfl; refine owp_alloc (o := ⟨some 2, _, _, _, _, _⟩) rfl st ?_; apply Exists.intro; apply Exists.intro; refine ⟨?_, ?_⟩; (focus (first | (go_simp; done) | (go_simp; rfl))); (clear st; intro b2 w hb st; clear hb))
          | ((with_reducible refine wl_store ?_ (fun K hK => ?_)); rfl; refine owp_store rfl st ?_; apply Exists.intro; apply Exists.intro; refine ⟨?_, ?_, ?_⟩; (focus (go_simp; try rfl)); (focus (go_simp; try rfl)); (first | (with_reducible refine ⟨0, _, _, _, _, get0, rfl, rfl, ?_, ?_, ?_, ?_⟩) | (with_reducible refine ⟨1, _, _, _, _, get1, rfl, rfl, ?_, ?_, ?_, ?_⟩) | (with_reducible refine ⟨2, _, _, _, _, get2, rfl, rfl, ?_, ?_, ?_, ?_⟩) | (with_reducible refine ⟨3, _, _, _, _, get3, rfl, rfl, ?_, ?_, ?_, ?_⟩) | (with_reducible refine ⟨4, _, _, _, _, get4, rfl, rfl, ?_, ?_, ?_, ?_⟩) | (with_reducible refine ⟨5, _, _, _, _, get5, rfl, rfl, ?_, ?_, ?_, ?_⟩)); (kernel_rfl); (simp [Value.cells]); (rfl); (clear st; intro w st))
          | ((with_reducible refine wl_alloc ?_ (fun K hK => ?_)); rfl; refine owp_alloc (o := ⟨some 5, _, _, _, _, _⟩) rfl st ?_; apply Exists.intro; apply Exists.intro; refine ⟨?_, ?_⟩; (focus (first | (go_simp; done) | (go_simp; rfl))); (clear st; intro b5 w hb st; clear hb))); (try simp only [nsl, Value.cells, unB] at st); (try clear hc); have hc := st.facts; (try simp only [nfl, nft, elI, elF, Nat.reduceAdd] at hc))
    (try simp only [Exit.inBlock, Exit.then])
    refine bodyPost_cell2 rfl rfl (st.blk (i := 1) get1) Tryz.underlying47 rfl (by kernel_rfl) rfl ?_
    exact ⟨by rw [HN.out]; rfl, st.ext0⟩
  obtain rfl : nb = 1 := by omega
  obtain ⟨b0, hb0⟩ := list_1 HL.out.2
  subst hb0
  by_cases d3 : 3 < nd
  · have HN : Hid (refP s = none) := Lib.hid (by rw [HP.out, refQ_5 HL.out.1 (by rw [HD.out.1, HD.out.2]; exact d3)]; rfl)
    have HZ := Lib.hid cV_z
    go_wp2_with ((first
          | ((with_reducible refine wl_alloc ?_ (fun K hK => ?_)); rfl; refine owp_alloc (o := ⟨some 2, _, _, _, _, _⟩) rfl st ?_; apply Exists.intro; apply Exists.intro; refine ⟨?_, ?_⟩; (focus (first | (go_simp; done) | (go_simp; rfl))); (clear st; intro b2 w hb st; clear hb))
          | ((with_reducible refine wl_store ?_ (fun K hK => ?_)); rfl; refine owp_store rfl st ?_; apply Exists.intro; apply Exists.intro; refine ⟨?_, ?_, ?_⟩; (focus (go_simp; try rfl)); (focus (go_simp; try rfl)); (first | (with_reducible refine ⟨0, _, _, _, _, get0, rfl, rfl, ?_, ?_, ?_, ?_⟩) | (with_reducible refine ⟨1, _, _, _, _, get1, rfl, rfl, ?_, ?_, ?_, ?_⟩) | (with_reducible refine ⟨2, _, _, _, _, get2, rfl, rfl, ?_, ?_, ?_, ?_⟩) | (with_reducible refine ⟨3, _, _, _, _, get3, rfl, rfl, ?_, ?_, ?_, ?_⟩) | (with_reducible refine ⟨4, _, _, _, _, get4, rfl, rfl, ?_, ?_, ?_, ?_⟩) | (with_reducible refine ⟨5, _, _, _, _, get5, rfl, rfl, ?_, ?_, ?_, ?_⟩)); (kernel_rfl); (simp [Value.cells]); (rfl); (clear st; intro w st))
          | ((with_reducible refine wl_alloc ?_ (fun K hK => ?_)); rfl; refine owp_alloc (o := ⟨some 5, _, _, _, _, _⟩) rfl st ?_; apply Exists.intro; apply Exists.intro; refine ⟨?_, ?_⟩; (focus (first | (go_simp; done) | (go_simp; rfl))); (clear st; intro b5 w hb st; clear hb))); (try simp only [nsl, Value.cells, unB] at st); (try clear hc); have hc := st.facts; (try simp only [nfl, nft, elI, elF, Nat.reduceAdd] at hc))
    (try simp only [Exit.inBlock, Exit.then])
    refine bodyPost_cell2 rfl rfl (st.blk (i := 1) get1) Tryz.underlying47 rfl (by kernel_rfl) rfl ?_
    exact ⟨by rw [HN.out]; rfl, st.ext0⟩
  have hnd : nd = 1 ∨ nd = 2 ∨ nd = 3 := by omega
  rcases hnd with rfl | rfl | rfl
  · obtain ⟨d0, hd0⟩ := list_1 HD.out.2
    subst hd0
    have HQ : Hid (refQ (ho, hd) p1 = some ⟨1, (ho, hd), p1, nR, nR, []⟩) := Lib.hid (by rw [refQ_s HL.out.1, HD.out.1])
    go_wp2_with ((first
          | ((with_reducible refine wl_alloc ?_ (fun K hK => ?_)); rfl; refine owp_alloc (o := ⟨some 2, _, _, _, _, _⟩) rfl st ?_; apply Exists.intro; apply Exists.intro; refine ⟨?_, ?_⟩; (focus (first | (go_simp; done) | (go_simp; rfl))); (clear st; intro b2 w hb st; clear hb))
          | ((with_reducible refine wl_store ?_ (fun K hK => ?_)); rfl; refine owp_store rfl st ?_; apply Exists.intro; apply Exists.intro; refine ⟨?_, ?_, ?_⟩; (focus (go_simp; try rfl)); (focus (go_simp; try rfl)); (first | (with_reducible refine ⟨0, _, _, _, _, get0, rfl, rfl, ?_, ?_, ?_, ?_⟩) | (with_reducible refine ⟨1, _, _, _, _, get1, rfl, rfl, ?_, ?_, ?_, ?_⟩) | (with_reducible refine ⟨2, _, _, _, _, get2, rfl, rfl, ?_, ?_, ?_, ?_⟩) | (with_reducible refine ⟨3, _, _, _, _, get3, rfl, rfl, ?_, ?_, ?_, ?_⟩) | (with_reducible refine ⟨4, _, _, _, _, get4, rfl, rfl, ?_, ?_, ?_, ?_⟩) | (with_reducible refine ⟨5, _, _, _, _, get5, rfl, rfl, ?_, ?_, ?_, ?_⟩)); (kernel_rfl); (simp [Value.cells]); (rfl); (clear st; intro w st))
          | ((with_reducible refine wl_alloc ?_ (fun K hK => ?_)); rfl; refine owp_alloc (o := ⟨some 5, _, _, _, _, _⟩) rfl st ?_; apply Exists.intro; apply Exists.intro; refine ⟨?_, ?_⟩; (focus (first | (go_simp; done) | (go_simp; rfl))); (clear st; intro b5 w hb st; clear hb))); (try simp only [nsl, Value.cells, unB] at st); (try clear hc); have hc := st.facts; (try simp only [nfl, nft, elI, elF, Nat.reduceAdd] at hc))
    obtain ⟨rr, hrr⟩ : ∃ b, credR (⟨1, (ho, hd), p1, nR, nR, []⟩ : CredT) = b := ⟨_, rfl⟩
    have HF : Hid (refP s = if rr = true then some (⟨1, (ho, hd), p1, nR, nR, []⟩ : CredT) else none) := Lib.hid (by rw [HP.out, HQ.out]; simp [onlyR, hrr])
    have HRT := Lib.hid (fun W => refCredRight_any (⟨1, (ho, hd), p1, nR, nR, []⟩ : CredT) W ⟨by simp only; omega, by simp only; omega, by simp [nR] <;> omega, by simp [nR] <;> omega, by simp [nR] <;> omega, by simp [nR] <;> omega, by simp [nR] <;> omega, by simp [nR] <;> omega⟩)
    rw [hrr] at HRT
    clear hrr
    unfold cV S at HRT
    simp only [nR] at HRT
    refine (HRT.out _).mono ?_
    rintro en w ⟨rfl, hx⟩
    replace st := st.ext hx
    clear hx
    (try simp only [nsl, Value.cells, unB] at st)
    (try clear hc); have hc := st.facts; (try simp only [nfl, nft, elI, elF, Nat.reduceAdd] at hc)
    cases rr with
    | true =>
      go_wp2_with ((first
            | ((with_reducible refine wl_alloc ?_ (fun K hK => ?_)); rfl; refine owp_alloc (o := ⟨some 2, _, _, _, _, _⟩) rfl st ?_; apply Exists.intro; apply Exists.intro; refine ⟨?_, ?_⟩; (focus (first | (go_simp; done) | (go_simp; rfl))); (clear st; intro b2 w hb st; clear hb))
            | ((with_reducible refine wl_store ?_ (fun K hK => ?_)); rfl; refine owp_store rfl st ?_; apply Exists.intro; apply Exists.intro; refine ⟨?_, ?_, ?_⟩; (focus (go_simp; try rfl)); (focus (go_simp; try rfl)); (first | (with_reducible refine ⟨0, _, _, _, _, get0, rfl, rfl, ?_, ?_, ?_, ?_⟩) | (with_reducible refine ⟨1, _, _, _, _, get1, rfl, rfl, ?_, ?_, ?_, ?_⟩) | (with_reducible refine ⟨2, _, _, _, _, get2, rfl, rfl, ?_, ?_, ?_, ?_⟩) | (with_reducible refine ⟨3, _, _, _, _, get3, rfl, rfl, ?_, ?_, ?_, ?_⟩) | (with_reducible refine ⟨4, _, _, _, _, get4, rfl, rfl, ?_, ?_, ?_, ?_⟩) | (with_reducible refine ⟨5, _, _, _, _, get5, rfl, rfl, ?_, ?_, ?_, ?_⟩)); (kernel_rfl); (simp [Value.cells]); (rfl); (clear st; intro w st))
            | ((with_reducible refine wl_alloc ?_ (fun K hK => ?_)); rfl; refine owp_alloc (o := ⟨some 5, _, _, _, _, _⟩) rfl st ?_; apply Exists.intro; apply Exists.intro; refine ⟨?_, ?_⟩; (focus (first | (go_simp; done) | (go_simp; rfl))); (clear st; intro b5 w hb st; clear hb))); (try simp only [nsl, Value.cells, unB] at st); (try clear hc); have hc := st.facts; (try simp only [nfl, nft, elI, elF, Nat.reduceAdd] at hc))
      (try simp only [Exit.inBlock, Exit.then])
      refine bodyPost_cell2 rfl rfl (st.blk (i := 1) get1) Tryz.underlying47 rfl (by kernel_rfl) rfl ?_
      exact ⟨by rw [HF.out]; rfl, st.ext0⟩
    | false =>
      go_wp2_with ((first
            | ((with_reducible refine wl_alloc ?_ (fun K hK => ?_)); rfl; refine owp_alloc (o := ⟨some 2, _, _, _, _, _⟩) rfl st ?_; apply Exists.intro; apply Exists.intro; refine ⟨?_, ?_⟩; (focus (first | (go_simp; done) | (go_simp; rfl))); (clear st; intro b2 w hb st; clear hb))
            | ((with_reducible refine wl_store ?_ (fun K hK => ?_)); rfl; refine owp_store rfl st ?_; apply Exists.intro; apply Exists.intro; refine ⟨?_, ?_, ?_⟩; (focus (go_simp; try rfl)); (focus (go_simp; try rfl)); (first | (with_reducible refine ⟨0, _, _, _, _, get0, rfl, rfl, ?_, ?_, ?_, ?_⟩) | (with_reducible refine ⟨1, _, _, _, _, get1, rfl, rfl, ?_, ?_, ?_, ?_⟩) | (with_reducible refine ⟨2, _, _, _, _, get2, rfl, rfl, ?_, ?_, ?_, ?_⟩) | (with_reducible refine ⟨3, _, _, _, _, get3, rfl, rfl, ?_, ?_, ?_, ?_⟩) | (with_reducible refine ⟨4, _, _, _, _, get4, rfl, rfl, ?_, ?_, ?_, ?_⟩) | (with_reducible refine ⟨5, _, _, _, _, get5, rfl, rfl, ?_, ?_, ?_, ?_⟩)); (kernel_rfl); (simp [Value.cells]); (rfl); (clear st; intro w st))
            | ((with_reducible refine wl_alloc ?_ (fun K hK => ?_)); rfl; refine owp_alloc (o := ⟨some 5, _, _, _, _, _⟩) rfl st ?_; apply Exists.intro; apply Exists.intro; refine ⟨?_, ?_⟩; (focus (first | (go_simp; done) | (go_simp; rfl))); (clear st; intro b5 w hb st; clear hb))); (try simp only [nsl, Value.cells, unB] at st); (try clear hc); have hc := st.facts; (try simp only [nfl, nft, elI, elF, Nat.reduceAdd] at hc))
      (try simp only [Exit.inBlock, Exit.then])
      refine bodyPost_cell2 rfl rfl (st.blk (i := 1) get1) Tryz.underlying47 rfl (by kernel_rfl) rfl ?_
      exact ⟨by rw [HF.out]; rfl, st.ext0⟩
  · obtain ⟨d0, d1, hd0⟩ := list_2 HD.out.2
    subst hd0
    obtain ⟨m0, m1⟩ := join_2 HD.out.1
    have HQ : Hid (refQ (ho, hd) p1 = some ⟨2, (ho, hd), [], (d0, d1), nR, []⟩) := Lib.hid (by rw [refQ_s HL.out.1, HD.out.1])
    replace st := st.rowToEl (i := 5) [(0, .string ⟨d0.toArray⟩), (1, .string ⟨d1.toArray⟩)] get5 (by intro p hp; simp at hp; rcases hp with rfl | rfl <;> exact ⟨rfl, by simp⟩)
    (try simp only [nsl, Value.cells, unB] at st)
    (try clear hc); have hc := st.facts; (try simp only [nfl, nft, elI, elF, Nat.reduceAdd] at hc)
    go_wp2_with ((first
          | ((with_reducible refine wl_alloc ?_ (fun K hK => ?_)); rfl; refine owp_alloc (o := ⟨some 2, _, _, _, _, _⟩) rfl st ?_; apply Exists.intro; apply Exists.intro; refine ⟨?_, ?_⟩; (focus (first | (go_simp; done) | (go_simp; rfl))); (clear st; intro b2 w hb st; clear hb))
          | ((with_reducible refine wl_store ?_ (fun K hK => ?_)); rfl; refine owp_store rfl st ?_; apply Exists.intro; apply Exists.intro; refine ⟨?_, ?_, ?_⟩; (focus (go_simp; try rfl)); (focus (go_simp; try rfl)); (first | (with_reducible refine ⟨0, _, _, _, _, get0, rfl, rfl, ?_, ?_, ?_, ?_⟩) | (with_reducible refine ⟨1, _, _, _, _, get1, rfl, rfl, ?_, ?_, ?_, ?_⟩) | (with_reducible refine ⟨2, _, _, _, _, get2, rfl, rfl, ?_, ?_, ?_, ?_⟩) | (with_reducible refine ⟨3, _, _, _, _, get3, rfl, rfl, ?_, ?_, ?_, ?_⟩) | (with_reducible refine ⟨4, _, _, _, _, get4, rfl, rfl, ?_, ?_, ?_, ?_⟩) | (with_reducible refine ⟨5, _, _, _, _, get5, rfl, rfl, ?_, ?_, ?_, ?_⟩)); (kernel_rfl); (simp [Value.cells]); (rfl); (clear st; intro w st))
          | ((with_reducible refine wl_alloc ?_ (fun K hK => ?_)); rfl; refine owp_alloc (o := ⟨some 5, _, _, _, _, _⟩) rfl st ?_; apply Exists.intro; apply Exists.intro; refine ⟨?_, ?_⟩; (focus (first | (go_simp; done) | (go_simp; rfl))); (clear st; intro b5 w hb st; clear hb))); (try simp only [nsl, Value.cells, unB] at st); (try clear hc); have hc := st.facts; (try simp only [nfl, nft, elI, elF, Nat.reduceAdd] at hc))
    refine Rg4.wp_region4_eq #[0, 1, 3, 0, 8, 24, 63, 127, 255] [8] [2, 5] (fun _ => True) [0, 1, 2, 3, 4, 5, 6, 7, 8] (by kernel_rfl) (by kernel_rfl) (by kernel_rfl) (by kernel_rfl) (show Rg4.PB _ by repeat (first | with_reducible exact Rg4.pb_body | with_reducible exact Rg4.pb_bodyD rfl | with_reducible refine Rg4.pb_then ?_ | with_reducible refine Rg4.pb_inBlock ?_ | with_reducible refine Rg4.pb_noGoto ?_)) (trivial) ?_
    replace st := st.drew
    change Rg4.wp4 _ _ _ _ _ _ _ _ _ (World.drew _) _ _
    generalize World.drew _ = w at st ⊢
    (try clear hc); have hc := st.facts; (try simp only [nfl, nft, elI, elF, Nat.reduceAdd] at hc)
    iterate 2 (refine Rg4.w4_any (Rg4.want_none rfl) rfl ?_; apply Exists.intro; refine ⟨fun w' => ?_, ?_⟩; (focus (first | (go_simp; done) | (go_simp; first | rfl | (rw [if_neg] <;> first | rfl | omega) | (rw [if_pos] <;> first | rfl | omega)))); (try simp only [Rg4.nrm]))
    (refine Rg4.w4_read (Rg4.want_none rfl) rfl rfl ?_; apply Exists.intro; refine ⟨fun w' hw' hcl' => ?_, ?_⟩; focus (subst hw'; (focus (first | (go_simp; done) | (go_simp; first | rfl | (rw [if_neg] <;> first | rfl | omega) | (rw [if_pos] <;> first | rfl | omega))))); (try simp only [Rg4.nrm]))
    iterate 2 (refine Rg4.w4_any (Rg4.want_none rfl) rfl ?_; apply Exists.intro; refine ⟨fun w' => ?_, ?_⟩; (focus (first | (go_simp; done) | (go_simp; first | rfl | (rw [if_neg] <;> first | rfl | omega) | (rw [if_pos] <;> first | rfl | omega)))); (try simp only [Rg4.nrm]))
    (refine Rg4.w4_read (Rg4.want_none rfl) rfl rfl ?_; apply Exists.intro; refine ⟨fun w' hw' hcl' => ?_, ?_⟩; focus (subst hw'; (focus (first | (go_simp; done) | (go_simp; first | rfl | (rw [if_neg] <;> first | rfl | omega) | (rw [if_pos] <;> first | rfl | omega))))); (try simp only [Rg4.nrm]))
    iterate 2 (refine Rg4.w4_any (Rg4.want_none rfl) rfl ?_; apply Exists.intro; refine ⟨fun w' => ?_, ?_⟩; (focus (first | (go_simp; done) | (go_simp; first | rfl | (rw [if_neg] <;> first | rfl | omega) | (rw [if_pos] <;> first | rfl | omega)))); (try simp only [Rg4.nrm]))
    (refine Rg4.w4_bar (Rg4.want_none rfl) rfl (fun w' hw' hcl' _ K hK => ?_); subst hw'; (refine owp_store rfl st ?_; apply Exists.intro; apply Exists.intro; refine ⟨?_, ?_, ?_⟩; (focus (go_simp; try rfl)); (focus (go_simp; try rfl)); (first | (with_reducible refine ⟨0, _, _, _, _, get0, rfl, rfl, ?_, ?_, ?_, ?_⟩) | (with_reducible refine ⟨1, _, _, _, _, get1, rfl, rfl, ?_, ?_, ?_, ?_⟩) | (with_reducible refine ⟨2, _, _, _, _, get2, rfl, rfl, ?_, ?_, ?_, ?_⟩) | (with_reducible refine ⟨3, _, _, _, _, get3, rfl, rfl, ?_, ?_, ?_, ?_⟩) | (with_reducible refine ⟨4, _, _, _, _, get4, rfl, rfl, ?_, ?_, ?_, ?_⟩) | (with_reducible refine ⟨5, _, _, _, _, get5, rfl, rfl, ?_, ?_, ?_, ?_⟩)); (kernel_rfl); (simp [Value.cells]); (rfl); (clear st; intro w st); (try simp only [nsl, Value.cells, unB] at st); (try clear hc); have hc := st.facts; (try simp only [nfl, nft, elI, elF, Nat.reduceAdd] at hc)); refine hK _ _ ⟨trivial, ?_⟩; (try simp only [Rg4.nrm]))
    refine Rg4.w4_nil (fun w' hw' hcl' _ => ?_); subst hw'; clear hcl'
    go_wp2_with ((first
          | ((with_reducible refine wl_alloc ?_ (fun K hK => ?_)); rfl; refine owp_alloc (o := ⟨some 2, _, _, _, _, _⟩) rfl st ?_; apply Exists.intro; apply Exists.intro; refine ⟨?_, ?_⟩; (focus (first | (go_simp; done) | (go_simp; rfl))); (clear st; intro b2 w hb st; clear hb))
          | ((with_reducible refine wl_store ?_ (fun K hK => ?_)); rfl; refine owp_store rfl st ?_; apply Exists.intro; apply Exists.intro; refine ⟨?_, ?_, ?_⟩; (focus (go_simp; try rfl)); (focus (go_simp; try rfl)); (first | (with_reducible refine ⟨0, _, _, _, _, get0, rfl, rfl, ?_, ?_, ?_, ?_⟩) | (with_reducible refine ⟨1, _, _, _, _, get1, rfl, rfl, ?_, ?_, ?_, ?_⟩) | (with_reducible refine ⟨2, _, _, _, _, get2, rfl, rfl, ?_, ?_, ?_, ?_⟩) | (with_reducible refine ⟨3, _, _, _, _, get3, rfl, rfl, ?_, ?_, ?_, ?_⟩) | (with_reducible refine ⟨4, _, _, _, _, get4, rfl, rfl, ?_, ?_, ?_, ?_⟩) | (with_reducible refine ⟨5, _, _, _, _, get5, rfl, rfl, ?_, ?_, ?_, ?_⟩)); (kernel_rfl); (simp [Value.cells]); (rfl); (clear st; intro w st))
          | ((with_reducible refine wl_alloc ?_ (fun K hK => ?_)); rfl; refine owp_alloc (o := ⟨some 5, _, _, _, _, _⟩) rfl st ?_; apply Exists.intro; apply Exists.intro; refine ⟨?_, ?_⟩; (focus (first | (go_simp; done) | (go_simp; rfl))); (clear st; intro b5 w hb st; clear hb))); (try simp only [nsl, Value.cells, unB] at st); (try clear hc); have hc := st.facts; (try simp only [nfl, nft, elI, elF, Nat.reduceAdd] at hc))
    obtain ⟨rr, hrr⟩ : ∃ b, credR (⟨2, (ho, hd), [], (d0, d1), nR, []⟩ : CredT) = b := ⟨_, rfl⟩
    have HF : Hid (refP s = if rr = true then some (⟨2, (ho, hd), [], (d0, d1), nR, []⟩ : CredT) else none) := Lib.hid (by rw [HP.out, HQ.out]; simp [onlyR, hrr])
    have HRT := Lib.hid (fun W => refCredRight_any (⟨2, (ho, hd), [], (d0, d1), nR, []⟩ : CredT) W ⟨by simp only; omega, by simp only; omega, by simp [nR] <;> omega, by simp [nR] <;> omega, by simp [nR] <;> omega, by simp [nR] <;> omega, by simp [nR] <;> omega, by simp [nR] <;> omega⟩)
    rw [hrr] at HRT
    clear hrr
    unfold cV S at HRT
    simp only [nR] at HRT
    refine (HRT.out _).mono ?_
    rintro en w ⟨rfl, hx⟩
    replace st := st.ext hx
    clear hx
    (try simp only [nsl, Value.cells, unB] at st)
    (try clear hc); have hc := st.facts; (try simp only [nfl, nft, elI, elF, Nat.reduceAdd] at hc)
    cases rr with
    | true =>
      go_wp2_with ((first
            | ((with_reducible refine wl_alloc ?_ (fun K hK => ?_)); rfl; refine owp_alloc (o := ⟨some 2, _, _, _, _, _⟩) rfl st ?_; apply Exists.intro; apply Exists.intro; refine ⟨?_, ?_⟩; (focus (first | (go_simp; done) | (go_simp; rfl))); (clear st; intro b2 w hb st; clear hb))
            | ((with_reducible refine wl_store ?_ (fun K hK => ?_)); rfl; refine owp_store rfl st ?_; apply Exists.intro; apply Exists.intro; refine ⟨?_, ?_, ?_⟩; (focus (go_simp; try rfl)); (focus (go_simp; try rfl)); (first | (with_reducible refine ⟨0, _, _, _, _, get0, rfl, rfl, ?_, ?_, ?_, ?_⟩) | (with_reducible refine ⟨1, _, _, _, _, get1, rfl, rfl, ?_, ?_, ?_, ?_⟩) | (with_reducible refine ⟨2, _, _, _, _, get2, rfl, rfl, ?_, ?_, ?_, ?_⟩) | (with_reducible refine ⟨3, _, _, _, _, get3, rfl, rfl, ?_, ?_, ?_, ?_⟩) | (with_reducible refine ⟨4, _, _, _, _, get4, rfl, rfl, ?_, ?_, ?_, ?_⟩) | (with_reducible refine ⟨5, _, _, _, _, get5, rfl, rfl, ?_, ?_, ?_, ?_⟩)); (kernel_rfl); (simp [Value.cells]); (rfl); (clear st; intro w st))
            | ((with_reducible refine wl_alloc ?_ (fun K hK => ?_)); rfl; refine owp_alloc (o := ⟨some 5, _, _, _, _, _⟩) rfl st ?_; apply Exists.intro; apply Exists.intro; refine ⟨?_, ?_⟩; (focus (first | (go_simp; done) | (go_simp; rfl))); (clear st; intro b5 w hb st; clear hb))); (try simp only [nsl, Value.cells, unB] at st); (try clear hc); have hc := st.facts; (try simp only [nfl, nft, elI, elF, Nat.reduceAdd] at hc))
      (try simp only [Exit.inBlock, Exit.then])
      refine bodyPost_cell2 rfl rfl (st.blk (i := 1) get1) Tryz.underlying47 rfl (by kernel_rfl) rfl ?_
      exact ⟨by rw [HF.out]; rfl, st.ext0⟩
    | false =>
      go_wp2_with ((first
            | ((with_reducible refine wl_alloc ?_ (fun K hK => ?_)); rfl; refine owp_alloc (o := ⟨some 2, _, _, _, _, _⟩) rfl st ?_; apply Exists.intro; apply Exists.intro; refine ⟨?_, ?_⟩; (focus (first | (go_simp; done) | (go_simp; rfl))); (clear st; intro b2 w hb st; clear hb))
            | ((with_reducible refine wl_store ?_ (fun K hK => ?_)); rfl; refine owp_store rfl st ?_; apply Exists.intro; apply Exists.intro; refine ⟨?_, ?_, ?_⟩; (focus (go_simp; try rfl)); (focus (go_simp; try rfl)); (first | (with_reducible refine ⟨0, _, _, _, _, get0, rfl, rfl, ?_, ?_, ?_, ?_⟩) | (with_reducible refine ⟨1, _, _, _, _, get1, rfl, rfl, ?_, ?_, ?_, ?_⟩) | (with_reducible refine ⟨2, _, _, _, _, get2, rfl, rfl, ?_, ?_, ?_, ?_⟩) | (with_reducible refine ⟨3, _, _, _, _, get3, rfl, rfl, ?_, ?_, ?_, ?_⟩) | (with_reducible refine ⟨4, _, _, _, _, get4, rfl, rfl, ?_, ?_, ?_, ?_⟩) | (with_reducible refine ⟨5, _, _, _, _, get5, rfl, rfl, ?_, ?_, ?_, ?_⟩)); (kernel_rfl); (simp [Value.cells]); (rfl); (clear st; intro w st))
            | ((with_reducible refine wl_alloc ?_ (fun K hK => ?_)); rfl; refine owp_alloc (o := ⟨some 5, _, _, _, _, _⟩) rfl st ?_; apply Exists.intro; apply Exists.intro; refine ⟨?_, ?_⟩; (focus (first | (go_simp; done) | (go_simp; rfl))); (clear st; intro b5 w hb st; clear hb))); (try simp only [nsl, Value.cells, unB] at st); (try clear hc); have hc := st.facts; (try simp only [nfl, nft, elI, elF, Nat.reduceAdd] at hc))
      (try simp only [Exit.inBlock, Exit.then])
      refine bodyPost_cell2 rfl rfl (st.blk (i := 1) get1) Tryz.underlying47 rfl (by kernel_rfl) rfl ?_
      exact ⟨by rw [HF.out]; rfl, st.ext0⟩
  · obtain ⟨d0, d1, d2, hd0⟩ := list_3 HD.out.2
    subst hd0
    obtain ⟨m0, m1, m2⟩ := join_3 HD.out.1
    have HQ : Hid (refQ (ho, hd) p1 = some ⟨3, (ho, hd), [], (d0, d1), nR, d2⟩) := Lib.hid (by rw [refQ_s HL.out.1, HD.out.1])
    replace st := st.rowToEl (i := 5) [(0, .string ⟨d0.toArray⟩), (1, .string ⟨d1.toArray⟩), (2, .string ⟨d2.toArray⟩)] get5 (by intro p hp; simp at hp; rcases hp with rfl | rfl | rfl <;> exact ⟨rfl, by simp⟩)
    (try simp only [nsl, Value.cells, unB] at st)
    (try clear hc); have hc := st.facts; (try simp only [nfl, nft, elI, elF, Nat.reduceAdd] at hc)
    go_wp2_with ((first
          | ((with_reducible refine wl_alloc ?_ (fun K hK => ?_)); rfl; refine owp_alloc (o := ⟨some 2, _, _, _, _, _⟩) rfl st ?_; apply Exists.intro; apply Exists.intro; refine ⟨?_, ?_⟩; (focus (first | (go_simp; done) | (go_simp; rfl))); (clear st; intro b2 w hb st; clear hb))
          | ((with_reducible refine wl_store ?_ (fun K hK => ?_)); rfl; refine owp_store rfl st ?_; apply Exists.intro; apply Exists.intro; refine ⟨?_, ?_, ?_⟩; (focus (go_simp; try rfl)); (focus (go_simp; try rfl)); (first | (with_reducible refine ⟨0, _, _, _, _, get0, rfl, rfl, ?_, ?_, ?_, ?_⟩) | (with_reducible refine ⟨1, _, _, _, _, get1, rfl, rfl, ?_, ?_, ?_, ?_⟩) | (with_reducible refine ⟨2, _, _, _, _, get2, rfl, rfl, ?_, ?_, ?_, ?_⟩) | (with_reducible refine ⟨3, _, _, _, _, get3, rfl, rfl, ?_, ?_, ?_, ?_⟩) | (with_reducible refine ⟨4, _, _, _, _, get4, rfl, rfl, ?_, ?_, ?_, ?_⟩) | (with_reducible refine ⟨5, _, _, _, _, get5, rfl, rfl, ?_, ?_, ?_, ?_⟩)); (kernel_rfl); (simp [Value.cells]); (rfl); (clear st; intro w st))
          | ((with_reducible refine wl_alloc ?_ (fun K hK => ?_)); rfl; refine owp_alloc (o := ⟨some 5, _, _, _, _, _⟩) rfl st ?_; apply Exists.intro; apply Exists.intro; refine ⟨?_, ?_⟩; (focus (first | (go_simp; done) | (go_simp; rfl))); (clear st; intro b5 w hb st; clear hb))); (try simp only [nsl, Value.cells, unB] at st); (try clear hc); have hc := st.facts; (try simp only [nfl, nft, elI, elF, Nat.reduceAdd] at hc))
    refine Rg4.wp_region4_eq #[0, 1, 3, 0, 8, 24, 63, 127, 255] [8] [2, 5] (fun _ => True) [0, 1, 2, 3, 4, 5, 6, 7, 8] (by kernel_rfl) (by kernel_rfl) (by kernel_rfl) (by kernel_rfl) (show Rg4.PB _ by repeat (first | with_reducible exact Rg4.pb_body | with_reducible exact Rg4.pb_bodyD rfl | with_reducible refine Rg4.pb_then ?_ | with_reducible refine Rg4.pb_inBlock ?_ | with_reducible refine Rg4.pb_noGoto ?_)) (trivial) ?_
    replace st := st.drew
    change Rg4.wp4 _ _ _ _ _ _ _ _ _ (World.drew _) _ _
    generalize World.drew _ = w at st ⊢
    (try clear hc); have hc := st.facts; (try simp only [nfl, nft, elI, elF, Nat.reduceAdd] at hc)
    iterate 2 (refine Rg4.w4_any (Rg4.want_none rfl) rfl ?_; apply Exists.intro; refine ⟨fun w' => ?_, ?_⟩; (focus (first | (go_simp; done) | (go_simp; first | rfl | (rw [if_neg] <;> first | rfl | omega) | (rw [if_pos] <;> first | rfl | omega)))); (try simp only [Rg4.nrm]))
    (refine Rg4.w4_read (Rg4.want_none rfl) rfl rfl ?_; apply Exists.intro; refine ⟨fun w' hw' hcl' => ?_, ?_⟩; focus (subst hw'; (focus (first | (go_simp; done) | (go_simp; first | rfl | (rw [if_neg] <;> first | rfl | omega) | (rw [if_pos] <;> first | rfl | omega))))); (try simp only [Rg4.nrm]))
    iterate 2 (refine Rg4.w4_any (Rg4.want_none rfl) rfl ?_; apply Exists.intro; refine ⟨fun w' => ?_, ?_⟩; (focus (first | (go_simp; done) | (go_simp; first | rfl | (rw [if_neg] <;> first | rfl | omega) | (rw [if_pos] <;> first | rfl | omega)))); (try simp only [Rg4.nrm]))
    (refine Rg4.w4_read (Rg4.want_none rfl) rfl rfl ?_; apply Exists.intro; refine ⟨fun w' hw' hcl' => ?_, ?_⟩; focus (subst hw'; (focus (first | (go_simp; done) | (go_simp; first | rfl | (rw [if_neg] <;> first | rfl | omega) | (rw [if_pos] <;> first | rfl | omega))))); (try simp only [Rg4.nrm]))
    iterate 2 (refine Rg4.w4_any (Rg4.want_none rfl) rfl ?_; apply Exists.intro; refine ⟨fun w' => ?_, ?_⟩; (focus (first | (go_simp; done) | (go_simp; first | rfl | (rw [if_neg] <;> first | rfl | omega) | (rw [if_pos] <;> first | rfl | omega)))); (try simp only [Rg4.nrm]))
    (refine Rg4.w4_bar (Rg4.want_none rfl) rfl (fun w' hw' hcl' _ K hK => ?_); subst hw'; (refine owp_store rfl st ?_; apply Exists.intro; apply Exists.intro; refine ⟨?_, ?_, ?_⟩; (focus (go_simp; try rfl)); (focus (go_simp; try rfl)); (first | (with_reducible refine ⟨0, _, _, _, _, get0, rfl, rfl, ?_, ?_, ?_, ?_⟩) | (with_reducible refine ⟨1, _, _, _, _, get1, rfl, rfl, ?_, ?_, ?_, ?_⟩) | (with_reducible refine ⟨2, _, _, _, _, get2, rfl, rfl, ?_, ?_, ?_, ?_⟩) | (with_reducible refine ⟨3, _, _, _, _, get3, rfl, rfl, ?_, ?_, ?_, ?_⟩) | (with_reducible refine ⟨4, _, _, _, _, get4, rfl, rfl, ?_, ?_, ?_, ?_⟩) | (with_reducible refine ⟨5, _, _, _, _, get5, rfl, rfl, ?_, ?_, ?_, ?_⟩)); (kernel_rfl); (simp [Value.cells]); (rfl); (clear st; intro w st); (try simp only [nsl, Value.cells, unB] at st); (try clear hc); have hc := st.facts; (try simp only [nfl, nft, elI, elF, Nat.reduceAdd] at hc)); refine hK _ _ ⟨trivial, ?_⟩; (try simp only [Rg4.nrm]))
    refine Rg4.w4_nil (fun w' hw' hcl' _ => ?_); subst hw'; clear hcl'
    go_wp2_with ((first
          | ((with_reducible refine wl_alloc ?_ (fun K hK => ?_)); rfl; refine owp_alloc (o := ⟨some 2, _, _, _, _, _⟩) rfl st ?_; apply Exists.intro; apply Exists.intro; refine ⟨?_, ?_⟩; (focus (first | (go_simp; done) | (go_simp; rfl))); (clear st; intro b2 w hb st; clear hb))
          | ((with_reducible refine wl_store ?_ (fun K hK => ?_)); rfl; refine owp_store rfl st ?_; apply Exists.intro; apply Exists.intro; refine ⟨?_, ?_, ?_⟩; (focus (go_simp; try rfl)); (focus (go_simp; try rfl)); (first | (with_reducible refine ⟨0, _, _, _, _, get0, rfl, rfl, ?_, ?_, ?_, ?_⟩) | (with_reducible refine ⟨1, _, _, _, _, get1, rfl, rfl, ?_, ?_, ?_, ?_⟩) | (with_reducible refine ⟨2, _, _, _, _, get2, rfl, rfl, ?_, ?_, ?_, ?_⟩) | (with_reducible refine ⟨3, _, _, _, _, get3, rfl, rfl, ?_, ?_, ?_, ?_⟩) | (with_reducible refine ⟨4, _, _, _, _, get4, rfl, rfl, ?_, ?_, ?_, ?_⟩) | (with_reducible refine ⟨5, _, _, _, _, get5, rfl, rfl, ?_, ?_, ?_, ?_⟩)); (kernel_rfl); (simp [Value.cells]); (rfl); (clear st; intro w st))
          | ((with_reducible refine wl_alloc ?_ (fun K hK => ?_)); rfl; refine owp_alloc (o := ⟨some 5, _, _, _, _, _⟩) rfl st ?_; apply Exists.intro; apply Exists.intro; refine ⟨?_, ?_⟩; (focus (first | (go_simp; done) | (go_simp; rfl))); (clear st; intro b5 w hb st; clear hb))); (try simp only [nsl, Value.cells, unB] at st); (try clear hc); have hc := st.facts; (try simp only [nfl, nft, elI, elF, Nat.reduceAdd] at hc))
    obtain ⟨rr, hrr⟩ : ∃ b, credR (⟨3, (ho, hd), [], (d0, d1), nR, d2⟩ : CredT) = b := ⟨_, rfl⟩
    have HF : Hid (refP s = if rr = true then some (⟨3, (ho, hd), [], (d0, d1), nR, d2⟩ : CredT) else none) := Lib.hid (by rw [HP.out, HQ.out]; simp [onlyR, hrr])
    have HRT := Lib.hid (fun W => refCredRight_any (⟨3, (ho, hd), [], (d0, d1), nR, d2⟩ : CredT) W ⟨by simp only; omega, by simp only; omega, by simp [nR] <;> omega, by simp [nR] <;> omega, by simp [nR] <;> omega, by simp [nR] <;> omega, by simp [nR] <;> omega, by simp [nR] <;> omega⟩)
    rw [hrr] at HRT
    clear hrr
    unfold cV S at HRT
    simp only [nR] at HRT
    refine (HRT.out _).mono ?_
    rintro en w ⟨rfl, hx⟩
    replace st := st.ext hx
    clear hx
    (try simp only [nsl, Value.cells, unB] at st)
    (try clear hc); have hc := st.facts; (try simp only [nfl, nft, elI, elF, Nat.reduceAdd] at hc)
    cases rr with
    | true =>
      go_wp2_with ((first
            | ((with_reducible refine wl_alloc ?_ (fun K hK => ?_)); rfl; refine owp_alloc (o := ⟨some 2, _, _, _, _, _⟩) rfl st ?_; apply Exists.intro; apply Exists.intro; refine ⟨?_, ?_⟩; (focus (first | (go_simp; done) | (go_simp; rfl))); (clear st; intro b2 w hb st; clear hb))
            | ((with_reducible refine wl_store ?_ (fun K hK => ?_)); rfl; refine owp_store rfl st ?_; apply Exists.intro; apply Exists.intro; refine ⟨?_, ?_, ?_⟩; (focus (go_simp; try rfl)); (focus (go_simp; try rfl)); (first | (with_reducible refine ⟨0, _, _, _, _, get0, rfl, rfl, ?_, ?_, ?_, ?_⟩) | (with_reducible refine ⟨1, _, _, _, _, get1, rfl, rfl, ?_, ?_, ?_, ?_⟩) | (with_reducible refine ⟨2, _, _, _, _, get2, rfl, rfl, ?_, ?_, ?_, ?_⟩) | (with_reducible refine ⟨3, _, _, _, _, get3, rfl, rfl, ?_, ?_, ?_, ?_⟩) | (with_reducible refine ⟨4, _, _, _, _, get4, rfl, rfl, ?_, ?_, ?_, ?_⟩) | (with_reducible refine ⟨5, _, _, _, _, get5, rfl, rfl, ?_, ?_, ?_, ?_⟩)); (kernel_rfl); (simp [Value.cells]); (rfl); (clear st; intro w st))
            | ((with_reducible refine wl_alloc ?_ (fun K hK => ?_)); rfl; refine owp_alloc (o := ⟨some 5, _, _, _, _, _⟩) rfl st ?_; apply Exists.intro; apply Exists.intro; refine ⟨?_, ?_⟩; (focus (first | (go_simp; done) | (go_simp; rfl))); (clear st; intro b5 w hb st; clear hb))); (try simp only [nsl, Value.cells, unB] at st); (try clear hc); have hc := st.facts; (try simp only [nfl, nft, elI, elF, Nat.reduceAdd] at hc))
      (try simp only [Exit.inBlock, Exit.then])
      refine bodyPost_cell2 rfl rfl (st.blk (i := 1) get1) Tryz.underlying47 rfl (by kernel_rfl) rfl ?_
      exact ⟨by rw [HF.out]; rfl, st.ext0⟩
    | false =>
      go_wp2_with ((first
            | ((with_reducible refine wl_alloc ?_ (fun K hK => ?_)); rfl; refine owp_alloc (o := ⟨some 2, _, _, _, _, _⟩) rfl st ?_; apply Exists.intro; apply Exists.intro; refine ⟨?_, ?_⟩; (focus (first | (go_simp; done) | (go_simp; rfl))); (clear st; intro b2 w hb st; clear hb))
            | ((with_reducible refine wl_store ?_ (fun K hK => ?_)); rfl; refine owp_store rfl st ?_; apply Exists.intro; apply Exists.intro; refine ⟨?_, ?_, ?_⟩; (focus (go_simp; try rfl)); (focus (go_simp; try rfl)); (first | (with_reducible refine ⟨0, _, _, _, _, get0, rfl, rfl, ?_, ?_, ?_, ?_⟩) | (with_reducible refine ⟨1, _, _, _, _, get1, rfl, rfl, ?_, ?_, ?_, ?_⟩) | (with_reducible refine ⟨2, _, _, _, _, get2, rfl, rfl, ?_, ?_, ?_, ?_⟩) | (with_reducible refine ⟨3, _, _, _, _, get3, rfl, rfl, ?_, ?_, ?_, ?_⟩) | (with_reducible refine ⟨4, _, _, _, _, get4, rfl, rfl, ?_, ?_, ?_, ?_⟩) | (with_reducible refine ⟨5, _, _, _, _, get5, rfl, rfl, ?_, ?_, ?_, ?_⟩)); (kernel_rfl); (simp [Value.cells]); (rfl); (clear st; intro w st))
            | ((with_reducible refine wl_alloc ?_ (fun K hK => ?_)); rfl; refine owp_alloc (o := ⟨some 5, _, _, _, _, _⟩) rfl st ?_; apply Exists.intro; apply Exists.intro; refine ⟨?_, ?_⟩; (focus (first | (go_simp; done) | (go_simp; rfl))); (clear st; intro b5 w hb st; clear hb))); (try simp only [nsl, Value.cells, unB] at st); (try clear hc); have hc := st.facts; (try simp only [nfl, nft, elI, elF, Nat.reduceAdd] at hc))
      (try simp only [Exit.inBlock, Exit.then])
      refine bodyPost_cell2 rfl rfl (st.blk (i := 1) get1) Tryz.underlying47 rfl (by kernel_rfl) rfl ?_
      exact ⟨by rw [HF.out]; rfl, st.ext0⟩
end Go.Proofs.YtekngjkjgmplpaaGreat
