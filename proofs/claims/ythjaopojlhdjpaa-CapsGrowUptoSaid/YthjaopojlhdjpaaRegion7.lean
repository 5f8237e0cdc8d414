/- slices.Compact at []Role. -/
import Derived.Test.YthjaopojlhdjpaaSlRoleB
import Derived.Shelf.SlSortCmp.NoneTotal
import Derived.Sort.OwnSorted
import Derived.Test.YthjaopojlhdjpaaSort
import Derived.Lib.BytesEntry
import Derived.Laws.Externs
namespace Go.Proofs.Ythjaopojlhdjpaa
set_option linter.unusedSimpArgs false
set_option linter.unusedVariables false
open Go Go.RowKit
section
variable {α : Type} [Inhabited α] [DecidableEq α]
def cup (xs : List α) (m : Nat) : List α := Lib.compactUpTo xs.toArray m
theorem cup_all (xs : List α) : cup xs xs.length = Lib.compact xs := rfl
theorem cup_step {xs : List α} {j q : Nat} {x y : α} (hq : j = q + 1) (hx : xs[j]? = some x) (hy : xs[q]? = some y) : cup xs (j + 1) = cup xs j ++ if x = y then [] else [x] := by
  unfold cup
  rw [Lib.compactUpTo_succ]
  have e1 : xs.toArray[j]! = x := by
    obtain ⟨h1, h2⟩ := List.getElem?_eq_some_iff.1 hx
    simp [h1, h2]
  have e2 : xs.toArray[j - 1]! = y := by
    obtain ⟨h1, h2⟩ := List.getElem?_eq_some_iff.1 hy
    subst hq; simp [h1, h2]
  by_cases h : x = y
  · rw [if_pos h, if_neg]; simp [Lib.keeps, e1, e2, h]; omega
  · rw [if_neg h, if_pos, e1]; simp [Lib.keeps, e1, e2, h]
theorem cup_one {xs : List α} (h : 0 < xs.length) : cup xs 1 = xs.take 1 := by
  cases xs with
  | nil => simp at h
  | cons x xs => simp [cup, Lib.compactUpTo, Lib.keeps, List.range_succ]
end
theorem Own.rowC {fr al : Nat → Prop} {w0 w : World} {L : List It} (st : Own fr al w0 L w) {i n size g c : Nat} {E : TypeId} {xs : List Value} (hi : L[i]? = some (rowI E size (.slice (some ⟨g, 0, none⟩) n c) n xs)) (j : Nat) (u : Value) (hj : xs[j]? = some u) : w.cell? ⟨g, j, none⟩ = some u := by
  have := (st.row hi).cells (g := g) rfl j u hj
  rwa [addr_add, Nat.zero_add] at this
set_option maxRecDepth 100000 in
set_option maxHeartbeats 2000000 in
theorem compactRole_c {fr al : Nat → Prop} {w0 w : World} {n c : Nat} {a : Option Addr} {xs : List Role} (st : Own fr al w0 [rowI 23 2 (.slice a n c) n (cellsL xs)] w) (hn : n ≤ 2000000) :
    Calls Try.prog 99 #[.slice a n c] w fun e w' => ∃ m, e = .returned (.slice a m c) ∧ Own fr al w0 [rowI 23 2 (.slice a m c) m (cellsL (Lib.compact xs))] w' := by
  have HN : Hid (n = xs.length) := Lib.hid (roleLen (st.row (i := 0) get0))
  (try simp only [nsl, Value.cells, unB] at st)
  (try clear hc); have hc := st.facts; (try simp only [nfl, nft, Nat.reduceAdd] at hc)
  by_cases hn2 : n < 2
  · have HC : Hid (Lib.compact xs = xs) := Lib.hid (by
      rw [← cup_all, ← HN.out]
      match n, hn2, HN.out with
      | 0, _, h => rw [List.eq_nil_of_length_eq_zero h.symm]; rfl
      | 1, _, h => rw [cup_one (by omega), List.take_of_length_le (by omega)])
    go_enter Try.func99, Try.ntmps99
    go_wp2_with fail
    go_ret
    exact ⟨n, rfl, by rw [HC.out]; exact st⟩
  obtain ⟨g, cap', hv, hcap, hrow⟩ := st.rowAt (i := 0) get0 (by omega)
  injection hv with hv1 hv2 hv3
  subst hv1 hv3
  clear hrow
  have hcap2 : c ≤ 9223372036854775807 := by have := hcap.2; simpa [maxLen] using this
  have hcap1 := hcap.1
  clear hcap
  go_enter Try.func99, Try.ntmps99
  go_wp2_with fail
  go_loopg [3] (n - 1) (fun k vi wr => ∃ (j : Nat), 1 ≤ j ∧ j ≤ n ∧ k = n - j ∧ vi = .int .i64 (j : Int) ∧ Hid (cup xs j = xs.take j) ∧ Own fr al w0 [rowI 23 2 (.slice (some ⟨g, 0, none⟩) n c) n (cellsL xs)] wr)
  case atStart => exact ⟨1, by omega, by omega, by omega, rfl, Lib.hid (cup_one (by have := HN.out; omega)), st⟩
  case round =>
    obtain ⟨j, hj1, hj, rfl, rfl, HT, st'⟩ := hrel
    clear st hc
    have st := st'
    clear st'
    (try simp only [nsl, Value.cells, unB] at st)
    (try clear hc); have hc := st.facts; (try simp only [nfl, nft, Nat.reduceAdd] at hc)
    by_cases hjn : j < n
    · obtain ⟨q, hq⟩ : ∃ q, j = q + 1 := ⟨j - 1, by omega⟩
      have hw : IntKind.i64.wrap ((j : Int) - 1) = (q : Int) := by rw [IntWalk.i64_in _ ⟨by omega, by omega⟩]; omega
      have hjl : j < xs.length := by have := HN.out; omega
      have hql : q < xs.length := by omega
      obtain ⟨x, hx⟩ : ∃ x, xs[j]? = some x := ⟨_, List.getElem?_eq_getElem hjl⟩
      obtain ⟨y, hy⟩ : ∃ y, xs[q]? = some y := ⟨_, List.getElem?_eq_getElem hql⟩
      have HR := Lib.hid (And.intro (role_get hx) (role_get hy))
      have HST := Lib.hid (cup_step hq hx hy)
      have HTK : Hid (xs.take (j + 1) = xs.take j ++ [x]) := Lib.hid (by rw [List.take_add_one, hx]; rfl)
      clear hx hy hjl
      obtain ⟨o, d⟩ := x
      obtain ⟨o', d'⟩ := y
      simp only at HR
      unfold S at HR
      have hql2 : q < n := by omega
      have HQ := Lib.hid hq
      clear hq hql
      go_wp2_with fail
      refine Rg4.wp_region4_eq #[0, 0, 3, 7, 0, 0, 32, 112, 240, 511] [] [3, 8] (fun _ => True) [0, 1, 2, 3, 4, 5, 6, 7, 8, 9] (by kernel_rfl) (by kernel_rfl) (by kernel_rfl) (by kernel_rfl) (show Rg4.PB _ by repeat (first | with_reducible exact Rg4.pb_body | with_reducible exact Rg4.pb_bodyD rfl | with_reducible refine Rg4.pb_then ?_ | with_reducible refine Rg4.pb_inBlock ?_ | with_reducible refine Rg4.pb_noGoto ?_)) (trivial) ?_
      replace st := st.drew
      change Rg4.wp4 _ _ _ _ _ _ _ _ _ (World.drew _) _ _
      generalize World.drew _ = w at st ⊢
      (try clear hc); have hc := st.facts; (try simp only [nfl, nft, Nat.reduceAdd] at hc)
      iterate 3 (refine Rg4.w4_any (Rg4.want_none rfl) rfl ?_; apply Exists.intro; refine ⟨fun w' => ?_, ?_⟩; (focus (first | (go_simp; done) | (go_simp; first | rfl | (rw [if_neg] <;> first | rfl | omega) | (rw [if_pos] <;> first | rfl | omega)))); (try simp only [Rg4.nrm]))
      (refine Rg4.w4_read (Rg4.want_none rfl) rfl rfl ?_; apply Exists.intro; refine ⟨fun w' hw' hcl' => ?_, ?_⟩; focus (subst hw'; have r0 := st.rowC (i := 0) get0 _ _ HR.out.1.1; have r1 := st.rowC (i := 0) get0 _ _ HR.out.1.2; have r2 := st.rowC (i := 0) get0 _ _ HR.out.2.1; have r3 := st.rowC (i := 0) get0 _ _ HR.out.2.2; (focus (first | (go_simp; done) | (go_simp; first | rfl | (rw [if_neg] <;> first | rfl | omega) | (rw [if_pos] <;> first | rfl | omega))))); (try simp only [Rg4.nrm]))
      iterate 4 (refine Rg4.w4_any (Rg4.want_none rfl) rfl ?_; apply Exists.intro; refine ⟨fun w' => ?_, ?_⟩; (focus (first | (go_simp; done) | (go_simp; first | rfl | (rw [if_neg] <;> first | rfl | omega) | (rw [if_pos] <;> first | rfl | omega)))); (try simp only [Rg4.nrm]))
      (refine Rg4.w4_read (Rg4.want_none rfl) rfl rfl ?_; apply Exists.intro; refine ⟨fun w' hw' hcl' => ?_, ?_⟩; focus (subst hw'; have r0 := st.rowC (i := 0) get0 _ _ HR.out.1.1; have r1 := st.rowC (i := 0) get0 _ _ HR.out.1.2; have r2 := st.rowC (i := 0) get0 _ _ HR.out.2.1; have r3 := st.rowC (i := 0) get0 _ _ HR.out.2.2; (focus (first | (go_simp; done) | (go_simp; first | rfl | (rw [if_neg] <;> first | rfl | omega) | (rw [if_pos] <;> first | rfl | omega))))); (try simp only [Rg4.nrm]))
      (refine Rg4.w4_any (Rg4.want_none rfl) rfl ?_; apply Exists.intro; refine ⟨fun w' => ?_, ?_⟩; (focus (first | (go_simp; done) | (go_simp; first | rfl | (rw [if_neg] <;> first | rfl | omega) | (rw [if_pos] <;> first | rfl | omega)))); (try simp only [Rg4.nrm]))
      refine Rg4.w4_nil (fun w' hw' hcl' _ => ?_); subst hw'; clear hcl'
      cases hxy : roleEq (o, d) (o', d') with
      | false =>
        have HF : Hid (cup xs (j + 1) = xs.take (j + 1)) := Lib.hid (by rw [roleEq_eq, decide_eq_false_iff_not] at hxy; rw [HST.out, if_neg hxy, HT.out, HTK.out])
        clear hxy
        go_wp2_with fail
        go_roundg (n - (j + 1))
        case measure => omega
        case rel => exact ⟨j + 1, by omega, by omega, by omega, by go_num, HF, st⟩
      | true =>
        have HF : Hid (cup xs (j + 1) = xs.take j) := Lib.hid (by rw [roleEq_eq, decide_eq_true_eq] at hxy; rw [HST.out, if_pos hxy, HT.out, List.append_nil])
        clear hxy hw
        go_wp2_with fail
        go_loopg [3, 5] (n - j - 1) (fun k vi vr wr => ∃ (i r : Nat) (zs : List Role), 1 ≤ r ∧ j + r ≤ n ∧ k = n - j - r ∧ i < j + r ∧ vi = .int .i64 (i : Int) ∧ vr = .int .i64 (r : Int) ∧ Hid (zs.length = n ∧ zs.take i = cup xs (j + r) ∧ ∀ q, j + r ≤ q + 1 → zs[q]? = xs[q]?) ∧ Own fr al w0 [rowI 23 2 (.slice (some ⟨g, 0, none⟩) n c) n (cellsL zs)] wr)
        case atStart => exact ⟨j, 1, xs, by omega, by omega, by omega, by omega, rfl, rfl, Lib.hid ⟨HN.out.symm, HF.out.symm, fun _ _ => rfl⟩, st⟩
        case round =>
          obtain ⟨i, r, zs, hr1, hrj, rfl, hir, rfl, rfl, HZ, st'⟩ := hrel
          clear st hc HR HST HTK HF
          have st := st'
          clear st'
          (try simp only [nsl, Value.cells, unB] at st)
          (try clear hc); have hc := st.facts; (try simp only [nfl, nft, Nat.reduceAdd] at hc)
          by_cases hrn : r < n - j
          · obtain ⟨s, hs⟩ : ∃ s, r = s + 1 := ⟨r - 1, by omega⟩
            have hw : IntKind.i64.wrap ((r : Int) - 1) = (s : Int) := by rw [IntWalk.i64_in _ ⟨by omega, by omega⟩]; omega
            have hjl : j + r < xs.length := by have := HN.out; omega
            have hql : j + s < xs.length := by omega
            obtain ⟨x, hx⟩ : ∃ x, xs[j + r]? = some x := ⟨_, List.getElem?_eq_getElem hjl⟩
            obtain ⟨y, hy⟩ : ∃ y, xs[j + s]? = some y := ⟨_, List.getElem?_eq_getElem hql⟩
            have hzx := (HZ.out.2.2 (j + r) (by omega)).trans hx
            have hzy := (HZ.out.2.2 (j + s) (by omega)).trans hy
            have HR := Lib.hid (And.intro (role_get hzx) (role_get hzy))
            have HST := Lib.hid (cup_step (by omega : j + r = j + s + 1) hx hy)
            clear hx hy hzx hzy hjl
            obtain ⟨o, d⟩ := x
            obtain ⟨o', d'⟩ := y
            simp only [Nat.add_mul] at HR
            unfold S at HR
            have hql2 : s < n - j := by omega
            have HS := Lib.hid hs
            clear hs hql
            go_wp2_with fail
            refine Rg4.wp_region4_eq #[0, 0, 3, 7, 0, 0, 32, 112, 240, 511] [] [3, 8] (fun _ => True) [0, 1, 2, 3, 4, 5, 6, 7, 8, 9] (by kernel_rfl) (by kernel_rfl) (by kernel_rfl) (by kernel_rfl) (show Rg4.PB _ by repeat (first | with_reducible exact Rg4.pb_body | with_reducible exact Rg4.pb_bodyD rfl | with_reducible refine Rg4.pb_then ?_ | with_reducible refine Rg4.pb_inBlock ?_ | with_reducible refine Rg4.pb_noGoto ?_)) (trivial) ?_
            replace st := st.drew
            change Rg4.wp4 _ _ _ _ _ _ _ _ _ (World.drew _) _ _
            generalize World.drew _ = w at st ⊢
            (try clear hc); have hc := st.facts; (try simp only [nfl, nft, Nat.reduceAdd] at hc)
            iterate 3 (refine Rg4.w4_any (Rg4.want_none rfl) rfl ?_; apply Exists.intro; refine ⟨fun w' => ?_, ?_⟩; (focus (first | (go_simp; done) | (go_simp; first | rfl | (rw [if_neg] <;> first | rfl | omega) | (rw [if_pos] <;> first | rfl | omega)))); (try simp only [Rg4.nrm]))
            (refine Rg4.w4_read (Rg4.want_none rfl) rfl rfl ?_; apply Exists.intro; refine ⟨fun w' hw' hcl' => ?_, ?_⟩; focus (subst hw'; have r0 := st.rowC (i := 0) get0 _ _ HR.out.1.1; have r1 := st.rowC (i := 0) get0 _ _ HR.out.1.2; have r2 := st.rowC (i := 0) get0 _ _ HR.out.2.1; have r3 := st.rowC (i := 0) get0 _ _ HR.out.2.2; (focus (first | (go_simp; done) | (go_simp; first | rfl | (rw [if_neg] <;> first | rfl | omega) | (rw [if_pos] <;> first | rfl | omega))))); (try simp only [Rg4.nrm]))
            iterate 4 (refine Rg4.w4_any (Rg4.want_none rfl) rfl ?_; apply Exists.intro; refine ⟨fun w' => ?_, ?_⟩; (focus (first | (go_simp; done) | (go_simp; first | rfl | (rw [if_neg] <;> first | rfl | omega) | (rw [if_pos] <;> first | rfl | omega)))); (try simp only [Rg4.nrm]))
            (refine Rg4.w4_read (Rg4.want_none rfl) rfl rfl ?_; apply Exists.intro; refine ⟨fun w' hw' hcl' => ?_, ?_⟩; focus (subst hw'; have r0 := st.rowC (i := 0) get0 _ _ HR.out.1.1; have r1 := st.rowC (i := 0) get0 _ _ HR.out.1.2; have r2 := st.rowC (i := 0) get0 _ _ HR.out.2.1; have r3 := st.rowC (i := 0) get0 _ _ HR.out.2.2; (focus (first | (go_simp; done) | (go_simp; first | rfl | (rw [if_neg] <;> first | rfl | omega) | (rw [if_pos] <;> first | rfl | omega))))); (try simp only [Rg4.nrm]))
            (refine Rg4.w4_any (Rg4.want_none rfl) rfl ?_; apply Exists.intro; refine ⟨fun w' => ?_, ?_⟩; (focus (first | (go_simp; done) | (go_simp; first | rfl | (rw [if_neg] <;> first | rfl | omega) | (rw [if_pos] <;> first | rfl | omega)))); (try simp only [Rg4.nrm]))
            refine Rg4.w4_nil (fun w' hw' hcl' _ => ?_); subst hw'; clear hcl'
            cases hxy : roleEq (o, d) (o', d') with
            | true =>
              have hb : (!true) = false := rfl
              have HF : Hid (cup xs (j + (r + 1)) = cup xs (j + r)) := Lib.hid (by rw [roleEq_eq, decide_eq_true_eq] at hxy; rw [← Nat.add_assoc, HST.out, if_pos hxy, List.append_nil])
              clear hxy
              simp only [hb]
              go_wp2_with fail
              go_roundg (n - j - (r + 1))
              case measure => omega
              case rel => exact ⟨i, r + 1, zs, by omega, by omega, rfl, by omega, rfl, by go_num, Lib.hid ⟨HZ.out.1, by rw [HF.out]; exact HZ.out.2.1, fun q hq => HZ.out.2.2 q (by omega)⟩, st⟩
            | false =>
              have hb : (!false) = true := rfl
              have HF : Hid (cup xs (j + (r + 1)) = cup xs (j + r) ++ [(o, d)]) := Lib.hid (by rw [roleEq_eq, decide_eq_false_iff_not] at hxy; rw [← Nat.add_assoc, HST.out, if_neg hxy])
              clear hxy
              simp only [hb]
              have r0 := st.rowC (i := 0) get0 _ _ HR.out.1.1
              have r1 := st.rowC (i := 0) get0 _ _ HR.out.1.2
              have hiz : i < zs.length := by have := HZ.out.1; omega
              have hset := cellsL_set zs i ((o, d) : Role) hiz
              rw [fltRole_k, role_cells] at hset
              have HZ2 : Hid ((zs.set i (o, d)).length = n ∧ (zs.set i (o, d)).take (i + 1) = cup xs (j + (r + 1)) ∧ ∀ q, j + (r + 1) ≤ q + 1 → (zs.set i (o, d))[q]? = xs[q]?) := Lib.hid ⟨by simp [HZ.out.1], by
                  rw [HF.out, ← HZ.out.2.1]
                  have : (zs.set i (o, d))[i]'(by simpa using hiz) = (o, d) := by simp
                  rw [← List.take_append_getElem (l := zs.set i (o, d)) (by simpa using hiz), this]
                  rw [List.take_set, List.set_eq_of_length_le (by rw [List.length_take]; omega)], fun q hq => by
                  rw [List.getElem?_set_ne (by omega)]; exact HZ.out.2.2 q (by omega)⟩
              have HSET := Lib.hid hset
              clear hset hiz
              go_wp2_with ((with_reducible refine wl_store ?_ (fun K hK => ?_)); (rfl); (refine owp_storeRow' rfl st ?_; apply Exists.intro; apply Exists.intro; refine ⟨?_, ?_, ?_⟩; (focus (go_simp; try rfl)); (focus (go_simp; try rfl)); refine ⟨0, _, _, _, _, _, _, _, _, get0, rfl, rfl, ?_, ?_, ?_, ?_⟩; (kernel_rfl); (simp [Value.cells]; omega); (rfl); (clear st; intro w st)))
              simp only [List.set_cons_zero] at st
              go_roundg (n - j - (r + 1))
              case measure => omega
              case rel => exact ⟨i + 1, r + 1, zs.set i (o, d), by omega, by omega, rfl, by omega, by go_num, by go_num, HZ2, by rw [← HSET.out]; simpa [Value.cells] using st⟩
          · obtain ⟨inf, hinf, hz0, hz1, hz2⟩ := roleInfo
            have HF : Hid (zs.take i = Lib.compact xs) := Lib.hid (by rw [HZ.out.2.1, ← cup_all, ← HN.out]; congr 1; omega)
            have hin : i ≤ n := by omega
            go_wp2_with ((with_reducible refine wl_clear ?_ (fun K hK => ?_)); (rfl); (refine owp_clearRow' rfl st Try.underlying37 ?_; apply Exists.intro; apply Exists.intro; apply Exists.intro; refine ⟨?_, ?_⟩; (focus (go_simp; exact ⟨rfl, rfl, rfl⟩)); refine ⟨0, _, _, _, _, i, _, inf, rV ([], []), get0, hinf, hz0, by decide, rfl, rfl, by omega, by simp, rfl, ?_⟩; (clear st; intro w ys hy1 hy2 st)))
            simp only [List.set_cons_zero] at st
            have st2 := st.rowCut (i := 0) (k := 2) (n := n) (c := c) (g := g) (E := 23) (xs := ys) get0 i (by omega)
            have hct := cellsL_take zs i
            rw [fltRole_k] at hct
            rw [hy1, hct, HF.out, List.set_cons_zero] at st2
            go_ret
            exact ⟨i, rfl, st2⟩
    · obtain rfl : j = n := by omega
      have HF : Hid (Lib.compact xs = xs) := Lib.hid (by rw [← cup_all, ← HN.out, HT.out, List.take_of_length_le (by have := HN.out; omega)])
      go_wp2_with fail
      go_ret
      exact ⟨j, rfl, by rw [HF.out]; exact st⟩
end Go.Proofs.Ythjaopojlhdjpaa

namespace Go.Proofs.Ythjaopojlhdjpaa
set_option linter.unusedSimpArgs false
set_option linter.unusedVariables false
open Go Go.RowKit
@[go_sem] theorem eqNilRole (a : Option Addr) (n c : Nat) (w : World) : (binOp .eql 37 (.slice a n c) (.slice none 0 0)).run Try.prog w = .ok (.bool a.isNone) w := by
  have h := run_equal_slice_nil w _ _ a n c Try.underlying37
  simp only [binOp]
  simp [h]
set_option maxRecDepth 100000 in
set_option maxHeartbeats 1000000 in
theorem roleClone_any (a : Option Addr) (n c : Nat) (l : List Role) (W : World) (h : Fl W a n l) (hn : n ≤ 2000000) :
    Calls Try.prog 94 #[.slice a n c] W fun e w' => ∃ va vc, e = .returned (.slice va n vc) ∧ FreshI W w' (rowI 23 2 (.slice va n vc) n (cellsL l)) := by
  have H := Lib.hid h
  clear h
  have st := Own.startOld W
  (try simp only [nsl, Value.cells, unB] at st)
  (try clear hc); have hc := st.facts; (try simp only [nfl, nft, Nat.reduceAdd] at hc)
  cases a with
  | none =>
    have h0 : n = 0 := by
      rcases Nat.eq_zero_or_pos n with q | q
      · exact q
      · obtain ⟨b, off, e, _⟩ := H.out.2 q; cases e
    subst h0
    have hl : l = [] := List.eq_nil_of_length_eq_zero H.out.1.symm
    subst hl
    go_enter Try.func94, Try.ntmps94
    go_wp2_with fail
    go_ret
    exact ⟨none, 0, rfl, FreshI.post (FreshI.pre (FreshI.nilRow W _ _) (Ext.refl _)) st.ext0⟩
  | some ad =>
    go_enter Try.func94, Try.ntmps94
    go_wp2_with (first
        | ((with_reducible refine wl_append ?_ (fun K hK => ?_)); (rfl); (obtain ⟨inf, hinf, hz0, hz1, hz2⟩ := roleInfo); (refine owp_append rfl st 1 get1 Try.underlying37 hinf hz0 hz1 hz2 rfl (by decide) rfl rfl ((st.oldFl (i := 0) get0 H.out).flat) (by first | exact cellsL_all _ | simp [Value.oneCell']) (by simp only [maxLen]; omega) (by omega) ?_); (clear hinf hz0 hz1 hz2 inf); (clear st; intro v' w st); (obtain ⟨va', vc', rfl⟩ := own_slice (st.row (i := 1) get1)); (try simp only [nsl, Value.cells, unB] at st); (try simp only [Nat.zero_add] at st); (try clear hc); have hc := st.facts; (try simp only [nfl, nft, Nat.reduceAdd] at hc))
        | ((with_reducible refine wl_buildSlice ?_ (fun K hK => ?_)); (rfl); (refine owp_buildRow (o := ⟨some 5, _, _, _, _, _⟩) rfl st 23 2 ?_; refine ⟨0, #[], ?_, by simp, by simp [maxLen], ?_⟩; (focus (go_simp; (first | done | rfl))); (clear st; intro b5 w hb st; clear hb)); (try simp only [nsl, Value.cells, unB] at st); (try clear hc); have hc := st.facts; (try simp only [nfl, nft, Nat.reduceAdd] at hc))
        | ((((with_reducible refine wl_buildSlice ?_ (fun K hK => ?_)); rfl; refine owp_buildSlice (o := ⟨some 5, _, _, _, _, _⟩) rfl st ?_; apply Exists.intro; apply Exists.intro; apply Exists.intro; apply Exists.intro; refine ⟨?_, ?_⟩; (focus (go_simp; (first | done | exact ⟨⟨rfl, rfl⟩, rfl⟩ | rfl))); (clear st; intro b5 w hb st; clear hb))); (try simp only [nsl, Value.cells, unB] at st); (try clear hc); have hc := st.facts; (try simp only [nfl, nft, Nat.reduceAdd] at hc)))
    go_ret
    have hf := st.toFresh (i := 1) get1
    exact ⟨_, _, rfl, hf⟩
set_option maxRecDepth 100000 in
set_option maxHeartbeats 1000000 in
theorem roleSet1_any (x : Role) (W : World) (h1 : x.1.length ≤ 100000) (h2 : x.2.length ≤ 100000) : Calls Try.prog 95 #[rV x] W fun e w' => e = .returned (.bool (!roleR x)) ∧ Ext W w' := by
  have HR := Lib.hid (roleRight_any x)
  obtain ⟨o, d⟩ := x
  simp only at h1 h2
  have st := Own.startOld W
  unfold rV S at *
  (try simp only [nsl, Value.cells, unB] at st)
  (try clear hc); have hc := st.facts; (try simp only [nfl, nft, Nat.reduceAdd] at hc)
  go_enter Try.func95, Try.ntmps95
  go_wp2_with ((((with_reducible refine wl_box ?_ (fun K hK => ?_)); rfl; refine owp_box (o := ⟨some 1, _, _, _, _, _⟩) rfl st ?_; apply Exists.intro; refine ⟨?_, ?_⟩; (focus (go_simp; try rfl)); (clear st; intro b1 w hb st; clear hb))); (try simp only [nsl, Value.cells, unB] at st); (try clear hc); have hc := st.facts; (try simp only [nfl, nft, Nat.reduceAdd] at hc))
  refine (HR.out _ h1 h2).mono ?_
  rintro en w ⟨rfl, hx⟩
  replace st := st.ext hx
  clear hx
  (try clear hc); have hc := st.facts; (try simp only [nfl, nft, Nat.reduceAdd] at hc)
  go_wp2_with ((((with_reducible refine wl_box ?_ (fun K hK => ?_)); rfl; refine owp_box (o := ⟨some 1, _, _, _, _, _⟩) rfl st ?_; apply Exists.intro; refine ⟨?_, ?_⟩; (focus (go_simp; try rfl)); (clear st; intro b1 w hb st; clear hb))); (try simp only [nsl, Value.cells, unB] at st); (try clear hc); have hc := st.facts; (try simp only [nfl, nft, Nat.reduceAdd] at hc))
  go_ret
  exact ⟨rfl, st.ext0⟩
end Go.Proofs.Ythjaopojlhdjpaa

namespace Go.Proofs.Ythjaopojlhdjpaa
set_option linter.unusedSimpArgs false
set_option linter.unusedVariables false
open Go Go.RowKit Go.Sort Go.Lib Go.Shelf
theorem Ext.grow {w w' : World} (h : Ext w w') : ∃ q os, w' = grow (w.drewN q) os := by
  refine ⟨w'.drawn - w.drawn, w'.heap.extract w.heap.size w'.heap.size, ?_⟩
  have hh : w'.heap = w.heap ++ w'.heap.extract w.heap.size w'.heap.size := by
    apply Array.ext_getElem?
    intro k
    rw [Array.getElem?_append]
    split
    · exact h.bel.block k (by assumption)
    · rw [Array.getElem?_extract]
      split
      · congr 1; omega
      · rw [Array.getElem?_eq_none]; have := h.le; omega
  have hd := h.drawn
  cases w' with
  | mk a b c d e =>
    have h1 := h.bel.os; have h2 := h.bel.tape; have h3 := h.bel.output
    simp only at h1 h2 h3 hd hh
    unfold Go.Sort.grow World.drewN
    simp only [World.mk.injEq]
    exact ⟨hh, h2, by omega, h1, h3⟩
section
variable {α : Type} [Flt α] [Inhabited α]
theorem flat_eq (xs : List α) : (flatK Flt.cells (Flt.k α) xs.toArray).toList = cellsL xs := by
  have hk := Flt.pos (α := α)
  apply List.ext_getElem?
  intro t
  by_cases ht : t < xs.length * Flt.k α
  · have hi : t / Flt.k α < xs.length := (Nat.div_lt_iff_lt_mul hk).2 ht
    have hr : t % Flt.k α < Flt.k α := Nat.mod_lt _ hk
    have e : t / Flt.k α * Flt.k α + t % Flt.k α = t := by rw [Nat.mul_comm]; exact Nat.div_add_mod _ _
    have h1 := cellsL_get (List.getElem?_eq_getElem hi) hr
    rw [e] at h1
    rw [h1, Array.getElem?_toList]
    have hrl : t % Flt.k α < (Flt.cells xs[t / Flt.k α]).length := by rw [Flt.len]; exact hr
    simp [flatK, ht, hi, hrl]
  · rw [List.getElem?_eq_none (by simp; omega), List.getElem?_eq_none (by rw [cellsL_len]; omega)]
theorem flat_eq' (xs : List α) : flatK Flt.cells (Flt.k α) xs.toArray = (cellsL xs).toArray := by
  rw [← flat_eq]
theorem heap_sortedK {w : World} {g n : Nat} {os : Array Obj} {cur : Array Value} {e : TypeId} {f : Nat × Nat} (d : Array Value) (hb : w.heap[g]? = some (.cells cur e f)) :
    (grow (putRow id (Sort.ahead w n) g 0 d) os).heap[g]? = some (.cells (putCells id 0 d cur) e f) := by
  have hg : g < w.heap.size := (Array.getElem?_eq_some_iff.1 hb).1
  rw [heap_grow_old _ _ (by simpa using hg)]
  simp [putRow, mapBlock, Sort.ahead, Array.getElem?_modify, hb, onCells]
theorem grownBy_sortedK {w : World} {g n : Nat} {os : Array Obj} (d : Array Value) : w.grownBy (grow (putRow id (Sort.ahead w n) g 0 d) os) (some g) := by
  refine ⟨rfl, rfl, rfl, by simp, fun k hk hne => ?_⟩
  rw [heap_grow_old _ _ (by simpa using hk)]
  have : g ≠ k := fun e => hne (by rw [e])
  simp [putRow, mapBlock, Sort.ahead, Array.getElem?_modify, this]
theorem take_putCellsK (cur : Array Value) (ts : List Value) (h : ts.length ≤ cur.size) : (putCells id 0 ts.toArray cur).toList.take ts.length = ts := by
  apply List.ext_getElem?
  intro j
  by_cases hj : j < ts.length
  · rw [List.getElem?_take_of_lt hj, Array.getElem?_toList]
    simp [putCells, hj, show j < cur.size by omega]
  · rw [List.getElem?_take_eq_none (by omega), List.getElem?_eq_none (by omega)]
variable {fr al : Nat → Prop} {w0 w : World} {L : List It}
theorem Own.holdsK (st : Own fr al w0 L w) {i n c g : Nat} {E : TypeId} {xs : List α} (hi : L[i]? = some (rowI E (Flt.k α) (.slice (some ⟨g, 0, none⟩) n c) n (cellsL xs))) : HoldsK Flt.cells (Flt.k α) w g 0 xs.toArray ∧ g < w.heap.size := by
  have hrow := st.row hi
  rcases hrow.2 with ⟨h1, h2⟩ | ⟨g', cap, cur, h1, hb, hg, hcap, hm, hs, ht⟩
  · cases h1
  · cases h1
    refine ⟨?_, (Array.getElem?_eq_some_iff.1 hg).1⟩
    unfold HoldsK
    rw [flat_eq']
    intro j hj
    have hj' : j < (cellsL xs).length := by simpa using hj
    refine ⟨?_, by simp [World.frozen?, hg]⟩
    have hn : n * Flt.k α = (cellsL xs).length := hrow.1.symm
    have h1 : (cur.toList.take (n * Flt.k α))[j]? = (cellsL xs)[j]? := by rw [ht]
    rw [List.getElem?_take_of_lt (by omega)] at h1
    simp only [World.cell?, hg, Nat.zero_add]
    simp only [Option.isSome_none, Bool.false_eq_true, if_false]
    rw [← Array.getElem?_toList, h1]
    simp [hj']
theorem Own.sortedK (st : Own fr al w0 L w) {i n c g : Nat} {E : TypeId} {xs ys : List α} (hi : L[i]? = some (rowI E (Flt.k α) (.slice (some ⟨g, 0, none⟩) n c) n (cellsL xs))) (hl : ys.length = xs.length) (m : Nat) (os : Array Obj) :
    Own fr al w0 (L.set i (rowI E (Flt.k α) (.slice (some ⟨g, 0, none⟩) n c) n (cellsL ys))) (sortWorldK Flt.cells (Flt.k α) w g 0 m ys.toArray os) := by
  have hrow := st.row hi
  rcases hrow.2 with ⟨h1, h2⟩ | ⟨g', cap, cur, h1, hb, hg, hcap, hm, hs, ht⟩
  · cases h1
  · cases h1
    have hn : n * Flt.k α = (cellsL xs).length := hrow.1.symm
    have hy : (cellsL ys).length = n * Flt.k α := by rw [cellsL_len, hl, hn, cellsL_len]
    have hle : n * Flt.k α ≤ cur.size := by rw [hs]; exact Nat.mul_le_mul_right _ hcap
    have e : sortWorldK Flt.cells (Flt.k α) w g 0 m ys.toArray os = grow (putRow id (Sort.ahead w m) g 0 (cellsL ys).toArray) os := by unfold sortWorldK putRowK; rw [flat_eq']
    rw [e]
    refine st.upd hi fun e s ⟨q1, q2⟩ q3 q4 => ⟨e, s, ⟨?_, q2⟩, fun b hb => ⟨Nat.lt_of_lt_of_le (q3 b (.inl hb)) (grownBy_sortedK _).size, .inl hb⟩, fun b hb => ⟨Nat.lt_of_lt_of_le (q3 b (.inr hb)) (grownBy_sortedK _).size, .inr (.inl hb)⟩, q4, MutO.grown (MutO.refl _ _) ⟨grownBy_sortedK _, Nat.le_add_right _ _⟩ fun k hk _ => ?_⟩
    · exact ⟨hy, .inr ⟨g, c, _, rfl, hb, heap_sortedK _ hg, hcap, hm, by simp [putCells, hs], by rw [← hy]; exact take_putCellsK cur (cellsL ys) (by omega)⟩⟩
    · cases hk; exact q2 g rfl
end
end Go.Proofs.Ythjaopojlhdjpaa

namespace Go.Proofs.Ythjaopojlhdjpaa
set_option linter.unusedSimpArgs false
set_option linter.unusedVariables false
open Go Go.RowKit Go.Sort Go.Lib
theorem roleCmp_lt (x y : Role) : ltOf roleCmp x y = roleLt x y := by
  unfold ltOf roleCmp
  cases h : roleLt x y with
  | true => simp
  | false => cases h2 : roleLt y x <;> simp
theorem roleSwo : SWO (ltOf roleCmp) where
  irrefl x := by rw [roleCmp_lt]; exact (roleOrd (fun _ => true)).irr x
  trans x y z h1 h2 := by rw [roleCmp_lt] at *; exact (roleOrd (fun _ => true)).tr x y z h1 h2
  ntrans x y z h1 h2 := by
    rw [roleCmp_lt] at *
    have o := roleOrd (fun _ => true)
    cases h : roleLt x z with
    | false => rfl
    | true =>
      rcases o.tri x y rfl rfl with q | q | q
      · rw [q] at h1; cases h1
      · rw [q] at h; rw [h] at h2; cases h2
      · have := o.tr _ _ _ q h; rw [this] at h2; cases h2
theorem roleTot (x y : Role) (h1 : ltOf roleCmp x y = false) (h2 : ltOf roleCmp y x = false) : x = y := by
  rw [roleCmp_lt] at h1 h2
  rcases (roleOrd (fun _ => true)).tri x y rfl rfl with q | q | q
  · rw [q] at h1; cases h1
  · exact q
  · rw [q] at h2; cases h2
def roleSort (xs : List Role) : List Role := xs.mergeSort fun x y => !(ltOf roleCmp) y x
theorem roleSort_mem (xs : List Role) (x : Role) : x ∈ roleSort xs ↔ x ∈ xs := by unfold roleSort; exact List.mem_mergeSort
theorem roleSort_pw (xs : List Role) : (roleSort xs).Pairwise (fun x y => roleLt y x = false) := by
  have o := roleOrd (fun _ => true)
  have h1 := List.pairwise_mergeSort (le := fun x y : Role => !(ltOf roleCmp) y x) (fun a b c h1 h2 => by
    simp only [Bool.not_eq_true'] at *; exact roleSwo.ntrans _ _ _ h2 h1) (fun a b => by
    cases h : ltOf roleCmp b a with
    | false => rfl
    | true => cases h2 : ltOf roleCmp a b with
      | false => rfl
      | true => have := roleSwo.trans _ _ _ h h2; rw [roleSwo.irrefl] at this; cases this) xs
  refine h1.imp fun {a b} h => ?_
  simpa [roleCmp_lt] using h
/-- The set of the right roles of a list. -/
@[irreducible] def roleSet (l : List Role) : List Role := Lib.compact (roleSort (l.filter roleR))
theorem roleSet_eq (l : List Role) : roleSet l = Lib.compact (roleSort (l.filter roleR)) := by unfold roleSet; rfl
theorem roleSet_set (l : List Role) : SSet roleLt roleR l (roleSet l) := by
  rw [roleSet_eq]
  exact compact_set (roleOrd roleR) _ l (fun x => by rw [roleSort_mem, List.mem_filter]) (roleSort_pw _)
theorem roleSet_len (l : List Role) : (roleSet l).length ≤ l.length := (roleSet_set l).len (roleOrd roleR).irr
theorem role55 (args : Array Value) (w : World) : (callFunc 98 args).run Try.prog w = .ok (.enter 98 args) w := enters_of Try.func98 (by kernel_rfl) rfl args w
section
variable {fr al : Nat → Prop} {w0 w : World} {L : List It}
theorem sortRole_c (st : Own fr al w0 L w) (i : Nat) {n c : Nat} {a : Option Addr} {xs : List Role} (hi : L[i]? = some (rowI 23 2 (.slice a n c) n (cellsL xs))) (hn : n ≤ 2000000) :
    Calls Try.prog 97 #[.slice a n c, .func (.func 98) #[] #[]] w fun e w' => e = .returned (.tuple #[]) ∧ Own fr al w0 (L.set i (rowI 23 2 (.slice a n c) n (cellsL (roleSort xs)))) w' := by
  have hrow := st.row hi
  have hnx := roleLen hrow
  rcases Nat.eq_zero_or_pos n with h0 | h0
  · subst h0
    have hx : xs = [] := List.eq_nil_of_length_eq_zero hnx.symm
    subst hx
    refine (AnyF.slices_SortFunc_none Try.sortRole a c _ w).mono ?_
    rintro e w' ⟨rfl, rfl⟩
    refine ⟨rfl, ?_⟩
    have : L.set i (rowI 23 2 (.slice a 0 c) 0 (cellsL (roleSort []))) = L := by
      apply List.ext_getElem?
      intro q
      rw [List.getElem?_set]
      split
      · rename_i h; subst h; rw [hi, if_pos (get_lt hi)]; unfold roleSort; rw [List.mergeSort_nil]
      · rfl
    rw [this]; exact st
  · obtain ⟨g, cap', hv, hcap, _⟩ := st.rowAt hi h0
    injection hv with hv1 hv2 hv3
    subst hv1 hv3
    have hH := st.holdsK (α := Role) (xs := xs) hi
    have hcon := AnyQ.slices_SortFunc_total Try.sortRole 2 Try.isAgg23 Try.sizeOf23 (Flt.cells : Role → List Value) (fun x => Flt.len x) (fun x v hv => Flt.one x v hv) roleCmp roleSwo 98 #[] g 0 c xs.toArray w role55
      (fun m os dk _ x y => (roleCompare_any x y _).mono fun e w' h => ⟨h.1, h.2.grow⟩) hH.1 hH.2 (by simp; omega) roleTot
    change Calls Try.prog 97 _ _ _ at hcon
    rw [show xs.toArray.size = n by simp [hnx]] at hcon
    refine hcon.mono ?_
    rintro e w' ⟨rfl, m, os, rfl⟩
    exact ⟨rfl, st.sortedK (α := Role) hi (by unfold roleSort; simp) m os⟩
end
set_option maxRecDepth 100000 in
set_option maxHeartbeats 1000000 in
theorem roleSet_any (a : Option Addr) (n c : Nat) (l : List Role) (W : World) (h : Fl W a n l) (hn : n ≤ 2000000) (hs : ∀ x ∈ l, x.1.length ≤ 100000 ∧ x.2.length ≤ 100000) :
    Calls Try.prog 58 #[.slice a n c] W fun e w' => ∃ va vc, e = .returned (.slice va (roleSet l).length vc) ∧ FreshI W w' (rowI 23 2 (.slice va (roleSet l).length vc) (roleSet l).length (cellsL (roleSet l))) := by
  have H := Lib.hid (And.intro h hs)
  have st := Own.startOld W
  clear h hs
  (try simp only [nsl, Value.cells, unB] at st)
  (try clear hc); have hc := st.facts; (try simp only [nfl, nft, Nat.reduceAdd] at hc)
  go_enter Try.func58, Try.ntmps58
  go_wp2_with fail
  refine (roleClone_any a n c l _ (st.oldFl (i := 0) get0 H.out.1) hn).mono ?_
  rintro en w ⟨va, vc, rfl, hnew⟩
  replace st := st.fresh hnew
  clear hnew
  (try simp only [nsl, Value.cells, unB] at st)
  (try clear hc); have hc := st.facts; (try simp only [nfl, nft, Nat.reduceAdd] at hc)
  go_wp2_with fail
  obtain ⟨fr', al', st', back⟩ := st.sub [1] (by decide) (by simp)
  (try simp only [nsl, Value.cells, unB] at st')
  refine (deleteFuncRole_c st' hn 95 #[] (fun x => !roleR x) (fun _ _ => by kernel_rfl) (fun x hx w => roleSet1_any x w (H.out.2 x hx).1 (H.out.2 x hx).2)).mono ?_
  clear st'
  rintro en w ⟨m, rfl, st'⟩
  replace st := back _ _ (by simp) st'
  clear back st'
  (try simp only [nsl, Value.cells, unB] at st)
  (try clear hc); have hc := st.facts; (try simp only [nfl, nft, Nat.reduceAdd] at hc)
  simp only [Bool.not_not] at st
  have hm : m ≤ n := by
    have h1 := roleLen (st.row (i := 1) get1)
    have h2 := List.length_filter_le (fun x => roleR x) l
    have h3 := H.out.1.1
    omega
  go_wp2_with fail
  refine (sortRole_c st 1 get1 (by omega)).mono ?_
  rintro en w ⟨rfl, st'⟩
  clear st
  have st := st'
  clear st'
  (try simp only [nsl, Value.cells, unB] at st)
  (try clear hc); have hc := st.facts; (try simp only [nfl, nft, Nat.reduceAdd] at hc)
  go_wp2_with fail
  obtain ⟨fr', al', st', back⟩ := st.sub [1] (by decide) (by simp)
  (try simp only [nsl, Value.cells, unB] at st')
  refine (compactRole_c st' (by omega)).mono ?_
  clear st'
  rintro en w ⟨m2, rfl, st'⟩
  replace st := back _ _ (by simp) st'
  clear back st'
  (try simp only [nsl, Value.cells, unB] at st)
  (try clear hc); have hc := st.facts; (try simp only [nfl, nft, Nat.reduceAdd] at hc)
  rw [← roleSet_eq l] at st
  have hm2 := roleLen (st.row (i := 1) get1)
  subst hm2
  have hfin := st.toFresh (i := 1) get1
  have HF := Lib.hid hfin
  clear hfin st
  go_wp2_with fail
  go_ret
  exact ⟨va, vc, rfl, HF.out⟩
end Go.Proofs.Ythjaopojlhdjpaa

namespace Go.Proofs.Ythjaopojlhdjpaa
set_option linter.unusedSimpArgs false
set_option linter.unusedVariables false
open Go Go.RowKit
end Go.Proofs.Ythjaopojlhdjpaa

namespace Go.Proofs.Ythjaopojlhdjpaa
set_option linter.unusedSimpArgs false
set_option linter.unusedVariables false
open Go Go.RowKit
@[go_sem high] theorem neqNilFunc (F : FuncId) (cs : Array Value) (w : World) : (binOp .neq 39 (.func (.func F) #[] cs) .nilFunc).run Try.prog w = .ok (.bool true) w := by
  have h : ∀ d : Nat, (Op.equalIn (d + 1) 39 (.func (.func F) #[] cs) .nilFunc).run Try.prog w = .ok false w := fun d => by
    simp [Op.equalIn, run_underlying Try.underlying39]
  simp only [binOp]
  simp [Op.equal, Op.maxDepth, h 9999]
theorem atomsL_nodes (l : List Fo) : (atomsL l).length ≤ nodesL l := by
  have := atoms_nodes (.mk 0 0 ([], []) l)
  rw [Fo.atoms, Fo.nodes, if_neg (by decide)] at this
  induction l with
  | nil => simp [atomsL]
  | cons x l ih =>
    have h1 := atoms_nodes x
    have h2 := ih (by
      have := atoms_nodes (.mk 0 0 ([], []) l)
      rw [Fo.atoms, Fo.nodes, if_neg (by decide)] at this
      exact this)
    rw [atomsL, nodesL, List.length_append]
    omega
/-- A slice of roles, laid anew. -/
def RolesAre (W : World) (l : List Role) (e : Ending) (w' : World) : Prop := ∃ va n vc, e = .returned (.slice va n vc) ∧ Own (fun _ => False) (fun _ => False) W [flI va n l] w'
theorem roleRes {W w : World} {va : Option Addr} {n vc : Nat} {l : List Role} (st : Own (fun _ => False) (fun _ => False) W [flI va n l] w) : RolesAre W l (.returned (.slice va n vc)) w := ⟨va, n, vc, rfl, st⟩
set_option maxRecDepth 100000 in
set_option maxHeartbeats 2000000 in
theorem fmRoles_f (f : Fm) : ∀ (W : World), FmOk W f → f.strip.nodes ≤ 1000000000 →
    Calls Try.prog 92 #[fmV f] W (RolesAre W f.strip.atoms) := by
  induction f using Fm.ind
  rename_i op k r a n c kids ih
  intro W hok hs
  obtain ⟨o, d⟩ := r
  rw [strip_mk] at *
  rw [Fo.nodes] at hs
  rw [Fo.atoms]
  have st := Own.start (fun _ => False) (fun _ => False) W
  unfold fmV S
  simp only
  by_cases o1 : op = 1
  · subst o1
    rw [if_pos rfl]
    clear hok ih hs
    (try simp only [nsl, Value.cells, unB] at st)
    (try clear hc); have hc := st.facts; (try simp only [nfl, nft, Nat.reduceAdd] at hc)
    go_enter Try.func92, Try.ntmps92
    go_wp2_with ((first
          | ((with_reducible refine wl_box ?_ (fun K hK => ?_)); rfl; refine owp_box (o := ⟨some 1, _, _, _, _, _⟩) rfl st ?_; apply Exists.intro; refine ⟨?_, ?_⟩; (focus (go_simp; try rfl)); (clear st; intro b1 w hb st; clear hb))
          | ((with_reducible refine wl_buildSlice ?_ (fun K hK => ?_)); rfl; refine owp_buildSlice (o := ⟨some 11, _, _, _, _, _⟩) rfl st ?_; apply Exists.intro; apply Exists.intro; apply Exists.intro; apply Exists.intro; refine ⟨?_, ?_⟩; (focus (go_simp; (first | done | exact ⟨⟨rfl, rfl⟩, rfl⟩ | rfl))); (clear st; intro b11 w hb st; clear hb))
          | ((with_reducible refine wl_alloc ?_ (fun K hK => ?_)); rfl; refine owp_alloc (o := ⟨some 5, _, _, _, _, _⟩) rfl st ?_; apply Exists.intro; apply Exists.intro; refine ⟨?_, ?_⟩; (focus (first | (go_simp; done) | (go_simp; rfl))); (clear st; intro b5 w hb st; clear hb))
          | ((with_reducible refine wl_store ?_ (fun K hK => ?_)); rfl; refine owp_store rfl st ?_; apply Exists.intro; apply Exists.intro; refine ⟨?_, ?_, ?_⟩; (focus (go_simp; try rfl)); (focus (go_simp; try rfl)); (first | (with_reducible refine ⟨0, _, _, _, _, get0, rfl, rfl, ?_, ?_, ?_, ?_⟩) | (with_reducible refine ⟨1, _, _, _, _, get1, rfl, rfl, ?_, ?_, ?_, ?_⟩) | (with_reducible refine ⟨2, _, _, _, _, get2, rfl, rfl, ?_, ?_, ?_, ?_⟩) | (with_reducible refine ⟨3, _, _, _, _, get3, rfl, rfl, ?_, ?_, ?_, ?_⟩) | (with_reducible refine ⟨4, _, _, _, _, get4, rfl, rfl, ?_, ?_, ?_, ?_⟩)); (kernel_rfl); (simp [Value.cells]); (rfl); (clear st; intro w st))); (try simp only [nsl, Value.cells, unB] at st); (try clear hc); have hc := st.facts; (try simp only [nfl, nft, Nat.reduceAdd] at hc))
    go_ret
    have st2 := st.keep [1] (by decide) (by simp)
    simp only [pick, List.map_cons, List.map_nil, List.getElem?_cons_zero, List.getElem?_cons_succ, Option.getD_some] at st2
    have st' := st2.blkToFl (i := 0) (n := 1) ([(o, d)] : List Role) get0 rfl rfl
    exact roleRes st' 
  · rw [if_neg o1]
    have hob : (op == 1) = false := by simpa using o1
    have HOK := Lib.hid hok
    have HI := Lib.hid ih
    have HN : Hid (n = kids.length) := Lib.hid hok.fl.1
    have hn : n ≤ 1000000000 := by have := nodesL_len (kids.map Fm.strip); rw [List.length_map] at this; have := hok.fl.1; omega
    have HS := Lib.hid hs
    clear hok ih hs o1
    (try simp only [nsl, Value.cells, unB] at st)
    (try clear hc); have hc := st.facts; (try simp only [nfl, nft, Nat.reduceAdd] at hc)
    go_enter Try.func92, Try.ntmps92
    go_wp2_with ((first
          | ((with_reducible refine wl_box ?_ (fun K hK => ?_)); rfl; refine owp_box (o := ⟨some 1, _, _, _, _, _⟩) rfl st ?_; apply Exists.intro; refine ⟨?_, ?_⟩; (focus (go_simp; try rfl)); (clear st; intro b1 w hb st; clear hb))
          | ((with_reducible refine wl_buildSlice ?_ (fun K hK => ?_)); rfl; refine owp_buildSlice (o := ⟨some 11, _, _, _, _, _⟩) rfl st ?_; apply Exists.intro; apply Exists.intro; apply Exists.intro; apply Exists.intro; refine ⟨?_, ?_⟩; (focus (go_simp; (first | done | exact ⟨⟨rfl, rfl⟩, rfl⟩ | rfl))); (clear st; intro b11 w hb st; clear hb))
          | ((with_reducible refine wl_alloc ?_ (fun K hK => ?_)); rfl; refine owp_alloc (o := ⟨some 5, _, _, _, _, _⟩) rfl st ?_; apply Exists.intro; apply Exists.intro; refine ⟨?_, ?_⟩; (focus (first | (go_simp; done) | (go_simp; rfl))); (clear st; intro b5 w hb st; clear hb))
          | ((with_reducible refine wl_store ?_ (fun K hK => ?_)); rfl; refine owp_store rfl st ?_; apply Exists.intro; apply Exists.intro; refine ⟨?_, ?_, ?_⟩; (focus (go_simp; try rfl)); (focus (go_simp; try rfl)); (first | (with_reducible refine ⟨0, _, _, _, _, get0, rfl, rfl, ?_, ?_, ?_, ?_⟩) | (with_reducible refine ⟨1, _, _, _, _, get1, rfl, rfl, ?_, ?_, ?_, ?_⟩) | (with_reducible refine ⟨2, _, _, _, _, get2, rfl, rfl, ?_, ?_, ?_, ?_⟩) | (with_reducible refine ⟨3, _, _, _, _, get3, rfl, rfl, ?_, ?_, ?_, ?_⟩) | (with_reducible refine ⟨4, _, _, _, _, get4, rfl, rfl, ?_, ?_, ?_, ?_⟩)); (kernel_rfl); (simp [Value.cells]); (rfl); (clear st; intro w st))); (try simp only [nsl, Value.cells, unB] at st); (try clear hc); have hc := st.facts; (try simp only [nfl, nft, Nat.reduceAdd] at hc))
    have st9 := (st.keep [0] (by decide) (by simp)).row_nil 23 2
    clear st
    have st := st9
    clear st9
    simp only [pick, List.map_cons, List.map_nil, List.getElem?_cons_zero, List.getElem?_cons_succ, Option.getD_some, List.cons_append, List.nil_append] at st
    go_loopg [3, 15] n (fun q ov i wr => ∃ (j r : Nat) (xs : List Role), j ≤ n ∧ q = n - j ∧ i = .int .i64 (j : Int) ∧ r ≤ 1000000000 ∧ Hid (xs = atomsL ((kids.take j).map Fm.strip)) ∧ Hid (r = xs.length) ∧ Own (fun _ => False) (fun _ => False) W [blkI b1 [.int .i64 op, .int .i64 k, .string ⟨o.toArray⟩, .string ⟨d.toArray⟩, .slice a n c], rowI 23 2 ov r (cellsL xs)] wr)
    case atStart => exact ⟨0, 0, [], by omega, by omega, rfl, by omega, Lib.hid (by simp [atomsL]), Lib.hid rfl, by simpa [cellsL] using st⟩
    case round =>
      obtain ⟨j, r, xs, hj, rfl, rfl, hr, HX, HR, st'⟩ := hrel
      clear st hc
      have st := st'
      clear st'
      obtain ⟨oa, oc, rfl⟩ := own_slice (st.row (i := 1) get1)
      by_cases hjn : j < n
      · obtain ⟨b, off, ha, hcell⟩ := (HOK.out.ext st.ext0).fl.fm (by omega)
        have hjl : j < kids.length := by have := HN.out; omega
        have hsn := map_snoc_strip kids j hjl
        have hle := nodesL_take (kids.map Fm.strip) (j + 1)
        rw [← List.map_take, hsn, nodesL_snoc] at hle
        have hsv := HS.out
        have hok := HOK.out.kids _ (List.getElem_mem hjl)
        have hih := HI.out _ (List.getElem_mem hjl)
        have hgt := List.getElem?_eq_getElem hjl
        generalize kids[j] = x at *
        have HC := Lib.hid (fun W' (hx : Ext W W') => hih W' (hok.ext hx) (by omega))
        obtain ⟨sx, hsx⟩ : ∃ v, x.strip = v := ⟨_, rfl⟩
        rw [hsx] at HC hsn hle
        have hax := atoms_nodes sx
        have hal := atomsL_nodes ((kids.take j).map Fm.strip)
        have HAX : Hid (sx.atoms.length ≤ 1000000000 - r) := Lib.hid (by have := HR.out; rw [HX.out] at this; omega)
        have HX2 : Hid (xs ++ sx.atoms = atomsL ((kids.take (j + 1)).map Fm.strip)) := Lib.hid (by rw [hsn, atomsL_snoc, HX.out])
        generalize sx.atoms = ys at *
        clear hsx hsn hle hsv hih hjl hax hal hok
        obtain ⟨op', k', ⟨o', d'⟩, a', n', c', kids'⟩ := x
        obtain ⟨r0, r1, r2, r3, r4⟩ := hcell j op' k' (o', d') a' n' c' kids' hgt
        unfold fmV S at HC
        simp only at HC
        clear hcell hgt
        subst ha
        unfold S at r2 r3
        simp only at r2 r3
        (try simp only [nsl, Value.cells, unB] at st)
        (try clear hc); have hc := st.facts; (try simp only [nfl, nft, Nat.reduceAdd] at hc)
        go_wp2_with ((first
              | ((with_reducible refine wl_box ?_ (fun K hK => ?_)); rfl; refine owp_box (o := ⟨some 1, _, _, _, _, _⟩) rfl st ?_; apply Exists.intro; refine ⟨?_, ?_⟩; (focus (go_simp; try rfl)); (clear st; intro b1 w hb st; clear hb))
              | ((with_reducible refine wl_buildSlice ?_ (fun K hK => ?_)); rfl; refine owp_buildSlice (o := ⟨some 11, _, _, _, _, _⟩) rfl st ?_; apply Exists.intro; apply Exists.intro; apply Exists.intro; apply Exists.intro; refine ⟨?_, ?_⟩; (focus (go_simp; (first | done | exact ⟨⟨rfl, rfl⟩, rfl⟩ | rfl))); (clear st; intro b11 w hb st; clear hb))
              | ((with_reducible refine wl_alloc ?_ (fun K hK => ?_)); rfl; refine owp_alloc (o := ⟨some 5, _, _, _, _, _⟩) rfl st ?_; apply Exists.intro; apply Exists.intro; refine ⟨?_, ?_⟩; (focus (first | (go_simp; done) | (go_simp; rfl))); (clear st; intro b5 w hb st; clear hb))
              | ((with_reducible refine wl_store ?_ (fun K hK => ?_)); rfl; refine owp_store rfl st ?_; apply Exists.intro; apply Exists.intro; refine ⟨?_, ?_, ?_⟩; (focus (go_simp; try rfl)); (focus (go_simp; try rfl)); (first | (with_reducible refine ⟨0, _, _, _, _, get0, rfl, rfl, ?_, ?_, ?_, ?_⟩) | (with_reducible refine ⟨1, _, _, _, _, get1, rfl, rfl, ?_, ?_, ?_, ?_⟩) | (with_reducible refine ⟨2, _, _, _, _, get2, rfl, rfl, ?_, ?_, ?_, ?_⟩) | (with_reducible refine ⟨3, _, _, _, _, get3, rfl, rfl, ?_, ?_, ?_, ?_⟩) | (with_reducible refine ⟨4, _, _, _, _, get4, rfl, rfl, ?_, ?_, ?_, ?_⟩)); (kernel_rfl); (simp [Value.cells]); (rfl); (clear st; intro w st))); (try simp only [nsl, Value.cells, unB] at st); (try clear hc); have hc := st.facts; (try simp only [nfl, nft, Nat.reduceAdd] at hc))
        clear r0 r1 r2 r3 r4
        refine (HC.out _ st.ext0).mono ?_
        rintro en w ⟨va, m, vc, rfl, h2⟩
        have hm := (h2.flAt (i := 0) get0).1
        have hmb : m ≤ 1000000000 - r := by rw [hm]; exact HAX.out
        have HM := Lib.hid hm
        clear hm
        replace st := st.join h2
        clear h2
        simp only [List.cons_append, List.nil_append] at st
        (try simp only [nsl, Value.cells, unB] at st)
        (try clear hc); have hc := st.facts; (try simp only [nfl, nft, Nat.reduceAdd] at hc)
        go_wp2_with (first
            | ((with_reducible refine wl_append ?_ (fun K hK => ?_)); (rfl); (obtain ⟨inf, hinf, hz0, hz1, hz2⟩ := roleInfo); (refine owp_append rfl st 1 get1 Try.underlying37 hinf hz0 hz1 hz2 rfl (by decide) rfl rfl ((st.flAt (i := 3) get3).flat) (by first | exact cellsL_all _ | simp [Value.oneCell']) (by simp only [maxLen]; omega) (by omega) ?_); (clear hinf hz0 hz1 hz2 inf); (clear st; intro v' w st); (obtain ⟨va', vc', rfl⟩ := own_slice (st.row (i := 1) get1)); (try simp only [nsl, Value.cells, unB] at st); (try simp only [Nat.zero_add] at st); (try clear hc); have hc := st.facts; (try simp only [nfl, nft, Nat.reduceAdd] at hc))
            | ((first
              | ((with_reducible refine wl_box ?_ (fun K hK => ?_)); rfl; refine owp_box (o := ⟨some 1, _, _, _, _, _⟩) rfl st ?_; apply Exists.intro; refine ⟨?_, ?_⟩; (focus (go_simp; try rfl)); (clear st; intro b1 w hb st; clear hb))
              | ((with_reducible refine wl_buildSlice ?_ (fun K hK => ?_)); rfl; refine owp_buildSlice (o := ⟨some 11, _, _, _, _, _⟩) rfl st ?_; apply Exists.intro; apply Exists.intro; apply Exists.intro; apply Exists.intro; refine ⟨?_, ?_⟩; (focus (go_simp; (first | done | exact ⟨⟨rfl, rfl⟩, rfl⟩ | rfl))); (clear st; intro b11 w hb st; clear hb))
              | ((with_reducible refine wl_alloc ?_ (fun K hK => ?_)); rfl; refine owp_alloc (o := ⟨some 5, _, _, _, _, _⟩) rfl st ?_; apply Exists.intro; apply Exists.intro; refine ⟨?_, ?_⟩; (focus (first | (go_simp; done) | (go_simp; rfl))); (clear st; intro b5 w hb st; clear hb))
              | ((with_reducible refine wl_store ?_ (fun K hK => ?_)); rfl; refine owp_store rfl st ?_; apply Exists.intro; apply Exists.intro; refine ⟨?_, ?_, ?_⟩; (focus (go_simp; try rfl)); (focus (go_simp; try rfl)); (first | (with_reducible refine ⟨0, _, _, _, _, get0, rfl, rfl, ?_, ?_, ?_, ?_⟩) | (with_reducible refine ⟨1, _, _, _, _, get1, rfl, rfl, ?_, ?_, ?_, ?_⟩) | (with_reducible refine ⟨2, _, _, _, _, get2, rfl, rfl, ?_, ?_, ?_, ?_⟩) | (with_reducible refine ⟨3, _, _, _, _, get3, rfl, rfl, ?_, ?_, ?_, ?_⟩) | (with_reducible refine ⟨4, _, _, _, _, get4, rfl, rfl, ?_, ?_, ?_, ?_⟩)); (kernel_rfl); (simp [Value.cells]); (rfl); (clear st; intro w st))); (try simp only [nsl, Value.cells, unB] at st); (try clear hc); have hc := st.facts; (try simp only [nfl, nft, Nat.reduceAdd] at hc)))
        have st' := st.keep [0, 1] (by decide) (by simp)
        have HR2 : Hid (r + m = (xs ++ ys).length) := Lib.hid (by rw [List.length_append, HR.out, HM.out])
        go_roundg (n - (j + 1))
        case measure => omega
        case rel => exact ⟨j + 1, r + m, xs ++ ys, by omega, by omega, by go_num, by omega, HX2, HR2, by rw [cellsL_append]; simpa [pick] using st'⟩
      · obtain rfl : n = j := by omega
        have HE : Hid (xs = atomsL (kids.map Fm.strip)) := Lib.hid (by rw [HX.out, List.take_of_length_le (by have := HN.out; omega)])
        (try simp only [nsl, Value.cells, unB] at st)
        (try clear hc); have hc := st.facts; (try simp only [nfl, nft, Nat.reduceAdd] at hc)
        go_wp2_with fail
        go_ret
        have st2 := st.keep [1] (by decide) (by simp)
        simp only [pick, List.map_cons, List.map_nil, List.getElem?_cons_zero, List.getElem?_cons_succ, Option.getD_some] at st2
        have st' := st2.rowToFl (α := Role) (i := 0) get0
        rw [← HE.out]
        exact roleRes st' 
set_option maxRecDepth 100000 in
set_option maxHeartbeats 1000000 in
theorem fmAtoms_f (f : Fm) (W : World) (h : FmOk W f) (hs : f.strip.nodes ≤ 1000000) (hl : FoL 100000 f.strip) :
    Calls Try.prog 57 #[fmV f] W fun e w' => ∃ va vc, e = .returned (.slice va (roleSet f.strip.atoms).length vc) ∧ Own (fun _ => False) (fun _ => False) W [rowI 23 2 (.slice va (roleSet f.strip.atoms).length vc) (roleSet f.strip.atoms).length (cellsL (roleSet f.strip.atoms))] w' := by
  have HC := Lib.hid (fun W' (hx : Ext W W') => fmRoles_f f W' (h.ext hx) (by omega))
  have hn := atoms_nodes f.strip
  have HS := Lib.hid (fun a n c W (hf : Fl W a n f.strip.atoms) => roleSet_any a n c f.strip.atoms W hf (by have := hf.1; omega) (fun x hx => hl.atoms x hx))
  generalize f.strip.atoms = xs at *
  generalize roleSet xs = ys at *
  obtain ⟨m, hm⟩ : ∃ m, ys.length = m := ⟨_, rfl⟩
  rw [hm] at HS ⊢
  clear hm hn hl hs
  obtain ⟨op, k, ⟨o, d⟩, a, n, c, kids⟩ := f
  clear h
  have st := Own.start (fun _ => False) (fun _ => False) W
  unfold fmV S at HC ⊢
  simp only at HC ⊢
  (try simp only [nsl, Value.cells, unB] at st)
  (try clear hc); have hc := st.facts; (try simp only [nfl, nft, Nat.reduceAdd] at hc)
  go_enter Try.func57, Try.ntmps57
  go_wp2_with ((((with_reducible refine wl_box ?_ (fun K hK => ?_)); rfl; refine owp_box (o := ⟨some 1, _, _, _, _, _⟩) rfl st ?_; apply Exists.intro; refine ⟨?_, ?_⟩; (focus (go_simp; try rfl)); (clear st; intro b1 w hb st; clear hb))); (try simp only [nsl, Value.cells, unB] at st); (try clear hc); have hc := st.facts; (try simp only [nfl, nft, Nat.reduceAdd] at hc))
  refine (HC.out _ st.ext0).mono ?_
  rintro en w ⟨va, q, vc, rfl, h2⟩
  replace st := st.join h2
  clear h2
  simp only [List.cons_append, List.nil_append] at st
  (try simp only [nsl, Value.cells, unB] at st)
  (try clear hc); have hc := st.facts; (try simp only [nfl, nft, Nat.reduceAdd] at hc)
  go_wp2_with ((((with_reducible refine wl_box ?_ (fun K hK => ?_)); rfl; refine owp_box (o := ⟨some 1, _, _, _, _, _⟩) rfl st ?_; apply Exists.intro; refine ⟨?_, ?_⟩; (focus (go_simp; try rfl)); (clear st; intro b1 w hb st; clear hb))); (try simp only [nsl, Value.cells, unB] at st); (try clear hc); have hc := st.facts; (try simp only [nfl, nft, Nat.reduceAdd] at hc))
  refine (HS.out _ _ _ _ (st.flAt (i := 1) get1)).mono ?_
  rintro en w ⟨va2, vc2, rfl, h2⟩
  replace st := st.fresh h2
  clear h2
  (try simp only [nsl, Value.cells, unB] at st)
  (try clear hc); have hc := st.facts; (try simp only [nfl, nft, Nat.reduceAdd] at hc)
  go_wp2_with ((((with_reducible refine wl_box ?_ (fun K hK => ?_)); rfl; refine owp_box (o := ⟨some 1, _, _, _, _, _⟩) rfl st ?_; apply Exists.intro; refine ⟨?_, ?_⟩; (focus (go_simp; try rfl)); (clear st; intro b1 w hb st; clear hb))); (try simp only [nsl, Value.cells, unB] at st); (try clear hc); have hc := st.facts; (try simp only [nfl, nft, Nat.reduceAdd] at hc))
  go_ret
  have st' := st.keep [2] (by decide) (by simp)
  exact ⟨_, _, rfl, by simpa [pick] using st'⟩
end Go.Proofs.Ythjaopojlhdjpaa

namespace Go.Proofs.Ythjaopojlhdjpaa
set_option linter.unusedSimpArgs false
set_option linter.unusedVariables false
open Go Go.RowKit
structure CredT where
  k : Int
  h : Role
  w : List UInt8
  b : Role
  c : Role
  e : List UInt8
deriving DecidableEq, Inhabited
def cC (x : CredT) : List Value := [.int .i64 x.k, S x.h.1, S x.h.2, S x.w, S x.b.1, S x.b.2, S x.c.1, S x.c.2, S x.e]
instance fltCred : Flt CredT := ⟨9, cC, fun _ => rfl, by decide, fun x u hu => by simp [cC] at hu; rcases hu with rfl | rfl | rfl | rfl | rfl | rfl | rfl | rfl | rfl <;> rfl⟩
end Go.Proofs.Ythjaopojlhdjpaa

namespace Go.Proofs.Ythjaopojlhdjpaa
set_option linter.unusedSimpArgs false
set_option linter.unusedVariables false
open Go Go.RowKit
/-- A credential and its tag. -/
structure SgnT where
  c : CredT
  a : Option Addr
  n : Nat
  m : Nat
  xs : List UInt8
deriving Inhabited
def sgC (x : SgnT) : List Value := [.int .i64 x.c.k, S x.c.h.1, S x.c.h.2, S x.c.w, S x.c.b.1, S x.c.b.2, S x.c.c.1, S x.c.c.2, S x.c.e, .slice x.a x.n x.m]
instance fltSgn : Flt SgnT := ⟨10, sgC, fun _ => rfl, by decide, fun x u hu => by simp [sgC] at hu; rcases hu with rfl | rfl | rfl | rfl | rfl | rfl | rfl | rfl | rfl | rfl <;> rfl⟩
def SgOk (W : World) (x : SgnT) : Prop := (x.n ≤ x.m ∧ x.m ≤ maxLen) ∧ By W x.a x.n x.xs
theorem SgOk.ext {W W' : World} {x : SgnT} (h : SgOk W x) (hx : Ext W W') : SgOk W' x := ⟨h.1, h.2.ext hx⟩
theorem Fl.sgn {w : World} {a : Option Addr} {n : Nat} {xs : List SgnT} (h : Fl w a n xs) (h0 : 0 < n) : ∃ b off, a = some ⟨b, off, none⟩ ∧ ∀ j x, xs[j]? = some x → w.cell? ⟨b, off + j * 10, none⟩ = some (.int .i64 x.c.k) ∧ w.cell? ⟨b, off + j * 10 + 1, none⟩ = some (S x.c.h.1) ∧ w.cell? ⟨b, off + j * 10 + 2, none⟩ = some (S x.c.h.2) ∧ w.cell? ⟨b, off + j * 10 + 3, none⟩ = some (S x.c.w) ∧ w.cell? ⟨b, off + j * 10 + 4, none⟩ = some (S x.c.b.1) ∧ w.cell? ⟨b, off + j * 10 + 5, none⟩ = some (S x.c.b.2) ∧ w.cell? ⟨b, off + j * 10 + 6, none⟩ = some (S x.c.c.1) ∧ w.cell? ⟨b, off + j * 10 + 7, none⟩ = some (S x.c.c.2) ∧ w.cell? ⟨b, off + j * 10 + 8, none⟩ = some (S x.c.e) ∧ w.cell? ⟨b, off + j * 10 + 9, none⟩ = some (.slice x.a x.n x.m) := by
  obtain ⟨b, off, rfl, hc⟩ := h.2 h0
  exact ⟨b, off, rfl, fun j x hj => ⟨hc j x hj 0 _ rfl, hc j x hj 1 _ rfl, hc j x hj 2 _ rfl, hc j x hj 3 _ rfl, hc j x hj 4 _ rfl, hc j x hj 5 _ rfl, hc j x hj 6 _ rfl, hc j x hj 7 _ rfl, hc j x hj 8 _ rfl, hc j x hj 9 _ rfl⟩⟩
end Go.Proofs.Ythjaopojlhdjpaa

namespace Go.Proofs.Ythjaopojlhdjpaa
set_option linter.unusedSimpArgs false
set_option linter.unusedVariables false
open Go Go.RowKit
/-- How great credentials are. -/
def wtC (x : CredT) : Nat := 20 + x.h.1.length + x.h.2.length + x.w.length + x.b.1.length + x.b.2.length + x.c.1.length + x.c.2.length + x.e.length
def weightC (l : List CredT) : Nat := (l.map wtC).sum
theorem weightC_snoc (l : List CredT) (x : CredT) : weightC (l ++ [x]) = weightC l + wtC x := by simp [weightC]
theorem weightC_cons (l : List CredT) (x : CredT) : weightC (x :: l) = wtC x + weightC l := by simp [weightC]
theorem weightC_take : ∀ (l : List CredT) (j : Nat), weightC (l.take j) ≤ weightC l
  | [], j => by simp [weightC]
  | x :: l, 0 => by simp [weightC]
  | x :: l, j + 1 => by have := weightC_take l j; rw [List.take_succ_cons, weightC_cons, weightC_cons]; omega
theorem weightC_len : ∀ (l : List CredT), 20 * l.length ≤ weightC l
  | [] => by simp [weightC]
  | x :: l => by have := weightC_len l; rw [weightC_cons, List.length_cons]; unfold wtC; omega
theorem Fl.cred {w : World} {a : Option Addr} {n : Nat} {xs : List CredT} (h : Fl w a n xs) (h0 : 0 < n) : ∃ b off, a = some ⟨b, off, none⟩ ∧ ∀ j x, xs[j]? = some x → w.cell? ⟨b, off + j * 9, none⟩ = some (.int .i64 x.k) ∧ w.cell? ⟨b, off + j * 9 + 1, none⟩ = some (S x.h.1) ∧ w.cell? ⟨b, off + j * 9 + 2, none⟩ = some (S x.h.2) ∧ w.cell? ⟨b, off + j * 9 + 3, none⟩ = some (S x.w) ∧ w.cell? ⟨b, off + j * 9 + 4, none⟩ = some (S x.b.1) ∧ w.cell? ⟨b, off + j * 9 + 5, none⟩ = some (S x.b.2) ∧ w.cell? ⟨b, off + j * 9 + 6, none⟩ = some (S x.c.1) ∧ w.cell? ⟨b, off + j * 9 + 7, none⟩ = some (S x.c.2) ∧ w.cell? ⟨b, off + j * 9 + 8, none⟩ = some (S x.e) := by
  obtain ⟨b, off, rfl, hc⟩ := h.2 h0
  exact ⟨b, off, rfl, fun j x hj => ⟨hc j x hj 0 _ rfl, hc j x hj 1 _ rfl, hc j x hj 2 _ rfl, hc j x hj 3 _ rfl, hc j x hj 4 _ rfl, hc j x hj 5 _ rfl, hc j x hj 6 _ rfl, hc j x hj 7 _ rfl, hc j x hj 8 _ rfl⟩⟩
end Go.Proofs.Ythjaopojlhdjpaa

namespace Go.Proofs.Ythjaopojlhdjpaa
set_option linter.unusedSimpArgs false
set_option linter.unusedVariables false
open Go Go.RowKit
set_option maxRecDepth 100000 in
set_option maxHeartbeats 1000000 in
theorem credGreat_any (a : Option Addr) (n c : Nat) (l : List CredT) (W : World) (h : Fl W a n l) (hw : weightC l ≤ 2000000000) :
    Calls Try.prog 56 #[.slice a n c] W fun e w' => e = .returned (.int .i64 (weightC l : Int)) ∧ Ext W w' := by
  have hnw : n ≤ 2000000000 := by have := weightC_len l; have := h.1; omega
  have H := Lib.hid h
  have HN := Lib.hid (And.intro h.1 hw)
  have st := Own.startOld W
  clear h hw
  (try simp only [nsl, Value.cells, unB] at st)
  (try clear hc); have hc := st.facts; (try simp only [nfl, nft, Nat.reduceAdd] at hc)
  go_enter Try.func56, Try.ntmps56
  go_wp2_with fail
  go_loopg [3, 8] n (fun k v i wr => ∃ (j q : Nat), j ≤ n ∧ k = n - j ∧ q ≤ 2000000000 ∧ Hid (q = weightC (l.take j)) ∧ i = .int .i64 (j : Int) ∧ v = .int .i64 (q : Int) ∧ Own (fun _ => False) (fun _ => True) W [oldI W] wr)
  case atStart => exact ⟨0, 0, by omega, by omega, by omega, Lib.hid (by simp [weightC]), rfl, rfl, st⟩
  case round =>
    obtain ⟨j, q, hj, rfl, hq, HQ, rfl, rfl, st'⟩ := hrel
    clear st hc
    have st := st'
    clear st'
    (try simp only [nsl, Value.cells, unB] at st)
    (try clear hc); have hc := st.facts; (try simp only [nfl, nft, Nat.reduceAdd] at hc)
    by_cases hjn : j < n
    · obtain ⟨b, off, ha, hcell⟩ := H.out.cred (by omega)
      have hjl : j < l.length := by have := HN.out.1; omega
      have hcc := hcell j l[j] (List.getElem?_eq_getElem hjl)
      obtain ⟨r0, r1, r2, r3, r4, r5, r6, r7, r8⟩ := hcc
      replace r0 := st.oldCell (i := 0) get0 r0
      replace r1 := st.oldCell (i := 0) get0 r1
      replace r2 := st.oldCell (i := 0) get0 r2
      replace r3 := st.oldCell (i := 0) get0 r3
      replace r4 := st.oldCell (i := 0) get0 r4
      replace r5 := st.oldCell (i := 0) get0 r5
      replace r6 := st.oldCell (i := 0) get0 r6
      replace r7 := st.oldCell (i := 0) get0 r7
      replace r8 := st.oldCell (i := 0) get0 r8
      have hts : l.take (j + 1) = l.take j ++ [l[j]] := (List.take_append_getElem hjl).symm
      have hw1 := weightC_take l (j + 1)
      rw [hts, weightC_snoc, ← HQ.out] at hw1
      have hw2 : q + wtC l[j] ≤ 2000000000 := by have := HN.out.2; omega
      have HX : Hid (q + wtC l[j] = weightC (l.take (j + 1))) := Lib.hid (by rw [hts, weightC_snoc, ← HQ.out])
      clear hcell hts hw1
      generalize l[j] = x at *
      clear hjl
      subst ha
      unfold S at r1 r2 r3 r4 r5 r6 r7 r8
      have hszz : ∀ s : List UInt8, (⟨s.toArray⟩ : ByteArray).size = s.length := fun s => by simp [ByteArray.size]
      have HW : Hid (wtC x = 20 + x.h.1.length + x.h.2.length + x.w.length + x.b.1.length + x.b.2.length + x.c.1.length + x.c.2.length + x.e.length) := Lib.hid rfl
      have hw3 : q + (20 + x.h.1.length + x.h.2.length + x.w.length + x.b.1.length + x.b.2.length + x.c.1.length + x.c.2.length + x.e.length) ≤ 2000000000 := by rw [← HW.out]; exact hw2
      clear hw2
      go_wp2_with ((first
            | ((with_reducible refine wl_alloc ?_ (fun K hK => ?_)); rfl; refine owp_alloc (o := ⟨some 5, _, _, _, _, _⟩) rfl st ?_; apply Exists.intro; apply Exists.intro; refine ⟨?_, ?_⟩; (focus (first | (go_simp; done) | (go_simp; rfl))); (clear st; intro b5 w hb st; clear hb))
            | ((with_reducible refine wl_store ?_ (fun K hK => ?_)); rfl; refine owp_store rfl st ?_; apply Exists.intro; apply Exists.intro; refine ⟨?_, ?_, ?_⟩; (focus (go_simp; try rfl)); (focus (go_simp; try rfl)); (first | (with_reducible refine ⟨0, _, _, _, _, get0, rfl, rfl, ?_, ?_, ?_, ?_⟩) | (with_reducible refine ⟨1, _, _, _, _, get1, rfl, rfl, ?_, ?_, ?_, ?_⟩) | (with_reducible refine ⟨2, _, _, _, _, get2, rfl, rfl, ?_, ?_, ?_, ?_⟩) | (with_reducible refine ⟨3, _, _, _, _, get3, rfl, rfl, ?_, ?_, ?_, ?_⟩) | (with_reducible refine ⟨4, _, _, _, _, get4, rfl, rfl, ?_, ?_, ?_, ?_⟩) | (with_reducible refine ⟨5, _, _, _, _, get5, rfl, rfl, ?_, ?_, ?_, ?_⟩)); (kernel_rfl); (simp [Value.cells]); (rfl); (clear st; intro w st))); (try simp only [nsl, Value.cells, unB] at st); (try clear hc); have hc := st.facts; (try simp only [nfl, nft, Nat.reduceAdd] at hc))
      have st' := st.keep [0] (by decide) (by simp)
      go_roundg (n - (j + 1))
      case measure => omega
      case rel => exact ⟨j + 1, q + (20 + x.h.1.length + x.h.2.length + x.w.length + x.b.1.length + x.b.2.length + x.c.1.length + x.c.2.length + x.e.length), by omega, rfl, hw3, by rw [← HW.out]; exact HX, by go_num, by go_num, by simpa [pick] using st'⟩
    · obtain rfl : j = n := by omega
      have htk : weightC l = q := by rw [HQ.out, List.take_of_length_le (by have := HN.out.1; omega)]
      have HE := Lib.hid htk
      clear htk
      go_wp2_with fail
      go_ret
      exact ⟨by rw [HE.out]; rfl, st.ext0⟩
end Go.Proofs.Ythjaopojlhdjpaa

namespace Go.Proofs.Ythjaopojlhdjpaa
set_option linter.unusedSimpArgs false
set_option linter.unusedVariables false
open Go Go.RowKit
def wtSg (x : SgnT) : Nat := wtC x.c + x.n
def weightSg (l : List SgnT) : Nat := (l.map wtSg).sum
theorem weightSg_cons (x : SgnT) (l : List SgnT) : weightSg (x :: l) = wtSg x + weightSg l := by simp [weightSg]
theorem weightSg_take (l : List SgnT) (j : Nat) (h : j < l.length) : weightSg (l.take (j + 1)) = weightSg (l.take j) + wtSg l[j] := by
  rw [← List.take_append_getElem h]; simp only [weightSg, List.map_append, List.sum_append, List.map_cons, List.map_nil, List.sum_cons, List.sum_nil, Nat.add_zero]
theorem weightSg_le : ∀ (l : List SgnT) (j : Nat), weightSg (l.take j) ≤ weightSg l
  | [], j => by simp
  | x :: l, 0 => by simp [weightSg]
  | x :: l, j + 1 => by have := weightSg_le l j; rw [List.take_succ_cons, weightSg_cons, weightSg_cons]; omega
theorem weightSg_len : ∀ (l : List SgnT), 20 * l.length ≤ weightSg l
  | [] => by simp
  | x :: l => by have := weightSg_len l; rw [weightSg_cons, List.length_cons]; unfold wtSg wtC; omega
set_option maxRecDepth 100000 in
set_option maxHeartbeats 4000000 in
theorem sgGreat_any (a : Option Addr) (n c : Nat) (l : List SgnT) (W : World) (h : Fl W a n l) (hw : weightSg l ≤ 2000000000) :
    Calls Try.prog 55 #[.slice none 0 0, .slice a n c] W fun e w' => e = .returned (.int .i64 (weightSg l : Int)) ∧ Ext W w' := by
  have hnw : n ≤ 2000000000 := by have := weightSg_len l; have := h.1; omega
  have H := Lib.hid h
  have HN := Lib.hid h.1
  have HT := Lib.hid (weightSg_le l)
  obtain ⟨wl, hwl⟩ : ∃ w, weightSg l = w := ⟨_, rfl⟩
  rw [hwl] at HT hw ⊢
  have HWL := Lib.hid hwl
  have st := Own.startOld W
  clear h hwl
  (try simp only [nsl, Value.cells, unB] at st)
  (try clear hc); have hc := st.facts; (try simp only [nfl, nft, Nat.reduceAdd] at hc)
  go_enter Try.func55, Try.ntmps55
  go_wp2_with fail
  go_loopg [5, 12] 0 (fun k v i wr => v = .int .i64 0 ∧ i = .int .i64 0 ∧ Own (fun _ => False) (fun _ => True) W [oldI W] wr)
  case atStart => exact ⟨rfl, rfl, st⟩
  case round =>
    obtain ⟨rfl, rfl, st'⟩ := hrel
    clear st hc
    have st := st'
    clear st'
    go_wp2_with fail
    go_loopg [5, 29] n (fun k s i wr => ∃ (j q : Nat), j ≤ n ∧ k = n - j ∧ i = .int .i64 (j : Int) ∧ Hid (q = weightSg (l.take j)) ∧ q ≤ wl ∧ s = .int .i64 (q : Int) ∧ Own (fun _ => False) (fun _ => True) W [oldI W] wr)
    case atStart => exact ⟨0, 0, by omega, by omega, rfl, Lib.hid (by simp [weightSg]), by omega, rfl, st⟩
    case round =>
      obtain ⟨j, q, hj, rfl, rfl, HQ, hq, rfl, st'⟩ := hrel
      clear st
      have st := st'
      clear st'
      (try simp only [nsl, Value.cells, unB] at st)
      (try clear hc); have hc := st.facts; (try simp only [nfl, nft, Nat.reduceAdd] at hc)
      by_cases hjn : j < n
      · obtain ⟨b, off, ha, hcell⟩ := H.out.sgn (by omega)
        have hjl : j < l.length := by have := HN.out; omega
        obtain ⟨r0, r1, r2, r3, r4, r5, r6, r7, r8, r9⟩ := hcell j l[j] (List.getElem?_eq_getElem hjl)
        replace r0 := st.oldCell (i := 0) get0 r0
        replace r1 := st.oldCell (i := 0) get0 r1
        replace r2 := st.oldCell (i := 0) get0 r2
        replace r3 := st.oldCell (i := 0) get0 r3
        replace r4 := st.oldCell (i := 0) get0 r4
        replace r5 := st.oldCell (i := 0) get0 r5
        replace r6 := st.oldCell (i := 0) get0 r6
        replace r7 := st.oldCell (i := 0) get0 r7
        replace r8 := st.oldCell (i := 0) get0 r8
        replace r9 := st.oldCell (i := 0) get0 r9
        have hle := HT.out (j + 1)
        have HTK := Lib.hid (weightSg_take l j hjl)
        have hq2 : q + wtSg l[j] ≤ wl := by have := HTK.out; have := HQ.out; omega
        clear hcell hle
        generalize l[j] = x at *
        subst ha
        obtain ⟨cx, a1, n1, m1, xs⟩ := x
        have HWX : Hid (wtSg ⟨cx, a1, n1, m1, xs⟩ = wtC cx + n1) := Lib.hid rfl
        rw [HWX.out] at hq2 HTK
        have HCG := Lib.hid (fun a c W h => credGreat_any a 1 c [cx] W h (by simp [weightC]; omega))
        rw [show weightC [cx] = wtC cx from by simp [weightC]] at HCG
        obtain ⟨wc, hwc⟩ : ∃ w, wtC cx = w := ⟨_, rfl⟩
        rw [hwc] at HCG hq2 HTK
        clear hwc HWX
        have z1 : IntKind.i64.wrap ((wc : Int) + (n1 : Int)) = (wc : Int) + (n1 : Int) := IntWalk.i64_in _ ⟨by omega, by omega⟩
        have z4 : IntKind.i64.wrap ((q : Int) + ((wc : Int) + (n1 : Int))) = (q : Int) + ((wc : Int) + (n1 : Int)) := IntWalk.i64_in _ ⟨by omega, by omega⟩
        obtain ⟨k, ⟨ho, hd⟩, nw, ⟨bo, bd⟩, ⟨co, cd⟩, we⟩ := cx
        simp only at r0 r1 r2 r3 r4 r5 r6 r7 r8 r9
        unfold S at r1 r2 r3 r4 r5 r6 r7 r8
        go_wp2_with ((first
              | ((with_reducible refine wl_alloc ?_ (fun K hK => ?_)); rfl; refine owp_alloc (o := ⟨some 7, _, _, _, _, _⟩) rfl st ?_; apply Exists.intro; apply Exists.intro; refine ⟨?_, ?_⟩; (focus (first | (go_simp; done) | (go_simp; rfl))); (clear st; intro b7 w hb st; clear hb))
              | ((with_reducible refine wl_store ?_ (fun K hK => ?_)); rfl; refine owp_store rfl st ?_; apply Exists.intro; apply Exists.intro; refine ⟨?_, ?_, ?_⟩; (focus (go_simp; try rfl)); (focus (go_simp; try rfl)); (first | (with_reducible refine ⟨0, _, _, _, _, get0, rfl, rfl, ?_, ?_, ?_, ?_⟩) | (with_reducible refine ⟨1, _, _, _, _, get1, rfl, rfl, ?_, ?_, ?_, ?_⟩) | (with_reducible refine ⟨2, _, _, _, _, get2, rfl, rfl, ?_, ?_, ?_, ?_⟩) | (with_reducible refine ⟨3, _, _, _, _, get3, rfl, rfl, ?_, ?_, ?_, ?_⟩) | (with_reducible refine ⟨4, _, _, _, _, get4, rfl, rfl, ?_, ?_, ?_, ?_⟩)); (kernel_rfl); (simp [Value.cells]); (rfl); (clear st; intro w st))
              | ((with_reducible refine wl_alloc ?_ (fun K hK => ?_)); rfl; refine owp_alloc (o := ⟨some 9, _, _, _, _, _⟩) rfl st ?_; apply Exists.intro; apply Exists.intro; refine ⟨?_, ?_⟩; (focus (first | (go_simp; done) | (go_simp; rfl))); (clear st; intro b9 w hb st; clear hb))
              | ((with_reducible refine wl_buildSlice ?_ (fun K hK => ?_)); rfl; refine owp_buildSlice (o := ⟨some 36, _, _, _, _, _⟩) rfl st ?_; apply Exists.intro; apply Exists.intro; apply Exists.intro; apply Exists.intro; refine ⟨?_, ?_⟩; (focus (go_simp; (first | done | exact ⟨⟨rfl, rfl⟩, rfl⟩ | rfl))); (clear st; intro b36 w hb st; clear hb))); (try simp only [nsl, Value.cells, unB] at st); (try clear hc); have hc := st.facts; (try simp only [nfl, nft, Nat.reduceAdd] at hc))
        clear r0 r1 r2 r3 r4 r5 r6 r7 r8 r9
        refine Rg4.wp_region4_eq #[0, 0, 2, 6, 14, 0, 32, 96, 254, 511, 1023] [3, 4] [] (fun W' => Blk W' b9 [.int .i64 k, .string ⟨ho.toArray⟩, .string ⟨hd.toArray⟩, .string ⟨nw.toArray⟩, .string ⟨bo.toArray⟩, .string ⟨bd.toArray⟩, .string ⟨co.toArray⟩, .string ⟨cd.toArray⟩, .string ⟨we.toArray⟩, .slice a1 n1 m1]) [0, 1, 2, 5, 6, 7, 3, 4, 8, 9, 10] (by kernel_rfl) (by kernel_rfl) (by kernel_rfl) (by kernel_rfl) (show Rg4.PB _ by repeat (first | with_reducible exact Rg4.pb_body | with_reducible exact Rg4.pb_bodyD rfl | with_reducible refine Rg4.pb_then ?_ | with_reducible refine Rg4.pb_inBlock ?_ | with_reducible refine Rg4.pb_noGoto ?_)) (st.drew.blk (i := 1) get1) ?_
        replace st := st.drew
        change Rg4.wp4 _ _ _ _ _ _ _ _ _ (World.drew _) _ _
        generalize World.drew _ = w at st ⊢
        (try clear hc); have hc := st.facts; (try simp only [nfl, nft, Nat.reduceAdd] at hc)
        iterate 2 (refine Rg4.w4_any (Rg4.want_none rfl) rfl ?_; apply Exists.intro; refine ⟨fun w' => ?_, ?_⟩; (focus (first | (go_simp; done) | (go_simp; first | rfl | (rw [if_neg] <;> first | rfl | omega) | (rw [if_pos] <;> first | rfl | omega)))); (try simp only [Rg4.nrm]))
        (refine Rg4.w4_cl (Rg4.want_none rfl) rfl ?_; apply Exists.intro; refine ⟨fun w' hcl => ?_, ?_⟩; (focus (have q0 := Blk.cell hcl 0; have q1 := Blk.cell hcl 1; have q2 := Blk.cell hcl 2; have q3 := Blk.cell hcl 3; have q4 := Blk.cell hcl 4; have q5 := Blk.cell hcl 5; have q6 := Blk.cell hcl 6; have q7 := Blk.cell hcl 7; have q8 := Blk.cell hcl 8; have q9 := Blk.cell hcl 9; (try simp at q0 q1 q2 q3 q4 q5 q6 q7 q8 q9); (focus (first | (go_simp; done) | (go_simp; first | rfl | (rw [if_neg] <;> first | rfl | omega) | (rw [if_pos] <;> first | rfl | omega)))))); (try simp only [Rg4.nrm]))
        (refine Rg4.w4_any (Rg4.want_none rfl) rfl ?_; apply Exists.intro; refine ⟨fun w' => ?_, ?_⟩; (focus (first | (go_simp; done) | (go_simp; first | rfl | (rw [if_neg] <;> first | rfl | omega) | (rw [if_pos] <;> first | rfl | omega)))); (try simp only [Rg4.nrm]))
        (refine Rg4.w4_cl (Rg4.want_none rfl) rfl ?_; apply Exists.intro; refine ⟨fun w' hcl => ?_, ?_⟩; (focus (have q0 := Blk.cell hcl 0; have q1 := Blk.cell hcl 1; have q2 := Blk.cell hcl 2; have q3 := Blk.cell hcl 3; have q4 := Blk.cell hcl 4; have q5 := Blk.cell hcl 5; have q6 := Blk.cell hcl 6; have q7 := Blk.cell hcl 7; have q8 := Blk.cell hcl 8; have q9 := Blk.cell hcl 9; (try simp at q0 q1 q2 q3 q4 q5 q6 q7 q8 q9); (focus (first | (go_simp; done) | (go_simp; first | rfl | (rw [if_neg] <;> first | rfl | omega) | (rw [if_pos] <;> first | rfl | omega)))))); (try simp only [Rg4.nrm]))
        (refine Rg4.w4_any (Rg4.want_none rfl) rfl ?_; apply Exists.intro; refine ⟨fun w' => ?_, ?_⟩; (focus (first | (go_simp; done) | (go_simp; first | rfl | (rw [if_neg] <;> first | rfl | omega) | (rw [if_pos] <;> first | rfl | omega)))); (try simp only [Rg4.nrm]))
        (refine Rg4.w4_bar (Rg4.want_none rfl) rfl (fun w' hw' hcl' _ K hK => ?_); subst hw'; (refine owp_buildSlice (o := ⟨some 36, _, _, _, _, _⟩) rfl st ?_; apply Exists.intro; apply Exists.intro; apply Exists.intro; apply Exists.intro; refine ⟨?_, ?_⟩; (focus (go_simp; (first | done | exact ⟨⟨rfl, rfl⟩, rfl⟩ | rfl))); (clear st; intro b36 w hb st; clear hb); (try simp only [nsl, Value.cells, unB] at st); (try clear hc); have hc := st.facts; (try simp only [nfl, nft, Nat.reduceAdd] at hc)); refine hK _ _ ⟨st.blk (i := 1) get1, ?_⟩; (try simp only [Rg4.nrm]))
        refine Rg4.w4_bar (Rg4.want_none rfl) rfl (fun w' hw' hcl _ K hK => ?_)
        subst hw'
        go_wp2_with fail
        refine (HCG.out _ _ _ (fl_lit (α := CredT) (st.blk (i := 2) get2) [⟨k, (ho, hd), nw, (bo, bd), (co, cd), we⟩] rfl)).mono ?_
        rintro en w ⟨rfl, hx⟩
        replace st := st.ext hx
        clear hx
        (try clear hc); have hc := st.facts; (try simp only [nfl, nft, Nat.reduceAdd] at hc)
        refine hK _ _ ⟨st.blk (i := 1) get1, ?_⟩
        clear hK
        (try simp only [Rg4.nrm])
        iterate 3 (refine Rg4.w4_any (Rg4.want_none rfl) rfl ?_; apply Exists.intro; refine ⟨fun w' => ?_, ?_⟩; (focus (first | (go_simp; done) | (go_simp; first | rfl | (rw [if_neg] <;> first | rfl | omega) | (rw [if_pos] <;> first | rfl | omega)))); (try simp only [Rg4.nrm]))
        refine Rg4.w4_nil (fun w' hw' hcl' _ => ?_); subst hw'; clear hcl'
        go_wp2_with fail
        have st' := st.keep [0] (by decide) (by simp)
        go_roundg (n - (j + 1))
        case measure => omega
        case rel => exact ⟨j + 1, q + (wc + n1), by omega, by omega, by go_num, Lib.hid (by rw [HTK.out, HQ.out]), hq2, by go_num, by simpa [pick] using st'⟩
      · obtain rfl : j = n := by omega
        have hqw : q = wl := by
          have := HQ.out
          rw [List.take_of_length_le (by have := HN.out; omega), HWL.out] at this
          exact this
        subst hqw
        clear HT
        go_wp2_with fail
        go_ret
        exact ⟨rfl, st.ext0⟩
end Go.Proofs.Ythjaopojlhdjpaa

namespace Go.Proofs.Ythjaopojlhdjpaa
set_option linter.unusedSimpArgs false
set_option linter.unusedVariables false
open Go Go.RowKit
end Go.Proofs.Ythjaopojlhdjpaa

namespace Go.Proofs.Ythjaopojlhdjpaa
set_option linter.unusedSimpArgs false
set_option linter.unusedVariables false
open Go Go.RowKit
end Go.Proofs.Ythjaopojlhdjpaa

namespace Go.Proofs.Ythjaopojlhdjpaa
set_option linter.unusedSimpArgs false
set_option linter.unusedVariables false
open Go Go.RowKit
end Go.Proofs.Ythjaopojlhdjpaa

namespace Go.Proofs.Ythjaopojlhdjpaa
set_option linter.unusedSimpArgs false
set_option linter.unusedVariables false
open Go Go.RowKit
end Go.Proofs.Ythjaopojlhdjpaa

namespace Go.Proofs.Ythjaopojlhdjpaa
set_option linter.unusedSimpArgs false
set_option linter.unusedVariables false
open Go Go.RowKit
@[go_sem] theorem roleEq_self (x : Role) : roleEq x x = true := by rw [roleEq_eq]; simp
end Go.Proofs.Ythjaopojlhdjpaa

namespace Go.Proofs.Ythjaopojlhdjpaa.Rg4
set_option linter.unusedSimpArgs false
set_option linter.unusedVariables false
open Go Go.Proofs.Ythjaopojlhdjpaa.Rg
section
variable (P : Program) (ops : Array Oper) (T : Array Nat) (Rel : World → World → Prop) (ld : Nat → Bool) (Cl : World → Prop) (kd : Nat → Kd) (Q : Exit → Act → World → Prop)
/-- The walk up to a fork. -/
def wp5 (E : World → Facts → Act → Prop) : List (Nat × Oper) → World → Facts → Act → Prop
  | [], w0, F, a => E w0 F a
  | (k, o) :: rest, w0, F, a =>
    if Region.wanted o (yielded ops a.tmps) = true then
      match kd k with
      | .none => ∃ c, (∀ w, (ld k = true → Rel w0 w) → Cl w → stillAt P o a w c) ∧ wp5 E rest w0 F (a.put o.dst c)
      | .some (.some S) => (∀ w, Rel w0 w → Cl w → Pre ops T F k w → relAt P o a w (fun v w' => Rel w w' ∧ Cl w' ∧ S v w')) ∧
          ∀ v, (∃ w, Rel w0 w ∧ Cl w ∧ S v w) → wp5 E rest w0 (upd F k (S v)) (a.put o.dst v)
      | .some .none => ∀ w, Rel w0 w → Cl w → All F w → o.wp P a w (fun a' w' => Cl w' ∧ wp5 E rest w' none a') Q ∨ (o.asks P a w ∧ LetsOut Q)
    else wp5 E rest w0 F (a.put o.dst undef)
end
def lex5 (ops : Array Oper) (C : List Nat) (e : Array Bool → Bool) : List Nat → Array Bool → Bool
  | [], listed => e listed
  | k :: ks, listed => (if C.contains k then decide (Region.ready .any ops listed = [k]) else (Region.ready .any ops listed).contains k && Region.free .any ops listed k) && lex5 ops C e ks (listed.setIfInBounds k true)
section
variable {P : Program} {ops : Array Oper} {T : Array Nat} {Rel : World → World → Prop} {ld : Nat → Bool} {Cl : World → Prop} {kd : Nat → Kd} {Q : Exit → Act → World → Prop}
theorem kd_bar {C : List Nat} (hC : ∀ k, isC kd k = C.contains k) {i : Nat} (hkc : C.contains i = true) : kd i = .some .none := by
  have := hC i
  rw [hkc] at this
  unfold isC at this; revert this; cases kd i with
  | none => intro h; cases h
  | some x => cases x with
    | none => intro _; rfl
    | some S => intro h; cases h
theorem wpAny5_lex (htr : ∀ a b c, Rel a b → Rel b c → Rel a c) (hsp : ∀ k S, kd k = .some (.some S) → ∀ v w w', Rel w w' → S v w → S v w') (hB : befOk ops T = true)
    (hbar : ∀ i j, (isB kd i = true ∨ ld i = true) → isC kd j = true → bef ops T j i = true ∨ bef ops T i j = true) (hQ : ∀ c (a : Act) x v w, Q (.panic c) (a.put x v) w → Q (.panic c) a w)
    (C : List Nat) (hC : ∀ k, isC kd k = C.contains k) (hs : Region.noSelect ops = true) (e : Array Bool → Bool) (E : World → Facts → Act → Prop) (f0 : Nat)
    (hE : ∀ (listed : Array Bool) (w0 : World) (F : Facts) (a : Act), e listed = true → Closed ops T listed → StableF Rel F → E w0 F a → wpAny4 P ops T Rel ld Cl kd Q f0 listed w0 F a) :
    ∀ (l : List (Nat × Oper)) (listed : Array Bool) (w0 : World) (F : Facts) (a : Act), (∀ p ∈ l, ops[p.1]? = .some p.2) →
    lex5 ops C e (l.map (·.1)) listed = true → Closed ops T listed → StableF Rel F → wp5 P ops T Rel ld Cl kd Q E l w0 F a → wpAny4 P ops T Rel ld Cl kd Q (f0 + l.length) listed w0 F a
  | [], listed, w0, F, a, _, hL, hc, hst, h => hE listed w0 F a hL hc hst h
  | (k, o) :: l, listed, w0, F, a, hl, hL, hc, hst, h => by
    show wpAny4 P ops T Rel ld Cl kd Q ((f0 + l.length) + 1) listed w0 F a
    have h0 : ops[k]? = .some o := hl (k, o) (by simp)
    simp only [List.map_cons, lex5, Bool.and_eq_true] at hL
    obtain ⟨hL1, hL'⟩ := hL
    have hl' : ∀ p ∈ l, ops[p.1]? = .some p.2 := fun p hp => hl p (by simp [hp])
    by_cases hkc : C.contains k = true
    · rw [if_pos hkc, decide_eq_true_eq] at hL1
      have hr' : k ∈ Region.ready .any ops listed := by rw [hL1]; simp
      have IH := fun w0 F a hst h => wpAny5_lex htr hsp hB hbar hQ C hC hs e E f0 hE l (listed.setIfInBounds k true) w0 F a hl' hL' (closed_set hB hc hr') hst h
      intro hinh
      refine ⟨fun h => (by rw [hL1] at h; cases h), fun i hi => ?_⟩
      rw [hL1] at hi
      obtain rfl : i = k := by simpa using hi
      have hkk : kd i = .some .none := kd_bar hC hkc
      unfold op4
      unfold wp5 at h
      simp only [h0]
      by_cases hwant : Region.wanted o (yielded ops a.tmps) = true
      · simp only [hwant, if_true, hkk] at h ⊢
        intro w hw hcl hF
        exact (h w hw hcl hF).imp (Oper.wp_mono fun a' w' ⟨h1, h2⟩ => ⟨h1, IH w' none a' (fun _ _ _ _ _ => trivial) h2⟩) id
      · simp only [hwant] at h ⊢
        exact IH _ _ _ hst h
    · rw [if_neg hkc, Bool.and_eq_true] at hL1
      obtain ⟨hr, hf⟩ := hL1
      have hr' : k ∈ Region.ready .any ops listed := by simpa using hr
      have IH := fun w0 F a hst h => wpAny5_lex htr hsp hB hbar hQ C hC hs e E f0 hE l (listed.setIfInBounds k true) w0 F a hl' hL' (closed_set hB hc hr') hst h
      have hkc' : isC kd k = false := by rw [hC]; simpa using hkc
      refine wpAny4_first htr hsp hB hbar hQ h0 hkc' (Region.noSelect_spec hs) (f0 + l.length) listed w0 F a hst hc (Region.free_spec h0 hf) hr' ?_
      unfold op4
      unfold wp5 at h
      simp only [h0]
      by_cases hwant : Region.wanted o (yielded ops a.tmps) = true
      · simp only [hwant, if_true] at h ⊢
        cases hs : kd k with
        | none =>
          simp only [hs] at h ⊢
          obtain ⟨c, h1, h2⟩ := h
          exact ⟨c, h1, IH _ _ _ hst h2⟩
        | some k2 =>
          cases k2 with
          | none => unfold isC at hkc'; rw [hs] at hkc'; cases hkc'
          | some S =>
            simp only [hs] at h ⊢
            obtain ⟨h1, h2⟩ := h
            exact ⟨h1, fun v => wpAny4_of_inh fun ⟨w, hw, hcl, hF⟩ => IH _ _ _ (stable_upd hst (hsp k S hs v)) (h2 v ⟨w, hw, hcl, (hF k).2 rfl⟩)⟩
      · simp only [hwant] at h ⊢
        exact IH _ _ _ hst h
section steps
variable {E : World → Facts → Act → Prop} {w0 : World} {o : Oper} {rest : List (Nat × Oper)} {k : Nat} {F : Facts} {a : Act}
theorem w5_end (h : E w0 F a) : wp5 P ops T Rel ld Cl kd Q E [] w0 F a := h
theorem w5_pure (hw : Region.wanted o (yielded ops a.tmps) = true) (hs : kd k = .none) (h : ∃ c, (∀ w, (ld k = true → Rel w0 w) → Cl w → (execOp a.eval o).run P w = .ok (.value c) w) ∧ wp5 P ops T Rel ld Cl kd Q E rest w0 F (a.put o.dst c)) :
    wp5 P ops T Rel ld Cl kd Q E ((k, o) :: rest) w0 F a := by
  unfold wp5; rw [if_pos hw, hs]; exact h
theorem w5_any (hw : Region.wanted o (yielded ops a.tmps) = true) (hs : kd k = .none) (h : ∃ c, (∀ w, (execOp a.eval o).run P w = .ok (.value c) w) ∧ wp5 P ops T Rel ld Cl kd Q E rest w0 F (a.put o.dst c)) :
    wp5 P ops T Rel ld Cl kd Q E ((k, o) :: rest) w0 F a := w5_pure hw hs (let ⟨c, h1, h2⟩ := h; ⟨c, fun w _ _ => h1 w, h2⟩)
theorem w5_cl (hw : Region.wanted o (yielded ops a.tmps) = true) (hs : kd k = .none) (h : ∃ c, (∀ w, Cl w → (execOp a.eval o).run P w = .ok (.value c) w) ∧ wp5 P ops T Rel ld Cl kd Q E rest w0 F (a.put o.dst c)) :
    wp5 P ops T Rel ld Cl kd Q E ((k, o) :: rest) w0 F a := w5_pure hw hs (let ⟨c, h1, h2⟩ := h; ⟨c, fun w _ => h1 w, h2⟩)
end steps
end
section
open Go.RowKit
variable {fr al : Nat → Prop} {w0 w : World} {L : List It}
variable {P : Program} {ops : Array Oper} {T : Array Nat} {ld : Nat → Bool} {Cl : World → Prop} {kd : Nat → Kd} {Q : Exit → Act → World → Prop}
end
attribute [irreducible] wp5
end Go.Proofs.Ythjaopojlhdjpaa.Rg4

namespace Go.Proofs.Ythjaopojlhdjpaa.Rg4
set_option linter.unusedSimpArgs false
set_option linter.unusedVariables false
open Go Go.Proofs.Ythjaopojlhdjpaa.Rg
section
variable (P : Program) (ops : Array Oper) (T : Array Nat) (Rel : World → World → Prop) (ld : Nat → Bool) (Cl : World → Prop) (kd : Nat → Kd) (Q : Exit → Act → World → Prop)
end
section
variable {P : Program} {ops : Array Oper} {T : Array Nat} {Rel : World → World → Prop} {ld : Nat → Bool} {Cl : World → Prop} {kd : Nat → Kd} {Q : Exit → Act → World → Prop}
end
end Go.Proofs.Ythjaopojlhdjpaa.Rg4

namespace Go.Proofs.Ythjaopojlhdjpaa
set_option linter.unusedSimpArgs false
set_option linter.unusedVariables false
open Go Go.RowKit
section
variable {fr al : Nat → Prop} {w0 w : World} {L : List It}
end
end Go.Proofs.Ythjaopojlhdjpaa

namespace Go.Proofs.Ythjaopojlhdjpaa
set_option linter.unusedSimpArgs false
set_option linter.unusedVariables false
open Go Go.RowKit
/-- A guarded credential. -/
structure GuT where
  s : SgnT
  f : Fm
deriving Inhabited
def guC (x : GuT) : List Value := sgC x.s ++ fmC x.f
theorem fmC_len (f : Fm) : (fmC f).length = 5 := by cases f; rfl
theorem fmC_one (f : Fm) : ∀ u ∈ fmC f, u.oneCell' = true := Flt.one f
theorem sgC_one (s : SgnT) : ∀ u ∈ sgC s, u.oneCell' = true := Flt.one s
instance fltGu : Flt GuT := ⟨15, guC, fun x => by unfold guC; rw [List.length_append, fmC_len]; rfl, by decide, fun x u hu => by
  rcases List.mem_append.1 hu with h | h
  · exact sgC_one _ u h
  · exact fmC_one _ u h⟩
/-- An acknowledgement. -/
structure AckT where
  r : Role
  f : Fm
  a : Option Addr
  n : Nat
  c : Nat
  cs : List CredT
deriving Inhabited
def ackC (x : AckT) : List Value := [S x.r.1, S x.r.2] ++ fmC x.f ++ [.slice x.a x.n x.c]
instance fltAck : Flt AckT := ⟨8, ackC, fun x => by unfold ackC; rw [List.length_append, List.length_append, fmC_len]; rfl, by decide, fun x u hu => by
  unfold ackC at hu
  rw [List.mem_append, List.mem_append] at hu
  rcases hu with (h | h) | h
  · simp at h; rcases h with rfl | rfl <;> rfl
  · exact fmC_one _ u h
  · simp at h; subst h; rfl⟩
/-- A party. -/
structure PaT where
  nm : List UInt8
  ga : Option Addr
  gn : Nat
  gc : Nat
  gs : List GuT
  aa : Option Addr
  an : Nat
  ac : Nat
  ks : List AckT
deriving Inhabited
def paC (x : PaT) : List Value := [.string ⟨x.nm.toArray⟩, .slice x.ga x.gn x.gc, .slice x.aa x.an x.ac]
def paV (x : PaT) : Value := .agg #[.string ⟨x.nm.toArray⟩, .slice x.ga x.gn x.gc, .slice x.aa x.an x.ac]
instance fltPa : Flt PaT := ⟨3, paC, fun _ => rfl, by decide, fun x u hu => by simp [paC] at hu; rcases hu with rfl | rfl | rfl <;> rfl⟩
def GuOk (w : World) (x : GuT) : Prop := SgOk w x.s ∧ FmOk w x.f
def AckOk (w : World) (x : AckT) : Prop := FmOk w x.f ∧ (x.n ≤ x.c ∧ x.c ≤ maxLen) ∧ Fl w x.a x.n x.cs
def PaOk (w : World) (x : PaT) : Prop := ((x.gn ≤ x.gc ∧ x.gc ≤ maxLen) ∧ Fl w x.ga x.gn x.gs ∧ ∀ g ∈ x.gs, GuOk w g) ∧ ((x.an ≤ x.ac ∧ x.ac ≤ maxLen) ∧ Fl w x.aa x.an x.ks ∧ ∀ a ∈ x.ks, AckOk w a)
theorem GuOk.ext {w w' : World} {x : GuT} (h : GuOk w x) (hx : Ext w w') : GuOk w' x := ⟨h.1.ext hx, FmOk.ext h.2 hx⟩
theorem AckOk.ext {w w' : World} {x : AckT} (h : AckOk w x) (hx : Ext w w') : AckOk w' x := ⟨FmOk.ext h.1 hx, h.2.1, Arr.ext h.2.2 hx⟩
theorem PaOk.ext {w w' : World} {x : PaT} (h : PaOk w x) (hx : Ext w w') : PaOk w' x := ⟨⟨h.1.1, Arr.ext h.1.2.1 hx, fun g hg => (h.1.2.2 g hg).ext hx⟩, ⟨h.2.1, Arr.ext h.2.2.1 hx, fun g hg => (h.2.2.2 g hg).ext hx⟩⟩
/-- The cells of a guarded credential, of an acknowledgement. -/
theorem Fl.gu {w : World} {a : Option Addr} {n : Nat} {xs : List GuT} (h : Fl w a n xs) (h0 : 0 < n) : ∃ b off, a = some ⟨b, off, none⟩ ∧ ∀ (j : Nat) (c : CredT) sa sn sm sx op k r a' n' c' kids', xs[j]? = some ⟨⟨c, sa, sn, sm, sx⟩, .mk op k r a' n' c' kids'⟩ →
    (w.cell? ⟨b, off + j * 15, none⟩ = some (.int .i64 c.k) ∧ w.cell? ⟨b, off + j * 15 + 1, none⟩ = some (S c.h.1) ∧ w.cell? ⟨b, off + j * 15 + 2, none⟩ = some (S c.h.2) ∧ w.cell? ⟨b, off + j * 15 + 3, none⟩ = some (S c.w) ∧ w.cell? ⟨b, off + j * 15 + 4, none⟩ = some (S c.b.1) ∧ w.cell? ⟨b, off + j * 15 + 5, none⟩ = some (S c.b.2) ∧ w.cell? ⟨b, off + j * 15 + 6, none⟩ = some (S c.c.1) ∧ w.cell? ⟨b, off + j * 15 + 7, none⟩ = some (S c.c.2) ∧ w.cell? ⟨b, off + j * 15 + 8, none⟩ = some (S c.e) ∧ w.cell? ⟨b, off + j * 15 + 9, none⟩ = some (.slice sa sn sm)) ∧
    (w.cell? ⟨b, off + j * 15 + 10, none⟩ = some (.int .i64 op) ∧ w.cell? ⟨b, off + j * 15 + 11, none⟩ = some (.int .i64 k) ∧ w.cell? ⟨b, off + j * 15 + 12, none⟩ = some (S r.1) ∧ w.cell? ⟨b, off + j * 15 + 13, none⟩ = some (S r.2) ∧ w.cell? ⟨b, off + j * 15 + 14, none⟩ = some (.slice a' n' c')) := by
  obtain ⟨b, off, rfl, hc⟩ := h.2 h0
  exact ⟨b, off, rfl, fun j c sa sn sm sx op k r a' n' c' kids' hj => ⟨⟨hc j _ hj 0 _ rfl, hc j _ hj 1 _ rfl, hc j _ hj 2 _ rfl, hc j _ hj 3 _ rfl, hc j _ hj 4 _ rfl, hc j _ hj 5 _ rfl, hc j _ hj 6 _ rfl, hc j _ hj 7 _ rfl, hc j _ hj 8 _ rfl, hc j _ hj 9 _ rfl⟩, ⟨hc j _ hj 10 _ rfl, hc j _ hj 11 _ rfl, hc j _ hj 12 _ rfl, hc j _ hj 13 _ rfl, hc j _ hj 14 _ rfl⟩⟩⟩
theorem Fl.ack {w : World} {a : Option Addr} {n : Nat} {xs : List AckT} (h : Fl w a n xs) (h0 : 0 < n) : ∃ b off, a = some ⟨b, off, none⟩ ∧ ∀ (j : Nat) (q : Role) op k r a' n' c' kids' ca cn cc cs, xs[j]? = some ⟨q, .mk op k r a' n' c' kids', ca, cn, cc, cs⟩ →
    w.cell? ⟨b, off + j * 8, none⟩ = some (S q.1) ∧ w.cell? ⟨b, off + j * 8 + 1, none⟩ = some (S q.2) ∧ w.cell? ⟨b, off + j * 8 + 2, none⟩ = some (.int .i64 op) ∧ w.cell? ⟨b, off + j * 8 + 3, none⟩ = some (.int .i64 k) ∧ w.cell? ⟨b, off + j * 8 + 4, none⟩ = some (S r.1) ∧ w.cell? ⟨b, off + j * 8 + 5, none⟩ = some (S r.2) ∧ w.cell? ⟨b, off + j * 8 + 6, none⟩ = some (.slice a' n' c') ∧ w.cell? ⟨b, off + j * 8 + 7, none⟩ = some (.slice ca cn cc) := by
  obtain ⟨b, off, rfl, hc⟩ := h.2 h0
  exact ⟨b, off, rfl, fun j q op k r a' n' c' kids' ca cn cc cs hj => ⟨hc j _ hj 0 _ rfl, hc j _ hj 1 _ rfl, hc j _ hj 2 _ rfl, hc j _ hj 3 _ rfl, hc j _ hj 4 _ rfl, hc j _ hj 5 _ rfl, hc j _ hj 6 _ rfl, hc j _ hj 7 _ rfl⟩⟩
/-- The formulas of a party. -/
def paF (p : PaT) : List Fo := p.gs.map (fun g => g.f.strip) ++ p.ks.map (fun a => a.f.strip)
/-- Formulas are small. -/
def FsL (l : List Fo) : Prop := nodesL l ≤ 100000 ∧ ∀ f ∈ l, FoL 100000 f
theorem nodesL_append : ∀ (l m : List Fo), nodesL (l ++ m) = nodesL l + nodesL m
  | [], m => by simp [nodesL]
  | x :: l, m => by rw [List.cons_append, nodesL, nodesL_append l m, nodesL]; omega
/-- Sets of each, one behind another. -/
def setsL (l : List Fo) : List Role := l.flatMap fun f => roleSet f.atoms
theorem setsL_snoc (l : List Fo) (f : Fo) : setsL (l ++ [f]) = setsL l ++ roleSet f.atoms := by simp [setsL]
theorem setsL_append (l m : List Fo) : setsL (l ++ m) = setsL l ++ setsL m := by simp [setsL]
theorem setsL_len (l : List Fo) : (setsL l).length ≤ nodesL l := by
  induction l with
  | nil => simp [setsL]
  | cons x l ih =>
    have h1 := roleSet_len x.atoms
    have h2 := atoms_nodes x
    have e : setsL (x :: l) = roleSet x.atoms ++ setsL l := by simp [setsL]
    rw [e, nodesL, List.length_append]
    omega
theorem setsL_L {l : List Fo} (h : ∀ f ∈ l, FoL 100000 f) : ∀ r ∈ setsL l, r.1.length ≤ 100000 ∧ r.2.length ≤ 100000 := by
  intro r hr
  obtain ⟨f, hf, hr2⟩ := List.mem_flatMap.1 hr
  exact (h f hf).atoms r (((roleSet_set f.atoms).2 r).1 hr2).1
theorem FsL.sub {l m : List Fo} (h : FsL (l ++ m)) : FsL l ∧ FsL m := by
  obtain ⟨h1, h2⟩ := h
  rw [nodesL_append] at h1
  exact ⟨⟨by omega, fun f hf => h2 f (List.mem_append_left _ hf)⟩, ⟨by omega, fun f hf => h2 f (List.mem_append_right _ hf)⟩⟩
end Go.Proofs.Ythjaopojlhdjpaa

namespace Go.Proofs.Ythjaopojlhdjpaa
set_option linter.unusedSimpArgs false
set_option linter.unusedVariables false
open Go Go.RowKit
theorem paF_def (p : PaT) : paF p = p.gs.map (fun g => g.f.strip) ++ p.ks.map (fun a => a.f.strip) := rfl
theorem snoc_of {α : Type} (f : α → Fo) (l : List α) (j : Nat) (h : j < l.length) : (l.take (j + 1)).map f = (l.take j).map f ++ [f l[j]] := by
  rw [← List.take_append_getElem h, List.map_append]; rfl
theorem setsL_take_le {α : Type} (f : α → Fo) (l : List α) (j : Nat) : (setsL ((l.take j).map f)).length ≤ nodesL (l.map f) := by
  have h1 := setsL_len ((l.take j).map f)
  have h2 := nodesL_take (l.map f) j
  rw [← List.map_take] at h2
  omega
set_option maxRecDepth 100000 in
set_option maxHeartbeats 1000000 in
theorem capsRoom_any (p : PaT) (W : World) : Calls Try.prog 31 #[paV p] W fun e w' => e = .returned (.int .i64 (p.gn : Int)) ∧ Ext W w' := by
  obtain ⟨nm, ga, gn, gc, gs, aa, an, ac, ks⟩ := p
  have st := Own.startOld W
  unfold paV
  simp only
  (try simp only [nsl, Value.cells, unB] at st)
  (try clear hc); have hc := st.facts; (try simp only [nfl, nft, Nat.reduceAdd] at hc)
  go_enter Try.func31, Try.ntmps31
  go_wp2_with ((((with_reducible refine wl_box ?_ (fun K hK => ?_)); rfl; refine owp_box (o := ⟨some 1, _, _, _, _, _⟩) rfl st ?_; apply Exists.intro; refine ⟨?_, ?_⟩; (focus (go_simp; try rfl)); (clear st; intro b1 w hb st; clear hb))); (try simp only [nsl, Value.cells, unB] at st); (try clear hc); have hc := st.facts; (try simp only [nfl, nft, Nat.reduceAdd] at hc))
  go_ret
  exact ⟨rfl, st.ext0⟩
set_option maxRecDepth 100000 in
set_option maxHeartbeats 8000000 in
theorem capsAtoms_f (p : PaT) (fa : Option Addr) (fn fc : Nat) (fl : List Fm) (W : World) (hp : PaOk W p) (hf : Fl W fa fn fl) (hk : ∀ x ∈ fl, FmOk W x) (hs : FsL (paF p ++ fl.map Fm.strip)) :
    Calls Try.prog 27 #[paV p, .slice fa fn fc] W fun e w' => ∃ va vc, e = .returned (.slice va (roleSet (setsL (paF p ++ fl.map Fm.strip))).length vc) ∧ Fl w' va (roleSet (setsL (paF p ++ fl.map Fm.strip))).length (roleSet (setsL (paF p ++ fl.map Fm.strip))) ∧ Ext W w' := by
  have HW : Hid (setsL (p.gs.map (fun g => g.f.strip)) ++ setsL (p.ks.map (fun a => a.f.strip)) ++ setsL (fl.map Fm.strip) = setsL (paF p ++ fl.map Fm.strip)) := Lib.hid (by rw [paF_def, setsL_append, setsL_append])
  have hbig : ∀ r ∈ setsL (paF p ++ fl.map Fm.strip), r.1.length ≤ 100000 ∧ r.2.length ≤ 100000 := setsL_L hs.2
  have HRL := Lib.hid hbig
  have hn1 := hs.1
  rw [nodesL_append, paF_def, nodesL_append] at hn1
  have hfl : (∀ g ∈ p.gs, FoL 100000 g.f.strip) ∧ (∀ a ∈ p.ks, FoL 100000 a.f.strip) ∧ (∀ f ∈ fl, FoL 100000 f.strip) :=
    ⟨fun g hg => hs.2 _ (List.mem_append_left _ (List.mem_append_left _ (List.mem_map.2 ⟨g, hg, rfl⟩))), fun a ha => hs.2 _ (List.mem_append_left _ (List.mem_append_right _ (List.mem_map.2 ⟨a, ha, rfl⟩))), fun f hf => hs.2 _ (List.mem_append_right _ (List.mem_map.2 ⟨f, hf, rfl⟩))⟩
  have HFL := Lib.hid hfl
  have HP := Lib.hid hp
  have HF := Lib.hid hf
  have HK := Lib.hid hk
  have HNN := Lib.hid hn1
  have HN1 : Hid (p.gn = p.gs.length) := Lib.hid hp.1.2.1.1
  have HN2 : Hid (p.an = p.ks.length) := Lib.hid hp.2.2.1.1
  have HN3 : Hid (fn = fl.length) := Lib.hid hf.1
  have hg1 : p.gn ≤ 100000 := by have := nodesL_len (p.gs.map (fun g => g.f.strip)); rw [List.length_map] at this; have := hp.1.2.1.1; omega
  have hg2 : p.an ≤ 100000 := by have := nodesL_len (p.ks.map (fun a => a.f.strip)); rw [List.length_map] at this; have := hp.2.2.1.1; omega
  have hg3 : fn ≤ 100000 := by have := nodesL_len (fl.map Fm.strip); rw [List.length_map] at this; have := hf.1; omega
  obtain ⟨res, hres⟩ : ∃ r, setsL (paF p ++ fl.map Fm.strip) = r := ⟨_, rfl⟩
  rw [hres] at HW HRL ⊢
  have HRS : Hid (∀ rs, rs = roleSet res → rs = roleSet res) := Lib.hid (fun _ h => h)
  clear HRS
  obtain ⟨rs, hrs⟩ : ∃ l, roleSet res = l := ⟨_, rfl⟩
  rw [hrs]
  have HRS := Lib.hid hrs
  obtain ⟨ln, hln⟩ : ∃ l, rs.length = l := ⟨_, rfl⟩
  rw [hln]
  have HLN := Lib.hid hln
  clear hp hf hk hs hbig hn1 hfl hres hln hrs
  obtain ⟨nm, ga, gn, gc, gs, aa, an, ac, ks⟩ := p
  simp only at HW HFL HNN HN1 HN2 hg1 hg2
  have st := Own.start (fun _ => False) (fun _ => False) W
  unfold paV
  simp only
  (try simp only [nsl, Value.cells, unB] at st)
  (try clear hc); have hc := st.facts; (try simp only [nfl, nft, Nat.reduceAdd] at hc)
  go_enter Try.func27, Try.ntmps27
  go_wp2_with ((first
        | ((with_reducible refine wl_box ?_ (fun K hK => ?_)); rfl; refine owp_box (o := ⟨some 2, _, _, _, _, _⟩) rfl st ?_; apply Exists.intro; refine ⟨?_, ?_⟩; (focus (go_simp; try rfl)); (clear st; intro b2 w hb st; clear hb))
        | ((with_reducible refine wl_alloc ?_ (fun K hK => ?_)); rfl; refine owp_alloc (o := ⟨some 7, _, _, _, _, _⟩) rfl st ?_; apply Exists.intro; apply Exists.intro; refine ⟨?_, ?_⟩; (focus (first | (go_simp; done) | (go_simp; rfl))); (clear st; intro b7 w hb st; clear hb))
        | ((with_reducible refine wl_store ?_ (fun K hK => ?_)); rfl; refine owp_store rfl st ?_; apply Exists.intro; apply Exists.intro; refine ⟨?_, ?_, ?_⟩; (focus (go_simp; try rfl)); (focus (go_simp; try rfl)); (first | (with_reducible refine ⟨0, _, _, _, _, get0, rfl, rfl, ?_, ?_, ?_, ?_⟩) | (with_reducible refine ⟨1, _, _, _, _, get1, rfl, rfl, ?_, ?_, ?_, ?_⟩) | (with_reducible refine ⟨2, _, _, _, _, get2, rfl, rfl, ?_, ?_, ?_, ?_⟩) | (with_reducible refine ⟨3, _, _, _, _, get3, rfl, rfl, ?_, ?_, ?_, ?_⟩) | (with_reducible refine ⟨4, _, _, _, _, get4, rfl, rfl, ?_, ?_, ?_, ?_⟩) | (with_reducible refine ⟨5, _, _, _, _, get5, rfl, rfl, ?_, ?_, ?_, ?_⟩)); (kernel_rfl); (simp [Value.cells]); (rfl); (clear st; intro w st))
        | ((with_reducible refine wl_alloc ?_ (fun K hK => ?_)); rfl; refine owp_alloc (o := ⟨some 9, _, _, _, _, _⟩) rfl st ?_; apply Exists.intro; apply Exists.intro; refine ⟨?_, ?_⟩; (focus (first | (go_simp; done) | (go_simp; rfl))); (clear st; intro b9 w hb st; clear hb))
        | ((with_reducible refine wl_alloc ?_ (fun K hK => ?_)); rfl; refine owp_alloc (o := ⟨some 11, _, _, _, _, _⟩) rfl st ?_; apply Exists.intro; apply Exists.intro; refine ⟨?_, ?_⟩; (focus (first | (go_simp; done) | (go_simp; rfl))); (clear st; intro b11 w hb st; clear hb))); (try simp only [nsl, Value.cells, unB] at st); (try clear hc); have hc := st.facts; (try simp only [nfl, nft, Nat.reduceAdd] at hc))
  replace st := st.row_nil 23 2
  simp only [List.cons_append, List.nil_append] at st
  (try simp only [nsl, Value.cells, unB] at st)
  (try clear hc); have hc := st.facts; (try simp only [nfl, nft, Nat.reduceAdd] at hc)
  go_loopg [5, 15] gn (fun q ov i wr => ∃ (j r : Nat) (xs : List Role), j ≤ gn ∧ q = gn - j ∧ i = .int .i64 (j : Int) ∧ r ≤ 100000 ∧ Hid (xs = setsL ((gs.take j).map (fun g => g.f.strip))) ∧ Hid (r = xs.length) ∧ Own (fun _ => False) (fun _ => False) W [blkI b2 [.string ⟨nm.toArray⟩, .slice ga gn gc, .slice aa an ac], rowI 23 2 ov r (cellsL xs)] wr)
  case atStart => exact ⟨0, 0, [], by omega, by omega, rfl, by omega, Lib.hid (by simp [setsL]), Lib.hid rfl, by simpa [cellsL] using st⟩
  case round =>
    obtain ⟨j, r, xs, hj, rfl, rfl, hr, HX, HR, st'⟩ := hrel
    clear st hc
    have st := st'
    clear st'
    obtain ⟨oa, oc, rfl⟩ := own_slice (st.row (i := 1) get1)
    by_cases hjn : j < gn
    · obtain ⟨b, off, ha, hcell⟩ := Fl.gu (a := ga) (n := gn) (xs := gs) (HP.out.ext st.ext0).1.2.1 (by omega)
      have hjl : j < gs.length := by have := HN1.out; omega
      have hsn := snoc_of (fun g : GuT => g.f.strip) gs j hjl
      have hgt := List.getElem?_eq_getElem hjl
      have hok := (HP.out.1.2.2 _ (List.getElem_mem hjl)).2
      have hl5 := HFL.out.1 _ (List.getElem_mem hjl)
      have hle := setsL_take_le (fun g : GuT => g.f.strip) gs (j + 1)
      have hnd := nodesL_mem (gs.map (fun g => g.f.strip)) (gs[j].f.strip) (List.mem_map.2 ⟨_, List.getElem_mem hjl, rfl⟩)
      have hnn := HNN.out
      rw [hsn, setsL_snoc, ← HX.out, List.length_append, ← HR.out] at hle
      generalize gs[j] = x at *
      obtain ⟨⟨cx, sa, sn, sm, sx⟩, fx⟩ := x
      simp only at hok hl5 hsn hle hnd
      have HC := Lib.hid (fun W' (hx : Ext W W') => fmAtoms_f fx W' (hok.ext hx) (by omega) hl5)
      have HX2 : Hid (xs ++ roleSet fx.strip.atoms = setsL ((gs.take (j + 1)).map (fun g => g.f.strip))) := Lib.hid (by rw [hsn, setsL_snoc, HX.out])
      obtain ⟨ys, hys⟩ : ∃ y, roleSet fx.strip.atoms = y := ⟨_, rfl⟩
      rw [hys] at HC HX2 hle
      obtain ⟨m, hm⟩ : ∃ m, ys.length = m := ⟨_, rfl⟩
      rw [hm] at HC hle
      have HM := Lib.hid hm
      have hrm : r + m ≤ 100000 := by omega
      clear hsn hok hl5 hle hnd hnn hys hm hjl
      obtain ⟨ck, ⟨ho, hd⟩, nw, ⟨bo, bd⟩, ⟨co, cd⟩, we⟩ := cx
      obtain ⟨op, k, ⟨o, d⟩, a', n', c', kids⟩ := fx
      obtain ⟨⟨r0, r1, r2, r3, r4, r5, r6, r7, r8, r9⟩, s0, s1, s2, s3, s4⟩ := hcell j _ sa sn sm sx op k (o, d) a' n' c' kids hgt
      clear hcell hgt
      subst ha
      unfold fmV S at HC
      unfold S at r1 r2 r3 r4 r5 r6 r7 r8 s2 s3
      simp only at HC r0 r1 r2 r3 r4 r5 r6 r7 r8 s2 s3
      (try simp only [nsl, Value.cells, unB] at st)
      (try clear hc); have hc := st.facts; (try simp only [nfl, nft, Nat.reduceAdd] at hc)
      go_wp2_with ((first
            | ((with_reducible refine wl_box ?_ (fun K hK => ?_)); rfl; refine owp_box (o := ⟨some 2, _, _, _, _, _⟩) rfl st ?_; apply Exists.intro; refine ⟨?_, ?_⟩; (focus (go_simp; try rfl)); (clear st; intro b2 w hb st; clear hb))
            | ((with_reducible refine wl_alloc ?_ (fun K hK => ?_)); rfl; refine owp_alloc (o := ⟨some 7, _, _, _, _, _⟩) rfl st ?_; apply Exists.intro; apply Exists.intro; refine ⟨?_, ?_⟩; (focus (first | (go_simp; done) | (go_simp; rfl))); (clear st; intro b7 w hb st; clear hb))
            | ((with_reducible refine wl_store ?_ (fun K hK => ?_)); rfl; refine owp_store rfl st ?_; apply Exists.intro; apply Exists.intro; refine ⟨?_, ?_, ?_⟩; (focus (go_simp; try rfl)); (focus (go_simp; try rfl)); (first | (with_reducible refine ⟨0, _, _, _, _, get0, rfl, rfl, ?_, ?_, ?_, ?_⟩) | (with_reducible refine ⟨1, _, _, _, _, get1, rfl, rfl, ?_, ?_, ?_, ?_⟩) | (with_reducible refine ⟨2, _, _, _, _, get2, rfl, rfl, ?_, ?_, ?_, ?_⟩) | (with_reducible refine ⟨3, _, _, _, _, get3, rfl, rfl, ?_, ?_, ?_, ?_⟩) | (with_reducible refine ⟨4, _, _, _, _, get4, rfl, rfl, ?_, ?_, ?_, ?_⟩) | (with_reducible refine ⟨5, _, _, _, _, get5, rfl, rfl, ?_, ?_, ?_, ?_⟩)); (kernel_rfl); (simp [Value.cells]); (rfl); (clear st; intro w st))
            | ((with_reducible refine wl_alloc ?_ (fun K hK => ?_)); rfl; refine owp_alloc (o := ⟨some 9, _, _, _, _, _⟩) rfl st ?_; apply Exists.intro; apply Exists.intro; refine ⟨?_, ?_⟩; (focus (first | (go_simp; done) | (go_simp; rfl))); (clear st; intro b9 w hb st; clear hb))
            | ((with_reducible refine wl_alloc ?_ (fun K hK => ?_)); rfl; refine owp_alloc (o := ⟨some 11, _, _, _, _, _⟩) rfl st ?_; apply Exists.intro; apply Exists.intro; refine ⟨?_, ?_⟩; (focus (first | (go_simp; done) | (go_simp; rfl))); (clear st; intro b11 w hb st; clear hb))); (try simp only [nsl, Value.cells, unB] at st); (try clear hc); have hc := st.facts; (try simp only [nfl, nft, Nat.reduceAdd] at hc))
      clear r0 r1 r2 r3 r4 r5 r6 r7 r8 r9 s0 s1 s2 s3 s4
      refine (HC.out _ st.ext0).mono ?_
      rintro en w ⟨ra, rc, rfl, h2⟩
      replace st := st.join h2
      clear h2
      simp only [List.cons_append, List.nil_append] at st
      (try simp only [nsl, Value.cells, unB] at st)
      (try clear hc); have hc := st.facts; (try simp only [nfl, nft, Nat.reduceAdd] at hc)
      go_wp2_with (first
          | ((with_reducible refine wl_append ?_ (fun K hK => ?_)); (rfl); (obtain ⟨inf, hinf, hz0, hz1, hz2⟩ := roleInfo); (refine owp_append rfl st 1 get1 Try.underlying37 hinf hz0 hz1 hz2 rfl (by decide) rfl rfl ((rowFl' (α := Role) st (i := 3) get3).2.flat) (by first | exact cellsL_all _ | simp [Value.oneCell']) (by simp only [maxLen]; omega) (by omega) ?_); (clear hinf hz0 hz1 hz2 inf); (clear st; intro v' w st); (obtain ⟨va', vc', rfl⟩ := own_slice (st.row (i := 1) get1)); (try simp only [nsl, Value.cells, unB] at st); (try simp only [Nat.zero_add] at st); (try clear hc); have hc := st.facts; (try simp only [nfl, nft, Nat.reduceAdd] at hc))
          | ((first
            | ((with_reducible refine wl_box ?_ (fun K hK => ?_)); rfl; refine owp_box (o := ⟨some 2, _, _, _, _, _⟩) rfl st ?_; apply Exists.intro; refine ⟨?_, ?_⟩; (focus (go_simp; try rfl)); (clear st; intro b2 w hb st; clear hb))
            | ((with_reducible refine wl_alloc ?_ (fun K hK => ?_)); rfl; refine owp_alloc (o := ⟨some 7, _, _, _, _, _⟩) rfl st ?_; apply Exists.intro; apply Exists.intro; refine ⟨?_, ?_⟩; (focus (first | (go_simp; done) | (go_simp; rfl))); (clear st; intro b7 w hb st; clear hb))
            | ((with_reducible refine wl_store ?_ (fun K hK => ?_)); rfl; refine owp_store rfl st ?_; apply Exists.intro; apply Exists.intro; refine ⟨?_, ?_, ?_⟩; (focus (go_simp; try rfl)); (focus (go_simp; try rfl)); (first | (with_reducible refine ⟨0, _, _, _, _, get0, rfl, rfl, ?_, ?_, ?_, ?_⟩) | (with_reducible refine ⟨1, _, _, _, _, get1, rfl, rfl, ?_, ?_, ?_, ?_⟩) | (with_reducible refine ⟨2, _, _, _, _, get2, rfl, rfl, ?_, ?_, ?_, ?_⟩) | (with_reducible refine ⟨3, _, _, _, _, get3, rfl, rfl, ?_, ?_, ?_, ?_⟩) | (with_reducible refine ⟨4, _, _, _, _, get4, rfl, rfl, ?_, ?_, ?_, ?_⟩) | (with_reducible refine ⟨5, _, _, _, _, get5, rfl, rfl, ?_, ?_, ?_, ?_⟩)); (kernel_rfl); (simp [Value.cells]); (rfl); (clear st; intro w st))
            | ((with_reducible refine wl_alloc ?_ (fun K hK => ?_)); rfl; refine owp_alloc (o := ⟨some 9, _, _, _, _, _⟩) rfl st ?_; apply Exists.intro; apply Exists.intro; refine ⟨?_, ?_⟩; (focus (first | (go_simp; done) | (go_simp; rfl))); (clear st; intro b9 w hb st; clear hb))
            | ((with_reducible refine wl_alloc ?_ (fun K hK => ?_)); rfl; refine owp_alloc (o := ⟨some 11, _, _, _, _, _⟩) rfl st ?_; apply Exists.intro; apply Exists.intro; refine ⟨?_, ?_⟩; (focus (first | (go_simp; done) | (go_simp; rfl))); (clear st; intro b11 w hb st; clear hb))); (try simp only [nsl, Value.cells, unB] at st); (try clear hc); have hc := st.facts; (try simp only [nfl, nft, Nat.reduceAdd] at hc)))
      have st' := st.keep [0, 1] (by decide) (by simp)
      have HR2 : Hid (r + m = (xs ++ ys).length) := Lib.hid (by rw [List.length_append, HR.out, HM.out])
      go_roundg (gn - (j + 1))
      case measure => omega
      case rel => exact ⟨j + 1, r + m, xs ++ ys, by omega, by omega, by go_num, hrm, HX2, HR2, by rw [cellsL_append]; simpa [pick] using st'⟩
    · obtain rfl : gn = j := by omega
      have HE1 : Hid (xs = setsL (gs.map (fun g => g.f.strip))) := Lib.hid (by rw [HX.out, List.take_of_length_le (by have := HN1.out; omega)])
      have HB1 : Hid (r ≤ nodesL (gs.map (fun g => g.f.strip))) := Lib.hid (by rw [HR.out, HE1.out]; exact setsL_len _)
      have HX1 := HX
      clear HX
      (try simp only [nsl, Value.cells, unB] at st)
      (try clear hc); have hc := st.facts; (try simp only [nfl, nft, Nat.reduceAdd] at hc)
      go_wp2_with fail
      go_loopg [5, 28] an (fun q ov i wr => ∃ (j r2 : Nat) (zs : List Role), j ≤ an ∧ q = an - j ∧ i = .int .i64 (j : Int) ∧ r2 ≤ 100000 ∧ Hid (zs = xs ++ setsL ((ks.take j).map (fun a => a.f.strip))) ∧ Hid (r2 = zs.length) ∧ Own (fun _ => False) (fun _ => False) W [blkI b2 [.string ⟨nm.toArray⟩, .slice ga gn gc, .slice aa an ac], rowI 23 2 ov r2 (cellsL zs)] wr)
      case atStart => exact ⟨0, r, xs, by omega, by omega, rfl, hr, Lib.hid (by simp [setsL]), HR, st⟩
      case round =>
        obtain ⟨j, r2, zs, hj, rfl, rfl, hr2, HZ, HR2, st'⟩ := hrel
        clear st hc
        have st := st'
        clear st'
        obtain ⟨oa2, oc2, rfl⟩ := own_slice (st.row (i := 1) get1)
        by_cases hjn2 : j < an
        · obtain ⟨b, off, ha, hcell⟩ := Fl.ack (a := aa) (n := an) (xs := ks) (HP.out.ext st.ext0).2.2.1 (by omega)
          have hjl : j < ks.length := by have := HN2.out; omega
          have hsn := snoc_of (fun a : AckT => a.f.strip) ks j hjl
          have hgt := List.getElem?_eq_getElem hjl
          have hok := (HP.out.2.2.2 _ (List.getElem_mem hjl)).1
          have hl5 := HFL.out.2.1 _ (List.getElem_mem hjl)
          have hle := setsL_take_le (fun a : AckT => a.f.strip) ks (j + 1)
          have hnd := nodesL_mem (ks.map (fun a => a.f.strip)) (ks[j].f.strip) (List.mem_map.2 ⟨_, List.getElem_mem hjl, rfl⟩)
          have hnn := HNN.out
          have hb1 := HB1.out
          have hz := HR2.out
          rw [HZ.out, List.length_append, ← HR.out] at hz
          rw [hsn, setsL_snoc, List.length_append] at hle
          generalize ks[j] = x at *
          obtain ⟨qr, fx, ca, cn, cc, cs⟩ := x
          simp only at hok hl5 hsn hle hnd
          have HC := Lib.hid (fun W' (hx : Ext W W') => fmAtoms_f fx W' (hok.ext hx) (by omega) hl5)
          have HZ2 : Hid (zs ++ roleSet fx.strip.atoms = xs ++ setsL ((ks.take (j + 1)).map (fun a => a.f.strip))) := Lib.hid (by rw [hsn, setsL_snoc, HZ.out, List.append_assoc])
          obtain ⟨ys, hys⟩ : ∃ y, roleSet fx.strip.atoms = y := ⟨_, rfl⟩
          rw [hys] at HC HZ2 hle
          obtain ⟨m, hm⟩ : ∃ m, ys.length = m := ⟨_, rfl⟩
          rw [hm] at HC hle
          have HM := Lib.hid hm
          have hrm : r2 + m ≤ 100000 := by omega
          clear hsn hok hl5 hle hnd hnn hys hm hjl hb1 hz
          obtain ⟨op, k, ⟨o, d⟩, a', n', c', kids⟩ := fx
          obtain ⟨qo, qd⟩ := qr
          obtain ⟨r0, r1, s0, s1, s2, s3, s4, s5⟩ := hcell j (qo, qd) op k (o, d) a' n' c' kids ca cn cc cs hgt
          clear hcell hgt
          subst ha
          unfold fmV S at HC
          unfold S at r0 r1 s2 s3
          simp only at HC r0 r1 s2 s3
          (try simp only [nsl, Value.cells, unB] at st)
          (try clear hc); have hc := st.facts; (try simp only [nfl, nft, Nat.reduceAdd] at hc)
          go_wp2_with ((first
                | ((with_reducible refine wl_box ?_ (fun K hK => ?_)); rfl; refine owp_box (o := ⟨some 2, _, _, _, _, _⟩) rfl st ?_; apply Exists.intro; refine ⟨?_, ?_⟩; (focus (go_simp; try rfl)); (clear st; intro b2 w hb st; clear hb))
                | ((with_reducible refine wl_alloc ?_ (fun K hK => ?_)); rfl; refine owp_alloc (o := ⟨some 7, _, _, _, _, _⟩) rfl st ?_; apply Exists.intro; apply Exists.intro; refine ⟨?_, ?_⟩; (focus (first | (go_simp; done) | (go_simp; rfl))); (clear st; intro b7 w hb st; clear hb))
                | ((with_reducible refine wl_store ?_ (fun K hK => ?_)); rfl; refine owp_store rfl st ?_; apply Exists.intro; apply Exists.intro; refine ⟨?_, ?_, ?_⟩; (focus (go_simp; try rfl)); (focus (go_simp; try rfl)); (first | (with_reducible refine ⟨0, _, _, _, _, get0, rfl, rfl, ?_, ?_, ?_, ?_⟩) | (with_reducible refine ⟨1, _, _, _, _, get1, rfl, rfl, ?_, ?_, ?_, ?_⟩) | (with_reducible refine ⟨2, _, _, _, _, get2, rfl, rfl, ?_, ?_, ?_, ?_⟩) | (with_reducible refine ⟨3, _, _, _, _, get3, rfl, rfl, ?_, ?_, ?_, ?_⟩) | (with_reducible refine ⟨4, _, _, _, _, get4, rfl, rfl, ?_, ?_, ?_, ?_⟩) | (with_reducible refine ⟨5, _, _, _, _, get5, rfl, rfl, ?_, ?_, ?_, ?_⟩)); (kernel_rfl); (simp [Value.cells]); (rfl); (clear st; intro w st))
                | ((with_reducible refine wl_alloc ?_ (fun K hK => ?_)); rfl; refine owp_alloc (o := ⟨some 9, _, _, _, _, _⟩) rfl st ?_; apply Exists.intro; apply Exists.intro; refine ⟨?_, ?_⟩; (focus (first | (go_simp; done) | (go_simp; rfl))); (clear st; intro b9 w hb st; clear hb))
                | ((with_reducible refine wl_alloc ?_ (fun K hK => ?_)); rfl; refine owp_alloc (o := ⟨some 11, _, _, _, _, _⟩) rfl st ?_; apply Exists.intro; apply Exists.intro; refine ⟨?_, ?_⟩; (focus (first | (go_simp; done) | (go_simp; rfl))); (clear st; intro b11 w hb st; clear hb))); (try simp only [nsl, Value.cells, unB] at st); (try clear hc); have hc := st.facts; (try simp only [nfl, nft, Nat.reduceAdd] at hc))
          clear r0 r1 s0 s1 s2 s3 s4 s5
          refine (HC.out _ st.ext0).mono ?_
          rintro en w ⟨ra, rc, rfl, h2⟩
          replace st := st.join h2
          clear h2
          simp only [List.cons_append, List.nil_append] at st
          (try simp only [nsl, Value.cells, unB] at st)
          (try clear hc); have hc := st.facts; (try simp only [nfl, nft, Nat.reduceAdd] at hc)
          go_wp2_with (first
              | ((with_reducible refine wl_append ?_ (fun K hK => ?_)); (rfl); (obtain ⟨inf, hinf, hz0, hz1, hz2⟩ := roleInfo); (refine owp_append rfl st 1 get1 Try.underlying37 hinf hz0 hz1 hz2 rfl (by decide) rfl rfl ((rowFl' (α := Role) st (i := 3) get3).2.flat) (by first | exact cellsL_all _ | simp [Value.oneCell']) (by simp only [maxLen]; omega) (by omega) ?_); (clear hinf hz0 hz1 hz2 inf); (clear st; intro v' w st); (obtain ⟨va', vc', rfl⟩ := own_slice (st.row (i := 1) get1)); (try simp only [nsl, Value.cells, unB] at st); (try simp only [Nat.zero_add] at st); (try clear hc); have hc := st.facts; (try simp only [nfl, nft, Nat.reduceAdd] at hc))
              | ((first
                | ((with_reducible refine wl_box ?_ (fun K hK => ?_)); rfl; refine owp_box (o := ⟨some 2, _, _, _, _, _⟩) rfl st ?_; apply Exists.intro; refine ⟨?_, ?_⟩; (focus (go_simp; try rfl)); (clear st; intro b2 w hb st; clear hb))
                | ((with_reducible refine wl_alloc ?_ (fun K hK => ?_)); rfl; refine owp_alloc (o := ⟨some 7, _, _, _, _, _⟩) rfl st ?_; apply Exists.intro; apply Exists.intro; refine ⟨?_, ?_⟩; (focus (first | (go_simp; done) | (go_simp; rfl))); (clear st; intro b7 w hb st; clear hb))
                | ((with_reducible refine wl_store ?_ (fun K hK => ?_)); rfl; refine owp_store rfl st ?_; apply Exists.intro; apply Exists.intro; refine ⟨?_, ?_, ?_⟩; (focus (go_simp; try rfl)); (focus (go_simp; try rfl)); (first | (with_reducible refine ⟨0, _, _, _, _, get0, rfl, rfl, ?_, ?_, ?_, ?_⟩) | (with_reducible refine ⟨1, _, _, _, _, get1, rfl, rfl, ?_, ?_, ?_, ?_⟩) | (with_reducible refine ⟨2, _, _, _, _, get2, rfl, rfl, ?_, ?_, ?_, ?_⟩) | (with_reducible refine ⟨3, _, _, _, _, get3, rfl, rfl, ?_, ?_, ?_, ?_⟩) | (with_reducible refine ⟨4, _, _, _, _, get4, rfl, rfl, ?_, ?_, ?_, ?_⟩) | (with_reducible refine ⟨5, _, _, _, _, get5, rfl, rfl, ?_, ?_, ?_, ?_⟩)); (kernel_rfl); (simp [Value.cells]); (rfl); (clear st; intro w st))
                | ((with_reducible refine wl_alloc ?_ (fun K hK => ?_)); rfl; refine owp_alloc (o := ⟨some 9, _, _, _, _, _⟩) rfl st ?_; apply Exists.intro; apply Exists.intro; refine ⟨?_, ?_⟩; (focus (first | (go_simp; done) | (go_simp; rfl))); (clear st; intro b9 w hb st; clear hb))
                | ((with_reducible refine wl_alloc ?_ (fun K hK => ?_)); rfl; refine owp_alloc (o := ⟨some 11, _, _, _, _, _⟩) rfl st ?_; apply Exists.intro; apply Exists.intro; refine ⟨?_, ?_⟩; (focus (first | (go_simp; done) | (go_simp; rfl))); (clear st; intro b11 w hb st; clear hb))); (try simp only [nsl, Value.cells, unB] at st); (try clear hc); have hc := st.facts; (try simp only [nfl, nft, Nat.reduceAdd] at hc)))
          have st' := st.keep [0, 1] (by decide) (by simp)
          have HR3 : Hid (r2 + m = (zs ++ ys).length) := Lib.hid (by rw [List.length_append, HR2.out, HM.out])
          go_roundg (an - (j + 1))
          case measure => omega
          case rel => exact ⟨j + 1, r2 + m, zs ++ ys, by omega, by omega, by go_num, hrm, HZ2, HR3, by rw [cellsL_append]; simpa [pick] using st'⟩
        · obtain rfl : an = j := by omega
          have HE2 : Hid (zs = xs ++ setsL (ks.map (fun a => a.f.strip))) := Lib.hid (by rw [HZ.out, List.take_of_length_le (by have := HN2.out; omega)])
          have HB2 : Hid (r2 ≤ nodesL (gs.map (fun g => g.f.strip)) + nodesL (ks.map (fun a => a.f.strip))) := Lib.hid (by
            have h1 := setsL_len (ks.map (fun a => a.f.strip))
            have h2 := HB1.out
            rw [HR2.out, HE2.out, List.length_append, ← HR.out]
            omega)
          clear HZ
          (try simp only [nsl, Value.cells, unB] at st)
          (try clear hc); have hc := st.facts; (try simp only [nfl, nft, Nat.reduceAdd] at hc)
          go_wp2_with fail
          go_loopg [5, 40] fn (fun q ov i wr => ∃ (j r3 : Nat) (us : List Role), j ≤ fn ∧ q = fn - j ∧ i = .int .i64 (j : Int) ∧ r3 ≤ 100000 ∧ Hid (us = zs ++ setsL ((fl.take j).map Fm.strip)) ∧ Hid (r3 = us.length) ∧ Own (fun _ => False) (fun _ => False) W [blkI b2 [.string ⟨nm.toArray⟩, .slice ga gn gc, .slice aa an ac], rowI 23 2 ov r3 (cellsL us)] wr)
          case atStart => exact ⟨0, r2, zs, by omega, by omega, rfl, hr2, Lib.hid (by simp [setsL]), HR2, st⟩
          case round =>
            obtain ⟨j, r3', us, hj, rfl, rfl, hr3, HU, HR3, st'⟩ := hrel
            clear st hc
            have st := st'
            clear st'
            obtain ⟨oa3, oc3, rfl⟩ := own_slice (st.row (i := 1) get1)
            by_cases hjn3 : j < fn
            · obtain ⟨b, off, ha, hcell⟩ := Fl.fm (Arr.ext HF.out st.ext0) (by omega)
              have hjl : j < fl.length := by have := HN3.out; omega
              have hsn := map_snoc_strip fl j hjl
              have hgt := List.getElem?_eq_getElem hjl
              have hok := HK.out _ (List.getElem_mem hjl)
              have hl5 := HFL.out.2.2 _ (List.getElem_mem hjl)
              have hle := setsL_take_le Fm.strip fl (j + 1)
              have hnd := nodesL_mem (fl.map Fm.strip) (fl[j].strip) (List.mem_map.2 ⟨_, List.getElem_mem hjl, rfl⟩)
              have hnn := HNN.out
              have hb2 := HB2.out
              have hz := HR3.out
              rw [HU.out, List.length_append, ← HR2.out] at hz
              rw [hsn, setsL_snoc, List.length_append] at hle
              generalize fl[j] = fx at *
              have HC := Lib.hid (fun W' (hx : Ext W W') => fmAtoms_f fx W' (hok.ext hx) (by omega) hl5)
              have HU2 : Hid (us ++ roleSet fx.strip.atoms = zs ++ setsL ((fl.take (j + 1)).map Fm.strip)) := Lib.hid (by rw [hsn, setsL_snoc, HU.out, List.append_assoc])
              obtain ⟨ys, hys⟩ : ∃ y, roleSet fx.strip.atoms = y := ⟨_, rfl⟩
              rw [hys] at HC HU2 hle
              obtain ⟨m, hm⟩ : ∃ m, ys.length = m := ⟨_, rfl⟩
              rw [hm] at HC hle
              have HM := Lib.hid hm
              have hrm : r3' + m ≤ 100000 := by omega
              clear hsn hok hl5 hle hnd hnn hys hm hjl hb2 hz
              obtain ⟨op, k, ⟨o, d⟩, a', n', c', kids⟩ := fx
              obtain ⟨s0, s1, s2, s3, s4⟩ := hcell j op k (o, d) a' n' c' kids hgt
              clear hcell hgt
              subst ha
              unfold fmV S at HC
              unfold S at s2 s3
              simp only at HC s2 s3
              (try simp only [nsl, Value.cells, unB] at st)
              (try clear hc); have hc := st.facts; (try simp only [nfl, nft, Nat.reduceAdd] at hc)
              go_wp2_with ((first
                    | ((with_reducible refine wl_box ?_ (fun K hK => ?_)); rfl; refine owp_box (o := ⟨some 2, _, _, _, _, _⟩) rfl st ?_; apply Exists.intro; refine ⟨?_, ?_⟩; (focus (go_simp; try rfl)); (clear st; intro b2 w hb st; clear hb))
                    | ((with_reducible refine wl_alloc ?_ (fun K hK => ?_)); rfl; refine owp_alloc (o := ⟨some 7, _, _, _, _, _⟩) rfl st ?_; apply Exists.intro; apply Exists.intro; refine ⟨?_, ?_⟩; (focus (first | (go_simp; done) | (go_simp; rfl))); (clear st; intro b7 w hb st; clear hb))
                    | ((with_reducible refine wl_store ?_ (fun K hK => ?_)); rfl; refine owp_store rfl st ?_; apply Exists.intro; apply Exists.intro; refine ⟨?_, ?_, ?_⟩; (focus (go_simp; try rfl)); (focus (go_simp; try rfl)); (first | (with_reducible refine ⟨0, _, _, _, _, get0, rfl, rfl, ?_, ?_, ?_, ?_⟩) | (with_reducible refine ⟨1, _, _, _, _, get1, rfl, rfl, ?_, ?_, ?_, ?_⟩) | (with_reducible refine ⟨2, _, _, _, _, get2, rfl, rfl, ?_, ?_, ?_, ?_⟩) | (with_reducible refine ⟨3, _, _, _, _, get3, rfl, rfl, ?_, ?_, ?_, ?_⟩) | (with_reducible refine ⟨4, _, _, _, _, get4, rfl, rfl, ?_, ?_, ?_, ?_⟩) | (with_reducible refine ⟨5, _, _, _, _, get5, rfl, rfl, ?_, ?_, ?_, ?_⟩)); (kernel_rfl); (simp [Value.cells]); (rfl); (clear st; intro w st))
                    | ((with_reducible refine wl_alloc ?_ (fun K hK => ?_)); rfl; refine owp_alloc (o := ⟨some 9, _, _, _, _, _⟩) rfl st ?_; apply Exists.intro; apply Exists.intro; refine ⟨?_, ?_⟩; (focus (first | (go_simp; done) | (go_simp; rfl))); (clear st; intro b9 w hb st; clear hb))
                    | ((with_reducible refine wl_alloc ?_ (fun K hK => ?_)); rfl; refine owp_alloc (o := ⟨some 11, _, _, _, _, _⟩) rfl st ?_; apply Exists.intro; apply Exists.intro; refine ⟨?_, ?_⟩; (focus (first | (go_simp; done) | (go_simp; rfl))); (clear st; intro b11 w hb st; clear hb))); (try simp only [nsl, Value.cells, unB] at st); (try clear hc); have hc := st.facts; (try simp only [nfl, nft, Nat.reduceAdd] at hc))
              clear s0 s1 s2 s3 s4
              refine (HC.out _ st.ext0).mono ?_
              rintro en w ⟨ra, rc, rfl, h2⟩
              replace st := st.join h2
              clear h2
              simp only [List.cons_append, List.nil_append] at st
              (try simp only [nsl, Value.cells, unB] at st)
              (try clear hc); have hc := st.facts; (try simp only [nfl, nft, Nat.reduceAdd] at hc)
              go_wp2_with (first
                  | ((with_reducible refine wl_append ?_ (fun K hK => ?_)); (rfl); (obtain ⟨inf, hinf, hz0, hz1, hz2⟩ := roleInfo); (refine owp_append rfl st 1 get1 Try.underlying37 hinf hz0 hz1 hz2 rfl (by decide) rfl rfl ((rowFl' (α := Role) st (i := 3) get3).2.flat) (by first | exact cellsL_all _ | simp [Value.oneCell']) (by simp only [maxLen]; omega) (by omega) ?_); (clear hinf hz0 hz1 hz2 inf); (clear st; intro v' w st); (obtain ⟨va', vc', rfl⟩ := own_slice (st.row (i := 1) get1)); (try simp only [nsl, Value.cells, unB] at st); (try simp only [Nat.zero_add] at st); (try clear hc); have hc := st.facts; (try simp only [nfl, nft, Nat.reduceAdd] at hc))
                  | ((first
                    | ((with_reducible refine wl_box ?_ (fun K hK => ?_)); rfl; refine owp_box (o := ⟨some 2, _, _, _, _, _⟩) rfl st ?_; apply Exists.intro; refine ⟨?_, ?_⟩; (focus (go_simp; try rfl)); (clear st; intro b2 w hb st; clear hb))
                    | ((with_reducible refine wl_alloc ?_ (fun K hK => ?_)); rfl; refine owp_alloc (o := ⟨some 7, _, _, _, _, _⟩) rfl st ?_; apply Exists.intro; apply Exists.intro; refine ⟨?_, ?_⟩; (focus (first | (go_simp; done) | (go_simp; rfl))); (clear st; intro b7 w hb st; clear hb))
                    | ((with_reducible refine wl_store ?_ (fun K hK => ?_)); rfl; refine owp_store rfl st ?_; apply Exists.intro; apply Exists.intro; refine ⟨?_, ?_, ?_⟩; (focus (go_simp; try rfl)); (focus (go_simp; try rfl)); (first | (with_reducible refine ⟨0, _, _, _, _, get0, rfl, rfl, ?_, ?_, ?_, ?_⟩) | (with_reducible refine ⟨1, _, _, _, _, get1, rfl, rfl, ?_, ?_, ?_, ?_⟩) | (with_reducible refine ⟨2, _, _, _, _, get2, rfl, rfl, ?_, ?_, ?_, ?_⟩) | (with_reducible refine ⟨3, _, _, _, _, get3, rfl, rfl, ?_, ?_, ?_, ?_⟩) | (with_reducible refine ⟨4, _, _, _, _, get4, rfl, rfl, ?_, ?_, ?_, ?_⟩) | (with_reducible refine ⟨5, _, _, _, _, get5, rfl, rfl, ?_, ?_, ?_, ?_⟩)); (kernel_rfl); (simp [Value.cells]); (rfl); (clear st; intro w st))
                    | ((with_reducible refine wl_alloc ?_ (fun K hK => ?_)); rfl; refine owp_alloc (o := ⟨some 9, _, _, _, _, _⟩) rfl st ?_; apply Exists.intro; apply Exists.intro; refine ⟨?_, ?_⟩; (focus (first | (go_simp; done) | (go_simp; rfl))); (clear st; intro b9 w hb st; clear hb))
                    | ((with_reducible refine wl_alloc ?_ (fun K hK => ?_)); rfl; refine owp_alloc (o := ⟨some 11, _, _, _, _, _⟩) rfl st ?_; apply Exists.intro; apply Exists.intro; refine ⟨?_, ?_⟩; (focus (first | (go_simp; done) | (go_simp; rfl))); (clear st; intro b11 w hb st; clear hb))); (try simp only [nsl, Value.cells, unB] at st); (try clear hc); have hc := st.facts; (try simp only [nfl, nft, Nat.reduceAdd] at hc)))
              have st' := st.keep [0, 1] (by decide) (by simp)
              have HR4 : Hid (r3' + m = (us ++ ys).length) := Lib.hid (by rw [List.length_append, HR3.out, HM.out])
              go_roundg (fn - (j + 1))
              case measure => omega
              case rel => exact ⟨j + 1, r3' + m, us ++ ys, by omega, by omega, by go_num, hrm, HU2, HR4, by rw [cellsL_append]; simpa [pick] using st'⟩
            · obtain rfl : fn = j := by omega
              have HE3 : Hid (us = res) := Lib.hid (by rw [← HW.out, HU.out, HE2.out, HE1.out, List.take_of_length_le (by have := HN3.out; omega)])
              have HST := Lib.hid (fun a n c W (h : Fl W a n us) (hn : n ≤ 2000000) => roleSet_any a n c us W h hn (by rw [HE3.out]; exact HRL.out))
              rw [HE3.out, HRS.out, HLN.out] at HST
              clear HLN
              have hfl2 := (rowFl' (α := Role) st (i := 1) get1).2
              rw [HE3.out] at hfl2
              have HFL2 := Lib.hid hfl2
              clear hfl2
              (try simp only [nsl, Value.cells, unB] at st)
              (try clear hc); have hc := st.facts; (try simp only [nfl, nft, Nat.reduceAdd] at hc)
              go_wp2_with fail
              refine (HST.out _ _ _ _ HFL2.out (by omega)).mono ?_
              rintro en w ⟨va, vc, rfl, hfr⟩
              replace st := st.ext hfr.ext
              have hans := (FreshI.fl (α := Role) hfr).2
              have HANS := Lib.hid hans
              clear hfr HFL2 hans
              (try simp only [nsl, Value.cells, unB] at st)
              (try clear hc); have hc := st.facts; (try simp only [nfl, nft, Nat.reduceAdd] at hc)
              go_wp2_with fail
              go_ret
              exact ⟨_, _, rfl, HANS.out, st.ext0⟩
end Go.Proofs.Ythjaopojlhdjpaa

namespace Go.Proofs.Ythjaopojlhdjpaa
set_option linter.unusedSimpArgs false
set_option linter.unusedVariables false
open Go Go.RowKit
def wIn (n lo hi : Int) : Bool := decide (lo ≤ n) && decide (n ≤ hi)
/-- Right terms. -/
def termR (p r t y b : Int) : Bool := wIn p 1 2 && wIn r 0 256 && wIn t 1 1000 && wIn y 0 100 && wIn b 0 1073741824
def tickN (n r t : Int) : Int := if (wIn n 0 1048576 && wIn r 0 1048576 && wIn t 0 1048576) = true then n * max r t + 1 else 0
theorem wIn_t {n lo hi : Int} (h1 : lo ≤ n) (h2 : n ≤ hi) : wIn n lo hi = true := by unfold wIn; rw [decide_eq_true h1, decide_eq_true h2]; rfl
theorem wIn_f {n lo hi : Int} (h : ¬ (lo ≤ n ∧ n ≤ hi)) : wIn n lo hi = false := by
  unfold wIn
  by_cases h1 : lo ≤ n
  · rw [decide_eq_false (fun q => h ⟨h1, q⟩), Bool.and_false]
  · rw [decide_eq_false h1, Bool.false_and]
set_option maxRecDepth 100000 in
set_option maxHeartbeats 1000000 in
theorem within_any (n lo hi : Int) (W : World) : Calls Try.prog 54 #[.int .i64 n, .int .i64 lo, .int .i64 hi] W fun e w' => e = .returned (.bool (wIn n lo hi)) ∧ Ext W w' := by
  have st := Own.startOld W
  by_cases h1 : lo ≤ n
  · by_cases h2 : n ≤ hi
    · have H := Lib.hid (wIn_t h1 h2)
      rw [H.out]
      go_enter Try.func54, Try.ntmps54
      go_wp2_with fail
      go_ret
      exact ⟨rfl, Ext.refl _⟩
    · have H := Lib.hid (wIn_f (n := n) (lo := lo) (hi := hi) (fun q => h2 q.2))
      rw [H.out]
      go_enter Try.func54, Try.ntmps54
      go_wp2_with fail
      go_ret
      exact ⟨rfl, Ext.refl _⟩
  · have H := Lib.hid (wIn_f (n := n) (lo := lo) (hi := hi) (fun q => h1 q.1))
    rw [H.out]
    go_enter Try.func54, Try.ntmps54
    go_wp2_with fail
    go_ret
    exact ⟨rfl, Ext.refl _⟩
def tV (o : Bool) (p r t y b : Int) : Value := .agg #[.bool o, .int .i64 p, .int .i64 r, .int .i64 t, .int .i64 y, .int .i64 b]
set_option maxRecDepth 100000 in
set_option maxHeartbeats 2000000 in
theorem capsRight_any (o : Bool) (p r t y b : Int) (W : World) : Calls Try.prog 21 #[tV o p r t y b] W fun e w' => e = .returned (.bool (termR p r t y b)) ∧ Ext W w' := by
  have st := Own.startOld W
  have H1 := Lib.hid (within_any p 1 2)
  have H2 := Lib.hid (within_any r 0 256)
  have H3 := Lib.hid (within_any t 1 1000)
  have H4 := Lib.hid (within_any y 0 100)
  have H5 := Lib.hid (within_any b 0 1073741824)
  have HV0 : Hid (termR p r t y b = (wIn p 1 2 && wIn r 0 256 && wIn t 1 1000 && wIn y 0 100 && wIn b 0 1073741824)) := Lib.hid rfl
  obtain ⟨v, hv⟩ : ∃ v, termR p r t y b = v := ⟨_, rfl⟩
  rw [hv] at HV0 ⊢
  clear hv
  generalize wIn p 1 2 = a1 at *
  generalize wIn r 0 256 = a2 at *
  generalize wIn t 1 1000 = a3 at *
  generalize wIn y 0 100 = a4 at *
  generalize wIn b 0 1073741824 = a5 at *
  have HV := HV0
  clear HV0
  unfold tV
  (try simp only [nsl, Value.cells, unB] at st)
  (try clear hc); have hc := st.facts; (try simp only [nfl, nft, Nat.reduceAdd] at hc)
  go_enter Try.func21, Try.ntmps21
  go_wp2_with ((((with_reducible refine wl_box ?_ (fun K hK => ?_)); rfl; refine owp_box (o := ⟨some 1, _, _, _, _, _⟩) rfl st ?_; apply Exists.intro; refine ⟨?_, ?_⟩; (focus (go_simp; try rfl)); (clear st; intro b1 w hb st; clear hb))); (try simp only [nsl, Value.cells, unB] at st); (try clear hc); have hc := st.facts; (try simp only [nfl, nft, Nat.reduceAdd] at hc))
  refine (H1.out _).mono ?_
  rintro en w ⟨rfl, hx⟩
  replace st := st.ext hx
  clear hx
  (try clear hc); have hc := st.facts; (try simp only [nfl, nft, Nat.reduceAdd] at hc)
  cases a1 with
  | false =>
    have H : Hid (v = false) := Lib.hid (by rw [HV.out]; rfl)
    go_wp2_with ((((with_reducible refine wl_box ?_ (fun K hK => ?_)); rfl; refine owp_box (o := ⟨some 1, _, _, _, _, _⟩) rfl st ?_; apply Exists.intro; refine ⟨?_, ?_⟩; (focus (go_simp; try rfl)); (clear st; intro b1 w hb st; clear hb))); (try simp only [nsl, Value.cells, unB] at st); (try clear hc); have hc := st.facts; (try simp only [nfl, nft, Nat.reduceAdd] at hc))
    go_ret
    exact ⟨by rw [H.out] <;> rfl, st.ext0⟩
  | true =>
    go_wp2_with ((((with_reducible refine wl_box ?_ (fun K hK => ?_)); rfl; refine owp_box (o := ⟨some 1, _, _, _, _, _⟩) rfl st ?_; apply Exists.intro; refine ⟨?_, ?_⟩; (focus (go_simp; try rfl)); (clear st; intro b1 w hb st; clear hb))); (try simp only [nsl, Value.cells, unB] at st); (try clear hc); have hc := st.facts; (try simp only [nfl, nft, Nat.reduceAdd] at hc))
    refine (H2.out _).mono ?_
    rintro en w ⟨rfl, hx⟩
    replace st := st.ext hx
    clear hx
    (try clear hc); have hc := st.facts; (try simp only [nfl, nft, Nat.reduceAdd] at hc)
    cases a2 with
    | false =>
      have H : Hid (v = false) := Lib.hid (by rw [HV.out]; rfl)
      go_wp2_with ((((with_reducible refine wl_box ?_ (fun K hK => ?_)); rfl; refine owp_box (o := ⟨some 1, _, _, _, _, _⟩) rfl st ?_; apply Exists.intro; refine ⟨?_, ?_⟩; (focus (go_simp; try rfl)); (clear st; intro b1 w hb st; clear hb))); (try simp only [nsl, Value.cells, unB] at st); (try clear hc); have hc := st.facts; (try simp only [nfl, nft, Nat.reduceAdd] at hc))
      go_ret
      exact ⟨by rw [H.out] <;> rfl, st.ext0⟩
    | true =>
      go_wp2_with ((((with_reducible refine wl_box ?_ (fun K hK => ?_)); rfl; refine owp_box (o := ⟨some 1, _, _, _, _, _⟩) rfl st ?_; apply Exists.intro; refine ⟨?_, ?_⟩; (focus (go_simp; try rfl)); (clear st; intro b1 w hb st; clear hb))); (try simp only [nsl, Value.cells, unB] at st); (try clear hc); have hc := st.facts; (try simp only [nfl, nft, Nat.reduceAdd] at hc))
      refine (H3.out _).mono ?_
      rintro en w ⟨rfl, hx⟩
      replace st := st.ext hx
      clear hx
      (try clear hc); have hc := st.facts; (try simp only [nfl, nft, Nat.reduceAdd] at hc)
      cases a3 with
      | false =>
        have H : Hid (v = false) := Lib.hid (by rw [HV.out]; rfl)
        go_wp2_with ((((with_reducible refine wl_box ?_ (fun K hK => ?_)); rfl; refine owp_box (o := ⟨some 1, _, _, _, _, _⟩) rfl st ?_; apply Exists.intro; refine ⟨?_, ?_⟩; (focus (go_simp; try rfl)); (clear st; intro b1 w hb st; clear hb))); (try simp only [nsl, Value.cells, unB] at st); (try clear hc); have hc := st.facts; (try simp only [nfl, nft, Nat.reduceAdd] at hc))
        go_ret
        exact ⟨by rw [H.out] <;> rfl, st.ext0⟩
      | true =>
        go_wp2_with ((((with_reducible refine wl_box ?_ (fun K hK => ?_)); rfl; refine owp_box (o := ⟨some 1, _, _, _, _, _⟩) rfl st ?_; apply Exists.intro; refine ⟨?_, ?_⟩; (focus (go_simp; try rfl)); (clear st; intro b1 w hb st; clear hb))); (try simp only [nsl, Value.cells, unB] at st); (try clear hc); have hc := st.facts; (try simp only [nfl, nft, Nat.reduceAdd] at hc))
        refine (H4.out _).mono ?_
        rintro en w ⟨rfl, hx⟩
        replace st := st.ext hx
        clear hx
        (try clear hc); have hc := st.facts; (try simp only [nfl, nft, Nat.reduceAdd] at hc)
        cases a4 with
        | false =>
          have H : Hid (v = false) := Lib.hid (by rw [HV.out]; rfl)
          go_wp2_with ((((with_reducible refine wl_box ?_ (fun K hK => ?_)); rfl; refine owp_box (o := ⟨some 1, _, _, _, _, _⟩) rfl st ?_; apply Exists.intro; refine ⟨?_, ?_⟩; (focus (go_simp; try rfl)); (clear st; intro b1 w hb st; clear hb))); (try simp only [nsl, Value.cells, unB] at st); (try clear hc); have hc := st.facts; (try simp only [nfl, nft, Nat.reduceAdd] at hc))
          go_ret
          exact ⟨by rw [H.out] <;> rfl, st.ext0⟩
        | true =>
          have H : Hid (v = a5) := Lib.hid (by rw [HV.out]; simp)
          go_wp2_with ((((with_reducible refine wl_box ?_ (fun K hK => ?_)); rfl; refine owp_box (o := ⟨some 1, _, _, _, _, _⟩) rfl st ?_; apply Exists.intro; refine ⟨?_, ?_⟩; (focus (go_simp; try rfl)); (clear st; intro b1 w hb st; clear hb))); (try simp only [nsl, Value.cells, unB] at st); (try clear hc); have hc := st.facts; (try simp only [nfl, nft, Nat.reduceAdd] at hc))
          refine (H5.out _).mono ?_
          rintro en w ⟨rfl, hx⟩
          replace st := st.ext hx
          clear hx
          (try clear hc); have hc := st.facts; (try simp only [nfl, nft, Nat.reduceAdd] at hc)
          go_wp2_with ((((with_reducible refine wl_box ?_ (fun K hK => ?_)); rfl; refine owp_box (o := ⟨some 1, _, _, _, _, _⟩) rfl st ?_; apply Exists.intro; refine ⟨?_, ?_⟩; (focus (go_simp; try rfl)); (clear st; intro b1 w hb st; clear hb))); (try simp only [nsl, Value.cells, unB] at st); (try clear hc); have hc := st.facts; (try simp only [nfl, nft, Nat.reduceAdd] at hc))
          go_ret
          exact ⟨by rw [H.out] <;> simp, st.ext0⟩
theorem tick_bd {n r t : Int} (h : 0 ≤ n ∧ n ≤ 1048576) (hr : 0 ≤ r ∧ r ≤ 1048576) (ht : 0 ≤ t ∧ t ≤ 1048576) : 0 ≤ n * max r t ∧ n * max r t ≤ 1099511627776 :=
  ⟨Int.mul_nonneg h.1 (by omega), Int.le_trans (Int.mul_le_mul h.2 (show max r t ≤ 1048576 by omega) (by omega) (by omega)) (by decide)⟩
set_option maxRecDepth 100000 in
set_option maxHeartbeats 2000000 in
theorem capsTicks_any (n r t : Int) (W : World) : Calls Try.prog 23 #[.int .i64 n, .int .i64 r, .int .i64 t] W fun e w' => e = .returned (.int .i64 (tickN n r t)) ∧ Ext W w' := by
  have st := Own.startOld W
  have H1 := Lib.hid (within_any n 0 1048576)
  have H2 := Lib.hid (within_any r 0 1048576)
  have H3 := Lib.hid (within_any t 0 1048576)
  have HV : Hid (tickN n r t = if (wIn n 0 1048576 && wIn r 0 1048576 && wIn t 0 1048576) = true then n * max r t + 1 else 0) := Lib.hid rfl
  obtain ⟨v, hv⟩ : ∃ v, tickN n r t = v := ⟨_, rfl⟩
  rw [hv] at HV ⊢
  clear hv
  by_cases n0 : 0 ≤ n ∧ n ≤ 1048576
  case neg =>
    have H : Hid (v = 0) := Lib.hid (by rw [HV.out, wIn_f n0]; rfl)
    rw [wIn_f n0] at H1
    clear n0
    (try simp only [nsl, Value.cells, unB] at st)
    (try clear hc); have hc := st.facts; (try simp only [nfl, nft, Nat.reduceAdd] at hc)
    go_enter Try.func23, Try.ntmps23
    go_wp2_with fail
    refine (H1.out _).mono ?_
    rintro en w ⟨rfl, hx⟩
    replace st := st.ext hx
    clear hx
    (try clear hc); have hc := st.facts; (try simp only [nfl, nft, Nat.reduceAdd] at hc)
    go_wp2_with fail
    go_ret
    exact ⟨by rw [H.out] <;> rfl, st.ext0⟩
  by_cases r0 : 0 ≤ r ∧ r ≤ 1048576
  case neg =>
    have H : Hid (v = 0) := Lib.hid (by rw [HV.out, wIn_f r0, Bool.and_false]; rfl)
    rw [wIn_t n0.1 n0.2] at H1
    rw [wIn_f r0] at H2
    clear n0 r0
    (try simp only [nsl, Value.cells, unB] at st)
    (try clear hc); have hc := st.facts; (try simp only [nfl, nft, Nat.reduceAdd] at hc)
    go_enter Try.func23, Try.ntmps23
    go_wp2_with fail
    refine (H1.out _).mono ?_
    rintro en w ⟨rfl, hx⟩
    replace st := st.ext hx
    clear hx
    (try clear hc); have hc := st.facts; (try simp only [nfl, nft, Nat.reduceAdd] at hc)
    go_wp2_with fail
    refine (H2.out _).mono ?_
    rintro en w ⟨rfl, hx⟩
    replace st := st.ext hx
    clear hx
    (try clear hc); have hc := st.facts; (try simp only [nfl, nft, Nat.reduceAdd] at hc)
    go_wp2_with fail
    go_ret
    exact ⟨by rw [H.out] <;> rfl, st.ext0⟩
  by_cases t0 : 0 ≤ t ∧ t ≤ 1048576
  case neg =>
    have H : Hid (v = 0) := Lib.hid (by rw [HV.out, wIn_f t0, Bool.and_false]; rfl)
    rw [wIn_t n0.1 n0.2] at H1
    rw [wIn_t r0.1 r0.2] at H2
    rw [wIn_f t0] at H3
    clear n0 r0 t0
    (try simp only [nsl, Value.cells, unB] at st)
    (try clear hc); have hc := st.facts; (try simp only [nfl, nft, Nat.reduceAdd] at hc)
    go_enter Try.func23, Try.ntmps23
    go_wp2_with fail
    refine (H1.out _).mono ?_
    rintro en w ⟨rfl, hx⟩
    replace st := st.ext hx
    clear hx
    (try clear hc); have hc := st.facts; (try simp only [nfl, nft, Nat.reduceAdd] at hc)
    go_wp2_with fail
    refine (H2.out _).mono ?_
    rintro en w ⟨rfl, hx⟩
    replace st := st.ext hx
    clear hx
    (try clear hc); have hc := st.facts; (try simp only [nfl, nft, Nat.reduceAdd] at hc)
    go_wp2_with fail
    refine (H3.out _).mono ?_
    rintro en w ⟨rfl, hx⟩
    replace st := st.ext hx
    clear hx
    (try clear hc); have hc := st.facts; (try simp only [nfl, nft, Nat.reduceAdd] at hc)
    go_wp2_with fail
    go_ret
    exact ⟨by rw [H.out] <;> rfl, st.ext0⟩
  have H0 : Hid (v = n * max r t + 1) := Lib.hid (by rw [HV.out, wIn_t n0.1 n0.2, wIn_t r0.1 r0.2, wIn_t t0.1 t0.2]; rfl)
  rw [wIn_t n0.1 n0.2] at H1
  rw [wIn_t r0.1 r0.2] at H2
  rw [wIn_t t0.1 t0.2] at H3
  have hb := tick_bd n0 r0 t0
  by_cases rt : r < t
  · have hmx : max r t = t := by omega
    rw [hmx] at hb
    have H : Hid (v = n * t + 1) := Lib.hid (by rw [H0.out, hmx])
    have zm : IntKind.i64.wrap (n * t) = n * t := IntWalk.i64_in _ ⟨by omega, by omega⟩
    have za : IntKind.i64.wrap (n * t + 1) = n * t + 1 := IntWalk.i64_in _ ⟨by omega, by omega⟩
    clear n0 r0 t0 hb
    (try simp only [nsl, Value.cells, unB] at st)
    (try clear hc); have hc := st.facts; (try simp only [nfl, nft, Nat.reduceAdd] at hc)
    go_enter Try.func23, Try.ntmps23
    go_wp2_with fail
    refine (H1.out _).mono ?_
    rintro en w ⟨rfl, hx⟩
    replace st := st.ext hx
    clear hx
    (try clear hc); have hc := st.facts; (try simp only [nfl, nft, Nat.reduceAdd] at hc)
    go_wp2_with fail
    refine (H2.out _).mono ?_
    rintro en w ⟨rfl, hx⟩
    replace st := st.ext hx
    clear hx
    (try clear hc); have hc := st.facts; (try simp only [nfl, nft, Nat.reduceAdd] at hc)
    go_wp2_with fail
    refine (H3.out _).mono ?_
    rintro en w ⟨rfl, hx⟩
    replace st := st.ext hx
    clear hx
    (try clear hc); have hc := st.facts; (try simp only [nfl, nft, Nat.reduceAdd] at hc)
    go_wp2_with fail
    go_ret
    exact ⟨by rw [H.out] <;> first | rfl | simp [hmx, zm, za] | (simp; omega), st.ext0⟩
  · have hmx : max r t = r := by omega
    rw [hmx] at hb
    have H : Hid (v = n * r + 1) := Lib.hid (by rw [H0.out, hmx])
    have zm : IntKind.i64.wrap (n * r) = n * r := IntWalk.i64_in _ ⟨by omega, by omega⟩
    have za : IntKind.i64.wrap (n * r + 1) = n * r + 1 := IntWalk.i64_in _ ⟨by omega, by omega⟩
    clear n0 r0 t0 hb
    have rt2 : t ≤ r := by omega
    (try simp only [nsl, Value.cells, unB] at st)
    (try clear hc); have hc := st.facts; (try simp only [nfl, nft, Nat.reduceAdd] at hc)
    go_enter Try.func23, Try.ntmps23
    go_wp2_with fail
    refine (H1.out _).mono ?_
    rintro en w ⟨rfl, hx⟩
    replace st := st.ext hx
    clear hx
    (try clear hc); have hc := st.facts; (try simp only [nfl, nft, Nat.reduceAdd] at hc)
    go_wp2_with fail
    refine (H2.out _).mono ?_
    rintro en w ⟨rfl, hx⟩
    replace st := st.ext hx
    clear hx
    (try clear hc); have hc := st.facts; (try simp only [nfl, nft, Nat.reduceAdd] at hc)
    go_wp2_with fail
    refine (H3.out _).mono ?_
    rintro en w ⟨rfl, hx⟩
    replace st := st.ext hx
    clear hx
    (try clear hc); have hc := st.facts; (try simp only [nfl, nft, Nat.reduceAdd] at hc)
    go_wp2_with fail
    go_ret
    exact ⟨by rw [H.out] <;> first | rfl | simp [hmx, zm, za] | (simp; omega), st.ext0⟩
end Go.Proofs.Ythjaopojlhdjpaa

namespace Go.Proofs.Ythjaopojlhdjpaa
set_option linter.unusedSimpArgs false
set_option linter.unusedVariables false
open Go Go.RowKit
/-- So many turns are enough. -/
def turnsN (p q : PaT) (f : Fo) : Nat := 4 + 2 * (p.gn + q.gn + ((roleSet (setsL (paF p ++ [f]))).length + (roleSet (setsL (paF q))).length))
theorem setsL_set_len (l : List Fo) : (roleSet (setsL l)).length ≤ nodesL l := Nat.le_trans (roleSet_len _) (setsL_len l)
theorem paN_gn {W : World} {p : PaT} (hp : PaOk W p) (h : nodesL (paF p) ≤ 100000) : p.gn ≤ 100000 := by
  have h1 := nodesL_len (p.gs.map (fun g => g.f.strip))
  rw [List.length_map] at h1
  have h2 := hp.1.2.1.1
  rw [paF_def, nodesL_append] at h
  omega
set_option maxRecDepth 100000 in
set_option maxHeartbeats 4000000 in
theorem capsTurns_any (p q : PaT) (f : Fm) (W : World) (hp : PaOk W p) (hq : PaOk W q) (hf : FmOk W f) (hsp : FsL (paF p ++ [f.strip])) (hsq : FsL (paF q)) :
    Calls Try.prog 29 #[paV p, paV q, fmV f] W fun e w' => e = .returned (.int .i64 (turnsN p q f.strip : Int)) ∧ Ext W w' := by
  have HR1 := Lib.hid (capsRoom_any p)
  have HR2 := Lib.hid (capsRoom_any q)
  have HA1 := Lib.hid (fun (b : Nat) W' (hx : Ext W W') (h : Fl W' (some ⟨b, 0, none⟩) 1 [f]) => capsAtoms_f p (some ⟨b, 0, none⟩) 1 1 [f] W' (hp.ext hx) h (fun x hx' => by rw [List.mem_singleton.1 hx']; exact hf.ext hx) hsp)
  have HA2 := Lib.hid (fun W' (hx : Ext W W') => capsAtoms_f q none 0 0 [] W' (hq.ext hx) (Fl.nil _ _) (by simp) (by simpa using hsq))
  simp only [List.map_cons, List.map_nil, List.append_nil] at HA1 HA2
  have h1 := setsL_set_len (paF p ++ [f.strip])
  have h2 := setsL_set_len (paF q)
  have h3 := hsp.1
  have h4 := hsq.1
  have hg1 := paN_gn hp hsp.sub.1.1
  have hg2 := paN_gn hq h4
  have HV : Hid (turnsN p q f.strip = 4 + 2 * (p.gn + q.gn + ((roleSet (setsL (paF p ++ [f.strip]))).length + (roleSet (setsL (paF q))).length))) := Lib.hid rfl
  generalize roleSet (setsL (paF p ++ [f.strip])) = s1 at *
  generalize roleSet (setsL (paF q)) = s2 at *
  obtain ⟨m1, hm1⟩ : ∃ m, s1.length = m := ⟨_, rfl⟩
  obtain ⟨m2, hm2⟩ : ∃ m, s2.length = m := ⟨_, rfl⟩
  obtain ⟨v, hv⟩ : ∃ v, turnsN p q f.strip = v := ⟨_, rfl⟩
  rw [hm1] at HA1 HV h1
  rw [hm2] at HA2 HV h2
  rw [hv] at HV ⊢
  have hm1b : m1 ≤ 100000 := by omega
  have hm2b : m2 ≤ 100000 := by omega
  obtain ⟨fx, hfx⟩ : ∃ g, f = g := ⟨_, rfl⟩
  clear hm1 hm2 hv h1 h2 h3 h4 hp hq hf hsp hsq
  obtain ⟨nm, ga, gn, gc, gs, aa, an, ac, ks⟩ := p
  obtain ⟨nm2, ga2, gn2, gc2, gs2, aa2, an2, ac2, ks2⟩ := q
  obtain ⟨op, k, ⟨o, d⟩, fa, fn, fc, kids⟩ := f
  unfold paV at HR1 HR2 HA1 HA2 ⊢
  simp only at HR1 HR2 HA1 HA2 HV hg1 hg2 ⊢
  have HC : Hid ([Value.int .i64 op, .int .i64 k, .string ⟨o.toArray⟩, .string ⟨d.toArray⟩, .slice fa fn fc] = cellsL [Fm.mk op k (o, d) fa fn fc kids]) := Lib.hid rfl
  have HFV : Hid (fmV (.mk op k (o, d) fa fn fc kids) = .agg #[.int .i64 op, .int .i64 k, .string ⟨o.toArray⟩, .string ⟨d.toArray⟩, .slice fa fn fc]) := Lib.hid rfl
  rw [HFV.out]
  rw [hfx] at HC HA1
  clear hfx
  have z1 : IntKind.i64.wrap ((gn : Int) + (gn2 : Int)) = (gn : Int) + (gn2 : Int) := IntWalk.i64_in _ ⟨by omega, by omega⟩
  have z2 : IntKind.i64.wrap ((m1 : Int) + (m2 : Int)) = (m1 : Int) + (m2 : Int) := IntWalk.i64_in _ ⟨by omega, by omega⟩
  have z3 : IntKind.i64.wrap ((gn : Int) + (gn2 : Int) + ((m1 : Int) + (m2 : Int))) = (gn : Int) + (gn2 : Int) + ((m1 : Int) + (m2 : Int)) := IntWalk.i64_in _ ⟨by omega, by omega⟩
  have z4 : IntKind.i64.wrap (2 * ((gn : Int) + (gn2 : Int) + ((m1 : Int) + (m2 : Int)))) = 2 * ((gn : Int) + (gn2 : Int) + ((m1 : Int) + (m2 : Int))) := IntWalk.i64_in _ ⟨by omega, by omega⟩
  have z5 : IntKind.i64.wrap (2 * ((gn : Int) + (gn2 : Int) + ((m1 : Int) + (m2 : Int))) + 4) = (v : Int) := by rw [IntWalk.i64_in _ ⟨by omega, by omega⟩, HV.out]; omega
  have st := Own.startOld W
  (try simp only [nsl, Value.cells, unB] at st)
  (try clear hc); have hc := st.facts; (try simp only [nfl, nft, Nat.reduceAdd] at hc)
  go_enter Try.func29, Try.ntmps29
  go_wp2_with ((first
        | ((with_reducible refine wl_box ?_ (fun K hK => ?_)); rfl; refine owp_box (o := ⟨some 3, _, _, _, _, _⟩) rfl st ?_; apply Exists.intro; refine ⟨?_, ?_⟩; (focus (go_simp; try rfl)); (clear st; intro b3 w hb st; clear hb))
        | ((with_reducible refine wl_box ?_ (fun K hK => ?_)); rfl; refine owp_box (o := ⟨some 4, _, _, _, _, _⟩) rfl st ?_; apply Exists.intro; refine ⟨?_, ?_⟩; (focus (go_simp; try rfl)); (clear st; intro b4 w hb st; clear hb))
        | ((with_reducible refine wl_box ?_ (fun K hK => ?_)); rfl; refine owp_box (o := ⟨some 5, _, _, _, _, _⟩) rfl st ?_; apply Exists.intro; refine ⟨?_, ?_⟩; (focus (go_simp; try rfl)); (clear st; intro b5 w hb st; clear hb))
        | ((with_reducible refine wl_buildSlice ?_ (fun K hK => ?_)); rfl; refine owp_buildSlice (o := ⟨some 16, _, _, _, _, _⟩) rfl st ?_; apply Exists.intro; apply Exists.intro; apply Exists.intro; apply Exists.intro; refine ⟨?_, ?_⟩; (focus (go_simp; (first | done | exact ⟨⟨rfl, rfl⟩, rfl⟩ | rfl))); (clear st; intro b16 w hb st; clear hb))); (try simp only [nsl, Value.cells, unB] at st); (try clear hc); have hc := st.facts; (try simp only [nfl, nft, Nat.reduceAdd] at hc))
  refine Rg4.wp_region4 (Rel := Ext) #[0, 1, 0, 7, 15, 31]
    [(1, .val (.int .i64 (gn : Int))), (3, .val (.int .i64 (gn2 : Int)))] [] [0, 2] (fun _ => True) [0, 1, 2, 3, 4, 5] (by kernel_rfl) (by kernel_rfl) (by kernel_rfl) (by kernel_rfl) Ext.refl (fun _ _ _ => Ext.trans) (show Rg4.PB _ by repeat (first | with_reducible exact Rg4.pb_body | with_reducible exact Rg4.pb_bodyD rfl | with_reducible refine Rg4.pb_then ?_ | with_reducible refine Rg4.pb_inBlock ?_ | with_reducible refine Rg4.pb_noGoto ?_)) (trivial) ?_
  replace st := st.drew
  change Rg4.wp4 _ _ _ _ _ _ _ _ _ (World.drew _) _ _
  generalize World.drew _ = w at st ⊢
  (try clear hc); have hc := st.facts; (try simp only [nfl, nft, Nat.reduceAdd] at hc)
  (refine Rg4.w4_read (Rg4.want_none rfl) rfl rfl ?_; apply Exists.intro; refine ⟨fun w' hw' hcl' => ?_, ?_⟩; focus (have st' := st.ext hw'; have hc' := st'.facts; (try simp only [nfl, nft, Nat.reduceAdd] at hc'); (focus (first | (go_simp; done) | (go_simp; first | rfl | (rw [if_neg] <;> first | rfl | omega) | (rw [if_pos] <;> first | rfl | omega))))); (try simp only [Rg4.nrm]))
  refine Rg4.w4_some (Rg4.want_none rfl) rfl (fun w' hw' hcl' _ => ?_) ?_
  · refine Rg.relAt_call (by go_simp; exact ⟨rfl, rfl⟩) ?_
    refine (HR1.out _).mono ?_
    rintro en w'' ⟨rfl, hx⟩
    exact ⟨_, rfl, hx, trivial, rfl⟩
  rintro v ⟨_, _, _, rfl⟩
  (try simp only [Rg4.nrm])
  (refine Rg4.w4_read (Rg4.want_none rfl) rfl rfl ?_; apply Exists.intro; refine ⟨fun w' hw' hcl' => ?_, ?_⟩; focus (have st' := st.ext hw'; have hc' := st'.facts; (try simp only [nfl, nft, Nat.reduceAdd] at hc'); (focus (first | (go_simp; done) | (go_simp; first | rfl | (rw [if_neg] <;> first | rfl | omega) | (rw [if_pos] <;> first | rfl | omega))))); (try simp only [Rg4.nrm]))
  refine Rg4.w4_some (Rg4.want_none rfl) rfl (fun w' hw' hcl' _ => ?_) ?_
  · refine Rg.relAt_call (by go_simp; exact ⟨rfl, rfl⟩) ?_
    refine (HR2.out _).mono ?_
    rintro en w'' ⟨rfl, hx⟩
    exact ⟨_, rfl, hx, trivial, rfl⟩
  rintro v ⟨_, _, _, rfl⟩
  (try simp only [Rg4.nrm])
  iterate 2 (refine Rg4.w4_any (Rg4.want_none rfl) rfl ?_; apply Exists.intro; refine ⟨fun w' => ?_, ?_⟩; (focus (first | (go_simp; done) | (go_simp; first | rfl | (rw [if_neg] <;> first | rfl | omega) | (rw [if_pos] <;> first | rfl | omega)))); (try simp only [Rg4.nrm]))
  refine Rg4.w4_nil (fun w' hw' hcl' _ => ?_); replace st := st.ext hw'; clear hw' hcl'; (try clear hc); have hc := st.facts; (try simp only [nfl, nft, Nat.reduceAdd] at hc)
  go_wp2_with fail
  refine Rg4.wp_region4 (Rel := Ext) #[0, 0, 2, 7, 15, 0, 47, 111, 255, 511]
    [(3, ⟨fun v w => ∃ va vc, v = .slice va m1 vc , fun _ _ _ _ h => h⟩), (6, ⟨fun v w => ∃ va vc, v = .slice va m2 vc , fun _ _ _ _ h => h⟩)] [2] [1] (fun W' => Blk W' b3 [.string ⟨nm.toArray⟩, .slice ga gn gc, .slice aa an ac] ∧ Blk W' b4 [.string ⟨nm2.toArray⟩, .slice ga2 gn2 gc2, .slice aa2 an2 ac2]) [0, 1, 5, 2, 3, 4, 6, 7, 8, 9] (by kernel_rfl) (by kernel_rfl) (by kernel_rfl) (by kernel_rfl) Ext.refl (fun _ _ _ => Ext.trans) (show Rg4.PB _ by repeat (first | with_reducible exact Rg4.pb_body | with_reducible exact Rg4.pb_bodyD rfl | with_reducible refine Rg4.pb_then ?_ | with_reducible refine Rg4.pb_inBlock ?_ | with_reducible refine Rg4.pb_noGoto ?_)) (⟨st.drew.blk (i := 1) get1, st.drew.blk (i := 2) get2⟩) ?_
  replace st := st.drew
  change Rg4.wp4 _ _ _ _ _ _ _ _ _ (World.drew _) _ _
  generalize World.drew _ = w at st ⊢
  (try clear hc); have hc := st.facts; (try simp only [nfl, nft, Nat.reduceAdd] at hc)
  (refine Rg4.w4_cl (Rg4.want_none rfl) rfl ?_; apply Exists.intro; refine ⟨fun w' hcl => ?_, ?_⟩; (focus (have q0 := Blk.cell hcl.1 0; have q1 := Blk.cell hcl.1 1; have q2 := Blk.cell hcl.1 2; have s0 := Blk.cell hcl.2 0; have s1 := Blk.cell hcl.2 1; have s2 := Blk.cell hcl.2 2; (try simp at q0 q1 q2 s0 s1 s2); (focus (first | (go_simp; done) | (go_simp; first | rfl | (rw [if_neg] <;> first | rfl | omega) | (rw [if_pos] <;> first | rfl | omega)))))); (try simp only [Rg4.nrm]))
  (refine Rg4.w4_read (Rg4.want_none rfl) rfl rfl ?_; apply Exists.intro; refine ⟨fun w' hw' hcl' => ?_, ?_⟩; focus (have st' := st.ext hw'; have hc' := st'.facts; (try simp only [nfl, nft, Nat.reduceAdd] at hc'); (focus (first | (go_simp; done) | (go_simp; first | rfl | (rw [if_neg] <;> first | rfl | omega) | (rw [if_pos] <;> first | rfl | omega))))); (try simp only [Rg4.nrm]))
  (refine Rg4.w4_cl (Rg4.want_none rfl) rfl ?_; apply Exists.intro; refine ⟨fun w' hcl => ?_, ?_⟩; (focus (have q0 := Blk.cell hcl.1 0; have q1 := Blk.cell hcl.1 1; have q2 := Blk.cell hcl.1 2; have s0 := Blk.cell hcl.2 0; have s1 := Blk.cell hcl.2 1; have s2 := Blk.cell hcl.2 2; (try simp at q0 q1 q2 s0 s1 s2); (focus (first | (go_simp; done) | (go_simp; first | rfl | (rw [if_neg] <;> first | rfl | omega) | (rw [if_pos] <;> first | rfl | omega)))))); (try simp only [Rg4.nrm]))
  (refine Rg4.w4_bar (Rg4.want_none rfl) rfl (fun w' hw' hcl' _ K hK => ?_); replace st := st.ext hw'; (refine owp_buildSlice (o := ⟨some 16, _, _, _, _, _⟩) rfl st ?_; apply Exists.intro; apply Exists.intro; apply Exists.intro; apply Exists.intro; refine ⟨?_, ?_⟩; (focus (go_simp; (first | done | exact ⟨⟨rfl, rfl⟩, rfl⟩ | rfl))); (clear st; intro b16 w hb st; clear hb); (try simp only [nsl, Value.cells, unB] at st); (try clear hc); have hc := st.facts; (try simp only [nfl, nft, Nat.reduceAdd] at hc)); refine hK _ _ ⟨⟨st.blk (i := 1) get1, st.blk (i := 2) get2⟩, ?_⟩; (try simp only [Rg4.nrm]))
  refine Rg4.w4_some (Rg4.want_none rfl) rfl (fun w' hw' hcl' _ => ?_) ?_
  · refine Rg.relAt_call (by go_simp; exact ⟨rfl, rfl⟩) ?_
    have st' := st.ext hw'
    refine (HA1.out _ _ st'.ext0 (fl_lit (st'.blk (i := 4) get4) [fx] HC.out)).mono ?_
    rintro en w'' ⟨va, vc, rfl, _, hx⟩
    exact ⟨_, rfl, hx, ⟨(st'.ext hx).blk (i := 1) get1, (st'.ext hx).blk (i := 2) get2⟩, va, vc, rfl⟩
  rintro v ⟨_, _, _, va, vc, rfl⟩
  (try simp only [Rg4.nrm])
  (refine Rg4.w4_any (Rg4.want_none rfl) rfl ?_; apply Exists.intro; refine ⟨fun w' => ?_, ?_⟩; (focus (first | (go_simp; done) | (go_simp; first | rfl | (rw [if_neg] <;> first | rfl | omega) | (rw [if_pos] <;> first | rfl | omega)))); (try simp only [Rg4.nrm]))
  refine Rg4.w4_some (Rg4.want_none rfl) rfl (fun w' hw' hcl' _ => ?_) ?_
  · refine Rg.relAt_call (by go_simp; exact ⟨rfl, rfl⟩) ?_
    have st' := st.ext hw'
    refine (HA2.out _ st'.ext0).mono ?_
    rintro en w'' ⟨va, vc, rfl, _, hx⟩
    exact ⟨_, rfl, hx, ⟨(st'.ext hx).blk (i := 1) get1, (st'.ext hx).blk (i := 2) get2⟩, va, vc, rfl⟩
  rintro v ⟨_, _, _, va2, vc2, rfl⟩
  (try simp only [Rg4.nrm])
  iterate 3 (refine Rg4.w4_any (Rg4.want_none rfl) rfl ?_; apply Exists.intro; refine ⟨fun w' => ?_, ?_⟩; (focus (first | (go_simp; done) | (go_simp; first | rfl | (rw [if_neg] <;> first | rfl | omega) | (rw [if_pos] <;> first | rfl | omega)))); (try simp only [Rg4.nrm]))
  refine Rg4.w4_nil (fun w' hw' hcl' _ => ?_); replace st := st.ext hw'; clear hw' hcl'; (try clear hc); have hc := st.facts; (try simp only [nfl, nft, Nat.reduceAdd] at hc)
  go_wp2_with fail
  go_ret
  exact ⟨by simp [z1, z2, z3, z4, z5], st.ext0⟩
end Go.Proofs.Ythjaopojlhdjpaa

namespace Go.Proofs.Ythjaopojlhdjpaa
set_option linter.unusedSimpArgs false
set_option linter.unusedVariables false
open Go Go.RowKit
end Go.Proofs.Ythjaopojlhdjpaa

namespace Go.Proofs.Ythjaopojlhdjpaa
set_option linter.unusedSimpArgs false
set_option linter.unusedVariables false
open Go Go.RowKit
end Go.Proofs.Ythjaopojlhdjpaa

namespace Go.Proofs.Ythjaopojlhdjpaa
set_option linter.unusedSimpArgs false
set_option linter.unusedVariables false
open Go Go.RowKit
theorem FoL.mono {b b' : Nat} (hb : b ≤ b') {f : Fo} (h : FoL b f) : FoL b' f := by
  induction h with
  | mk h1 h2 _ ih => exact .mk (Nat.le_trans h1 hb) (Nat.le_trans h2 hb) ih
def foA : Fo := .mk 1 0 ([97], [114]) []
theorem L_fo {b : Nat} {op k : Int} {o d : List UInt8} {kids : List Fo} (h1 : o.length ≤ b) (h2 : d.length ≤ b) (hk : ∀ x ∈ kids, FoL b x) : FoL b (.mk op k (o, d) kids) := .mk h1 h2 hk
theorem foA_L : FoL 100000 foA := L_fo (by decide) (by decide) (by simp)
theorem ok_leaf (W : World) (op k : Int) (r : Role) : FmOk W (.mk op k r none 0 0 []) := FmIn.mk ⟨Nat.le_refl _, by simp [maxLen]⟩ (Fl.nil _ _) (fun h => by omega) (by simp)
def fmA : Fm := .mk 1 0 ([97], [114]) none 0 0 []
theorem fmA_strip : fmA.strip = foA := rfl
end Go.Proofs.Ythjaopojlhdjpaa

namespace Go.Proofs.Ythjaopojlhdjpaa
set_option linter.unusedSimpArgs false
set_option linter.unusedVariables false
open Go Go.RowKit
def pa0 : PaT := ⟨[], none, 0, 0, [], none, 0, 0, []⟩
theorem pa0_ok (W : World) : PaOk W pa0 := ⟨⟨⟨Nat.le_refl _, by simp [maxLen, pa0]⟩, Fl.nil _ _, by simp [pa0]⟩, ⟨⟨Nat.le_refl _, by simp [maxLen, pa0]⟩, Fl.nil _ _, by simp [pa0]⟩⟩
theorem one_set {x : Role} (l : List Role) (h : roleR x = true) (hl : ∀ y, y ∈ l ↔ y = x) : roleSet l = [x] :=
  SSet.uniq (roleOrd roleR) (roleSet_set l) ⟨by simp, fun y => by
    constructor
    · intro q
      rw [List.mem_singleton.1 q]
      exact ⟨(hl x).2 rfl, h⟩
    · exact fun q => List.mem_singleton.2 ((hl y).1 q.1)⟩
theorem set_a : roleSet [(([97], [114]) : Role)] = [([97], [114])] := one_set _ (by decide +kernel) (by simp)
theorem sets_a : setsL [foA] = [([97], [114])] := by
  have e : setsL [foA] = roleSet [(([97], [114]) : Role)] ++ [] := rfl
  rw [e, set_a]; rfl
theorem turns_0 : turnsN pa0 pa0 (.mk 2 0 ([], []) []) = 4 := by
  have e : setsL [Fo.mk 2 0 ([], []) []] = roleSet [] ++ [] := rfl
  have h0 : roleSet [] = [] := List.eq_nil_of_length_eq_zero (by have := roleSet_len ([] : List Role); simpa using this)
  unfold turnsN
  rw [show paF pa0 = [] from rfl, List.nil_append, e, h0]
  rw [show setsL ([] : List Fo) = [] from rfl, List.append_nil, h0]
  rfl
theorem turns_a : turnsN pa0 pa0 foA = 6 := by
  have h0 : roleSet [] = [] := List.eq_nil_of_length_eq_zero (by have := roleSet_len ([] : List Role); simpa using this)
  unfold turnsN
  rw [show paF pa0 = [] from rfl, List.nil_append, sets_a, set_a]
  rw [show setsL ([] : List Fo) = [] from rfl, h0]
  rfl
theorem atoms_aa : (roleSet (setsL ([] ++ [foA, foA]))).length = 1 := by
  have e : setsL ([] ++ [foA, foA]) = roleSet [(([97], [114]) : Role)] ++ (roleSet [(([97], [114]) : Role)] ++ []) := rfl
  rw [e, set_a, one_set (x := ([97], [114])) _ (by decide +kernel) (by simp)]
  rfl
theorem fs_leaf {l : List Fo} (h1 : nodesL l ≤ 100000) (h2 : ∀ f ∈ l, FoL 100000 f) : FsL l := ⟨h1, h2⟩
set_option maxRecDepth 100000 in
set_option maxHeartbeats 8000000 in
theorem first24_any (W : World) : Calls Try.prog 20 #[] W fun e w' => e = .returned (.bool true) ∧ Ext W w' := by
  have HR1 := Lib.hid (capsRight_any false 1 3 2 1 9)
  rw [show termR 1 3 2 1 9 = true by decide] at HR1
  have HR2 := Lib.hid (capsRight_any false 0 0 0 0 0)
  rw [show termR 0 0 0 0 0 = false by decide] at HR2
  have HT1 := Lib.hid (fun W => capsTurns_any pa0 pa0 (.mk 2 0 ([], []) none 0 0 []) W (pa0_ok _) (pa0_ok _) (ok_leaf _ _ _ _) (fs_leaf (by decide +kernel) (by
    intro f hf
    rw [List.mem_singleton.1 hf]
    exact L_fo (by decide) (by decide) (by simp [stripL]))) (fs_leaf (by decide) (by simp [paF, pa0])))
  rw [show (Fm.mk 2 0 ([], []) none 0 0 []).strip = .mk 2 0 ([], []) [] from rfl, turns_0] at HT1
  have HT2 := Lib.hid (fun W => capsTurns_any pa0 pa0 fmA W (pa0_ok _) (pa0_ok _) (ok_leaf _ _ _ _) (fs_leaf (by decide +kernel) (by
    intro f hf
    rw [List.mem_singleton.1 hf]
    exact foA_L)) (fs_leaf (by decide) (by simp [paF, pa0])))
  rw [fmA_strip, turns_a] at HT2
  have HRM := Lib.hid (capsRoom_any pa0)
  have HTK := Lib.hid (capsTicks_any 4 3 2)
  rw [show tickN 4 3 2 = 13 by decide] at HTK
  have HAT := Lib.hid (fun b W (h : Fl W (some ⟨b, 0, none⟩) 2 [fmA, fmA]) => capsAtoms_f pa0 (some ⟨b, 0, none⟩) 2 2 [fmA, fmA] W (pa0_ok _) h (fun x hx => by
    rcases List.mem_cons.1 hx with e | e
    · rw [e]; exact ok_leaf _ _ _ _
    · rw [List.mem_singleton.1 e]; exact ok_leaf _ _ _ _) (fs_leaf (by decide +kernel) (by
    intro f hf
    rcases List.mem_cons.1 hf with e | e
    · rw [e]; exact foA_L
    · rw [List.mem_singleton.1 e]; exact foA_L)))
  rw [show paF pa0 ++ [fmA, fmA].map Fm.strip = [] ++ [foA, foA] from rfl, atoms_aa] at HAT
  rw [show paV pa0 = .agg #[.string ⟨#[]⟩, .slice none 0 0, .slice none 0 0] from rfl] at HT1 HT2 HRM HAT
  rw [show fmV fmA = .agg #[.int .i64 1, .int .i64 0, .string ⟨#[97]⟩, .string ⟨#[114]⟩, .slice none 0 0] from rfl] at HT2
  rw [show fmV (Fm.mk 2 0 ([], []) none 0 0 []) = .agg #[.int .i64 2, .int .i64 0, .string ⟨#[]⟩, .string ⟨#[]⟩, .slice none 0 0] from rfl] at HT1
  unfold tV at HR1 HR2
  have st := Own.startOld W
  (try simp only [nsl, Value.cells, unB] at st)
  (try clear hc); have hc := st.facts; (try simp only [nfl, nft, Nat.reduceAdd] at hc)
  go_enter Try.func20, Try.ntmps20
  go_wp2_with ((first
        | ((with_reducible refine wl_alloc ?_ (fun K hK => ?_)); rfl; refine owp_alloc (o := ⟨some 1, _, _, _, _, _⟩) rfl st ?_; apply Exists.intro; apply Exists.intro; refine ⟨?_, ?_⟩; (focus (first | (go_simp; done) | (go_simp; rfl))); (clear st; intro b1 w hb st; clear hb))
        | ((with_reducible refine wl_store ?_ (fun K hK => ?_)); rfl; refine owp_store rfl st ?_; apply Exists.intro; apply Exists.intro; refine ⟨?_, ?_, ?_⟩; (focus (go_simp; try rfl)); (focus (go_simp; try rfl)); (first | (with_reducible refine ⟨0, _, _, _, _, get0, rfl, rfl, ?_, ?_, ?_, ?_⟩) | (with_reducible refine ⟨1, _, _, _, _, get1, rfl, rfl, ?_, ?_, ?_, ?_⟩) | (with_reducible refine ⟨2, _, _, _, _, get2, rfl, rfl, ?_, ?_, ?_, ?_⟩) | (with_reducible refine ⟨3, _, _, _, _, get3, rfl, rfl, ?_, ?_, ?_, ?_⟩) | (with_reducible refine ⟨4, _, _, _, _, get4, rfl, rfl, ?_, ?_, ?_, ?_⟩) | (with_reducible refine ⟨5, _, _, _, _, get5, rfl, rfl, ?_, ?_, ?_, ?_⟩) | (with_reducible refine ⟨6, _, _, _, _, get6, rfl, rfl, ?_, ?_, ?_, ?_⟩) | (with_reducible refine ⟨7, _, _, _, _, get7, rfl, rfl, ?_, ?_, ?_, ?_⟩)); (kernel_rfl); (simp [Value.cells]); (rfl); (clear st; intro w st))
        | ((with_reducible refine wl_alloc ?_ (fun K hK => ?_)); rfl; refine owp_alloc (o := ⟨some 2, _, _, _, _, _⟩) rfl st ?_; apply Exists.intro; apply Exists.intro; refine ⟨?_, ?_⟩; (focus (first | (go_simp; done) | (go_simp; rfl))); (clear st; intro b2 w hb st; clear hb))
        | ((with_reducible refine wl_buildSlice ?_ (fun K hK => ?_)); rfl; refine owp_buildSlice (o := ⟨some 40, _, _, _, _, _⟩) rfl st ?_; apply Exists.intro; apply Exists.intro; apply Exists.intro; apply Exists.intro; refine ⟨?_, ?_⟩; (focus (go_simp; (first | done | exact ⟨⟨rfl, rfl⟩, rfl⟩ | rfl))); (clear st; intro b40 w hb st; clear hb))); (try simp only [nsl, Value.cells, unB] at st); (try clear hc); have hc := st.facts; (try simp only [nfl, nft, Nat.reduceAdd] at hc))
  refine (HR1.out _).mono ?_
  rintro en w ⟨rfl, hx⟩
  replace st := st.ext hx
  clear hx
  (try clear hc); have hc := st.facts; (try simp only [nfl, nft, Nat.reduceAdd] at hc)
  go_wp2_with ((first
        | ((with_reducible refine wl_alloc ?_ (fun K hK => ?_)); rfl; refine owp_alloc (o := ⟨some 1, _, _, _, _, _⟩) rfl st ?_; apply Exists.intro; apply Exists.intro; refine ⟨?_, ?_⟩; (focus (first | (go_simp; done) | (go_simp; rfl))); (clear st; intro b1 w hb st; clear hb))
        | ((with_reducible refine wl_store ?_ (fun K hK => ?_)); rfl; refine owp_store rfl st ?_; apply Exists.intro; apply Exists.intro; refine ⟨?_, ?_, ?_⟩; (focus (go_simp; try rfl)); (focus (go_simp; try rfl)); (first | (with_reducible refine ⟨0, _, _, _, _, get0, rfl, rfl, ?_, ?_, ?_, ?_⟩) | (with_reducible refine ⟨1, _, _, _, _, get1, rfl, rfl, ?_, ?_, ?_, ?_⟩) | (with_reducible refine ⟨2, _, _, _, _, get2, rfl, rfl, ?_, ?_, ?_, ?_⟩) | (with_reducible refine ⟨3, _, _, _, _, get3, rfl, rfl, ?_, ?_, ?_, ?_⟩) | (with_reducible refine ⟨4, _, _, _, _, get4, rfl, rfl, ?_, ?_, ?_, ?_⟩) | (with_reducible refine ⟨5, _, _, _, _, get5, rfl, rfl, ?_, ?_, ?_, ?_⟩) | (with_reducible refine ⟨6, _, _, _, _, get6, rfl, rfl, ?_, ?_, ?_, ?_⟩) | (with_reducible refine ⟨7, _, _, _, _, get7, rfl, rfl, ?_, ?_, ?_, ?_⟩)); (kernel_rfl); (simp [Value.cells]); (rfl); (clear st; intro w st))
        | ((with_reducible refine wl_alloc ?_ (fun K hK => ?_)); rfl; refine owp_alloc (o := ⟨some 2, _, _, _, _, _⟩) rfl st ?_; apply Exists.intro; apply Exists.intro; refine ⟨?_, ?_⟩; (focus (first | (go_simp; done) | (go_simp; rfl))); (clear st; intro b2 w hb st; clear hb))
        | ((with_reducible refine wl_buildSlice ?_ (fun K hK => ?_)); rfl; refine owp_buildSlice (o := ⟨some 40, _, _, _, _, _⟩) rfl st ?_; apply Exists.intro; apply Exists.intro; apply Exists.intro; apply Exists.intro; refine ⟨?_, ?_⟩; (focus (go_simp; (first | done | exact ⟨⟨rfl, rfl⟩, rfl⟩ | rfl))); (clear st; intro b40 w hb st; clear hb))); (try simp only [nsl, Value.cells, unB] at st); (try clear hc); have hc := st.facts; (try simp only [nfl, nft, Nat.reduceAdd] at hc))
  refine (HR2.out _).mono ?_
  rintro en w ⟨rfl, hx⟩
  replace st := st.ext hx
  clear hx
  (try clear hc); have hc := st.facts; (try simp only [nfl, nft, Nat.reduceAdd] at hc)
  go_wp2_with ((first
        | ((with_reducible refine wl_alloc ?_ (fun K hK => ?_)); rfl; refine owp_alloc (o := ⟨some 1, _, _, _, _, _⟩) rfl st ?_; apply Exists.intro; apply Exists.intro; refine ⟨?_, ?_⟩; (focus (first | (go_simp; done) | (go_simp; rfl))); (clear st; intro b1 w hb st; clear hb))
        | ((with_reducible refine wl_store ?_ (fun K hK => ?_)); rfl; refine owp_store rfl st ?_; apply Exists.intro; apply Exists.intro; refine ⟨?_, ?_, ?_⟩; (focus (go_simp; try rfl)); (focus (go_simp; try rfl)); (first | (with_reducible refine ⟨0, _, _, _, _, get0, rfl, rfl, ?_, ?_, ?_, ?_⟩) | (with_reducible refine ⟨1, _, _, _, _, get1, rfl, rfl, ?_, ?_, ?_, ?_⟩) | (with_reducible refine ⟨2, _, _, _, _, get2, rfl, rfl, ?_, ?_, ?_, ?_⟩) | (with_reducible refine ⟨3, _, _, _, _, get3, rfl, rfl, ?_, ?_, ?_, ?_⟩) | (with_reducible refine ⟨4, _, _, _, _, get4, rfl, rfl, ?_, ?_, ?_, ?_⟩) | (with_reducible refine ⟨5, _, _, _, _, get5, rfl, rfl, ?_, ?_, ?_, ?_⟩) | (with_reducible refine ⟨6, _, _, _, _, get6, rfl, rfl, ?_, ?_, ?_, ?_⟩) | (with_reducible refine ⟨7, _, _, _, _, get7, rfl, rfl, ?_, ?_, ?_, ?_⟩)); (kernel_rfl); (simp [Value.cells]); (rfl); (clear st; intro w st))
        | ((with_reducible refine wl_alloc ?_ (fun K hK => ?_)); rfl; refine owp_alloc (o := ⟨some 2, _, _, _, _, _⟩) rfl st ?_; apply Exists.intro; apply Exists.intro; refine ⟨?_, ?_⟩; (focus (first | (go_simp; done) | (go_simp; rfl))); (clear st; intro b2 w hb st; clear hb))
        | ((with_reducible refine wl_buildSlice ?_ (fun K hK => ?_)); rfl; refine owp_buildSlice (o := ⟨some 40, _, _, _, _, _⟩) rfl st ?_; apply Exists.intro; apply Exists.intro; apply Exists.intro; apply Exists.intro; refine ⟨?_, ?_⟩; (focus (go_simp; (first | done | exact ⟨⟨rfl, rfl⟩, rfl⟩ | rfl))); (clear st; intro b40 w hb st; clear hb))); (try simp only [nsl, Value.cells, unB] at st); (try clear hc); have hc := st.facts; (try simp only [nfl, nft, Nat.reduceAdd] at hc))
  refine (HT1.out _).mono ?_
  rintro en w ⟨rfl, hx⟩
  replace st := st.ext hx
  clear hx
  (try clear hc); have hc := st.facts; (try simp only [nfl, nft, Nat.reduceAdd] at hc)
  go_wp2_with ((first
        | ((with_reducible refine wl_alloc ?_ (fun K hK => ?_)); rfl; refine owp_alloc (o := ⟨some 1, _, _, _, _, _⟩) rfl st ?_; apply Exists.intro; apply Exists.intro; refine ⟨?_, ?_⟩; (focus (first | (go_simp; done) | (go_simp; rfl))); (clear st; intro b1 w hb st; clear hb))
        | ((with_reducible refine wl_store ?_ (fun K hK => ?_)); rfl; refine owp_store rfl st ?_; apply Exists.intro; apply Exists.intro; refine ⟨?_, ?_, ?_⟩; (focus (go_simp; try rfl)); (focus (go_simp; try rfl)); (first | (with_reducible refine ⟨0, _, _, _, _, get0, rfl, rfl, ?_, ?_, ?_, ?_⟩) | (with_reducible refine ⟨1, _, _, _, _, get1, rfl, rfl, ?_, ?_, ?_, ?_⟩) | (with_reducible refine ⟨2, _, _, _, _, get2, rfl, rfl, ?_, ?_, ?_, ?_⟩) | (with_reducible refine ⟨3, _, _, _, _, get3, rfl, rfl, ?_, ?_, ?_, ?_⟩) | (with_reducible refine ⟨4, _, _, _, _, get4, rfl, rfl, ?_, ?_, ?_, ?_⟩) | (with_reducible refine ⟨5, _, _, _, _, get5, rfl, rfl, ?_, ?_, ?_, ?_⟩) | (with_reducible refine ⟨6, _, _, _, _, get6, rfl, rfl, ?_, ?_, ?_, ?_⟩) | (with_reducible refine ⟨7, _, _, _, _, get7, rfl, rfl, ?_, ?_, ?_, ?_⟩)); (kernel_rfl); (simp [Value.cells]); (rfl); (clear st; intro w st))
        | ((with_reducible refine wl_alloc ?_ (fun K hK => ?_)); rfl; refine owp_alloc (o := ⟨some 2, _, _, _, _, _⟩) rfl st ?_; apply Exists.intro; apply Exists.intro; refine ⟨?_, ?_⟩; (focus (first | (go_simp; done) | (go_simp; rfl))); (clear st; intro b2 w hb st; clear hb))
        | ((with_reducible refine wl_buildSlice ?_ (fun K hK => ?_)); rfl; refine owp_buildSlice (o := ⟨some 40, _, _, _, _, _⟩) rfl st ?_; apply Exists.intro; apply Exists.intro; apply Exists.intro; apply Exists.intro; refine ⟨?_, ?_⟩; (focus (go_simp; (first | done | exact ⟨⟨rfl, rfl⟩, rfl⟩ | rfl))); (clear st; intro b40 w hb st; clear hb))); (try simp only [nsl, Value.cells, unB] at st); (try clear hc); have hc := st.facts; (try simp only [nfl, nft, Nat.reduceAdd] at hc))
  refine (HT2.out _).mono ?_
  rintro en w ⟨rfl, hx⟩
  replace st := st.ext hx
  clear hx
  (try clear hc); have hc := st.facts; (try simp only [nfl, nft, Nat.reduceAdd] at hc)
  go_wp2_with ((first
        | ((with_reducible refine wl_alloc ?_ (fun K hK => ?_)); rfl; refine owp_alloc (o := ⟨some 1, _, _, _, _, _⟩) rfl st ?_; apply Exists.intro; apply Exists.intro; refine ⟨?_, ?_⟩; (focus (first | (go_simp; done) | (go_simp; rfl))); (clear st; intro b1 w hb st; clear hb))
        | ((with_reducible refine wl_store ?_ (fun K hK => ?_)); rfl; refine owp_store rfl st ?_; apply Exists.intro; apply Exists.intro; refine ⟨?_, ?_, ?_⟩; (focus (go_simp; try rfl)); (focus (go_simp; try rfl)); (first | (with_reducible refine ⟨0, _, _, _, _, get0, rfl, rfl, ?_, ?_, ?_, ?_⟩) | (with_reducible refine ⟨1, _, _, _, _, get1, rfl, rfl, ?_, ?_, ?_, ?_⟩) | (with_reducible refine ⟨2, _, _, _, _, get2, rfl, rfl, ?_, ?_, ?_, ?_⟩) | (with_reducible refine ⟨3, _, _, _, _, get3, rfl, rfl, ?_, ?_, ?_, ?_⟩) | (with_reducible refine ⟨4, _, _, _, _, get4, rfl, rfl, ?_, ?_, ?_, ?_⟩) | (with_reducible refine ⟨5, _, _, _, _, get5, rfl, rfl, ?_, ?_, ?_, ?_⟩) | (with_reducible refine ⟨6, _, _, _, _, get6, rfl, rfl, ?_, ?_, ?_, ?_⟩) | (with_reducible refine ⟨7, _, _, _, _, get7, rfl, rfl, ?_, ?_, ?_, ?_⟩)); (kernel_rfl); (simp [Value.cells]); (rfl); (clear st; intro w st))
        | ((with_reducible refine wl_alloc ?_ (fun K hK => ?_)); rfl; refine owp_alloc (o := ⟨some 2, _, _, _, _, _⟩) rfl st ?_; apply Exists.intro; apply Exists.intro; refine ⟨?_, ?_⟩; (focus (first | (go_simp; done) | (go_simp; rfl))); (clear st; intro b2 w hb st; clear hb))
        | ((with_reducible refine wl_buildSlice ?_ (fun K hK => ?_)); rfl; refine owp_buildSlice (o := ⟨some 40, _, _, _, _, _⟩) rfl st ?_; apply Exists.intro; apply Exists.intro; apply Exists.intro; apply Exists.intro; refine ⟨?_, ?_⟩; (focus (go_simp; (first | done | exact ⟨⟨rfl, rfl⟩, rfl⟩ | rfl))); (clear st; intro b40 w hb st; clear hb))); (try simp only [nsl, Value.cells, unB] at st); (try clear hc); have hc := st.facts; (try simp only [nfl, nft, Nat.reduceAdd] at hc))
  refine (HRM.out _).mono ?_
  rintro en w ⟨rfl, hx⟩
  replace st := st.ext hx
  clear hx
  (try clear hc); have hc := st.facts; (try simp only [nfl, nft, Nat.reduceAdd] at hc)
  go_wp2_with ((first
        | ((with_reducible refine wl_alloc ?_ (fun K hK => ?_)); rfl; refine owp_alloc (o := ⟨some 1, _, _, _, _, _⟩) rfl st ?_; apply Exists.intro; apply Exists.intro; refine ⟨?_, ?_⟩; (focus (first | (go_simp; done) | (go_simp; rfl))); (clear st; intro b1 w hb st; clear hb))
        | ((with_reducible refine wl_store ?_ (fun K hK => ?_)); rfl; refine owp_store rfl st ?_; apply Exists.intro; apply Exists.intro; refine ⟨?_, ?_, ?_⟩; (focus (go_simp; try rfl)); (focus (go_simp; try rfl)); (first | (with_reducible refine ⟨0, _, _, _, _, get0, rfl, rfl, ?_, ?_, ?_, ?_⟩) | (with_reducible refine ⟨1, _, _, _, _, get1, rfl, rfl, ?_, ?_, ?_, ?_⟩) | (with_reducible refine ⟨2, _, _, _, _, get2, rfl, rfl, ?_, ?_, ?_, ?_⟩) | (with_reducible refine ⟨3, _, _, _, _, get3, rfl, rfl, ?_, ?_, ?_, ?_⟩) | (with_reducible refine ⟨4, _, _, _, _, get4, rfl, rfl, ?_, ?_, ?_, ?_⟩) | (with_reducible refine ⟨5, _, _, _, _, get5, rfl, rfl, ?_, ?_, ?_, ?_⟩) | (with_reducible refine ⟨6, _, _, _, _, get6, rfl, rfl, ?_, ?_, ?_, ?_⟩) | (with_reducible refine ⟨7, _, _, _, _, get7, rfl, rfl, ?_, ?_, ?_, ?_⟩)); (kernel_rfl); (simp [Value.cells]); (rfl); (clear st; intro w st))
        | ((with_reducible refine wl_alloc ?_ (fun K hK => ?_)); rfl; refine owp_alloc (o := ⟨some 2, _, _, _, _, _⟩) rfl st ?_; apply Exists.intro; apply Exists.intro; refine ⟨?_, ?_⟩; (focus (first | (go_simp; done) | (go_simp; rfl))); (clear st; intro b2 w hb st; clear hb))
        | ((with_reducible refine wl_buildSlice ?_ (fun K hK => ?_)); rfl; refine owp_buildSlice (o := ⟨some 40, _, _, _, _, _⟩) rfl st ?_; apply Exists.intro; apply Exists.intro; apply Exists.intro; apply Exists.intro; refine ⟨?_, ?_⟩; (focus (go_simp; (first | done | exact ⟨⟨rfl, rfl⟩, rfl⟩ | rfl))); (clear st; intro b40 w hb st; clear hb))); (try simp only [nsl, Value.cells, unB] at st); (try clear hc); have hc := st.facts; (try simp only [nfl, nft, Nat.reduceAdd] at hc))
  refine (HTK.out _).mono ?_
  rintro en w ⟨rfl, hx⟩
  replace st := st.ext hx
  clear hx
  (try clear hc); have hc := st.facts; (try simp only [nfl, nft, Nat.reduceAdd] at hc)
  go_wp2_with ((first
        | ((with_reducible refine wl_alloc ?_ (fun K hK => ?_)); rfl; refine owp_alloc (o := ⟨some 1, _, _, _, _, _⟩) rfl st ?_; apply Exists.intro; apply Exists.intro; refine ⟨?_, ?_⟩; (focus (first | (go_simp; done) | (go_simp; rfl))); (clear st; intro b1 w hb st; clear hb))
        | ((with_reducible refine wl_store ?_ (fun K hK => ?_)); rfl; refine owp_store rfl st ?_; apply Exists.intro; apply Exists.intro; refine ⟨?_, ?_, ?_⟩; (focus (go_simp; try rfl)); (focus (go_simp; try rfl)); (first | (with_reducible refine ⟨0, _, _, _, _, get0, rfl, rfl, ?_, ?_, ?_, ?_⟩) | (with_reducible refine ⟨1, _, _, _, _, get1, rfl, rfl, ?_, ?_, ?_, ?_⟩) | (with_reducible refine ⟨2, _, _, _, _, get2, rfl, rfl, ?_, ?_, ?_, ?_⟩) | (with_reducible refine ⟨3, _, _, _, _, get3, rfl, rfl, ?_, ?_, ?_, ?_⟩) | (with_reducible refine ⟨4, _, _, _, _, get4, rfl, rfl, ?_, ?_, ?_, ?_⟩) | (with_reducible refine ⟨5, _, _, _, _, get5, rfl, rfl, ?_, ?_, ?_, ?_⟩) | (with_reducible refine ⟨6, _, _, _, _, get6, rfl, rfl, ?_, ?_, ?_, ?_⟩) | (with_reducible refine ⟨7, _, _, _, _, get7, rfl, rfl, ?_, ?_, ?_, ?_⟩)); (kernel_rfl); (simp [Value.cells]); (rfl); (clear st; intro w st))
        | ((with_reducible refine wl_alloc ?_ (fun K hK => ?_)); rfl; refine owp_alloc (o := ⟨some 2, _, _, _, _, _⟩) rfl st ?_; apply Exists.intro; apply Exists.intro; refine ⟨?_, ?_⟩; (focus (first | (go_simp; done) | (go_simp; rfl))); (clear st; intro b2 w hb st; clear hb))
        | ((with_reducible refine wl_buildSlice ?_ (fun K hK => ?_)); rfl; refine owp_buildSlice (o := ⟨some 40, _, _, _, _, _⟩) rfl st ?_; apply Exists.intro; apply Exists.intro; apply Exists.intro; apply Exists.intro; refine ⟨?_, ?_⟩; (focus (go_simp; (first | done | exact ⟨⟨rfl, rfl⟩, rfl⟩ | rfl))); (clear st; intro b40 w hb st; clear hb))); (try simp only [nsl, Value.cells, unB] at st); (try clear hc); have hc := st.facts; (try simp only [nfl, nft, Nat.reduceAdd] at hc))
  refine (HAT.out _ _ (fl_lit (st.blk (i := 3) get3) [fmA, fmA] rfl)).mono ?_
  rintro en w ⟨va, vc, rfl, _, hx⟩
  replace st := st.ext hx
  clear hx
  (try simp only [nsl, Value.cells, unB] at st)
  (try clear hc); have hc := st.facts; (try simp only [nfl, nft, Nat.reduceAdd] at hc)
  go_wp2_with ((first
        | ((with_reducible refine wl_alloc ?_ (fun K hK => ?_)); rfl; refine owp_alloc (o := ⟨some 1, _, _, _, _, _⟩) rfl st ?_; apply Exists.intro; apply Exists.intro; refine ⟨?_, ?_⟩; (focus (first | (go_simp; done) | (go_simp; rfl))); (clear st; intro b1 w hb st; clear hb))
        | ((with_reducible refine wl_store ?_ (fun K hK => ?_)); rfl; refine owp_store rfl st ?_; apply Exists.intro; apply Exists.intro; refine ⟨?_, ?_, ?_⟩; (focus (go_simp; try rfl)); (focus (go_simp; try rfl)); (first | (with_reducible refine ⟨0, _, _, _, _, get0, rfl, rfl, ?_, ?_, ?_, ?_⟩) | (with_reducible refine ⟨1, _, _, _, _, get1, rfl, rfl, ?_, ?_, ?_, ?_⟩) | (with_reducible refine ⟨2, _, _, _, _, get2, rfl, rfl, ?_, ?_, ?_, ?_⟩) | (with_reducible refine ⟨3, _, _, _, _, get3, rfl, rfl, ?_, ?_, ?_, ?_⟩) | (with_reducible refine ⟨4, _, _, _, _, get4, rfl, rfl, ?_, ?_, ?_, ?_⟩) | (with_reducible refine ⟨5, _, _, _, _, get5, rfl, rfl, ?_, ?_, ?_, ?_⟩) | (with_reducible refine ⟨6, _, _, _, _, get6, rfl, rfl, ?_, ?_, ?_, ?_⟩) | (with_reducible refine ⟨7, _, _, _, _, get7, rfl, rfl, ?_, ?_, ?_, ?_⟩)); (kernel_rfl); (simp [Value.cells]); (rfl); (clear st; intro w st))
        | ((with_reducible refine wl_alloc ?_ (fun K hK => ?_)); rfl; refine owp_alloc (o := ⟨some 2, _, _, _, _, _⟩) rfl st ?_; apply Exists.intro; apply Exists.intro; refine ⟨?_, ?_⟩; (focus (first | (go_simp; done) | (go_simp; rfl))); (clear st; intro b2 w hb st; clear hb))
        | ((with_reducible refine wl_buildSlice ?_ (fun K hK => ?_)); rfl; refine owp_buildSlice (o := ⟨some 40, _, _, _, _, _⟩) rfl st ?_; apply Exists.intro; apply Exists.intro; apply Exists.intro; apply Exists.intro; refine ⟨?_, ?_⟩; (focus (go_simp; (first | done | exact ⟨⟨rfl, rfl⟩, rfl⟩ | rfl))); (clear st; intro b40 w hb st; clear hb))); (try simp only [nsl, Value.cells, unB] at st); (try clear hc); have hc := st.facts; (try simp only [nfl, nft, Nat.reduceAdd] at hc))
  go_ret
  exact ⟨rfl, st.ext0⟩
end Go.Proofs.Ythjaopojlhdjpaa

namespace Go.Proofs.Ythjaopojlhdjpaa
set_option linter.unusedSimpArgs false
set_option linter.unusedVariables false
open Go Go.RowKit
end Go.Proofs.Ythjaopojlhdjpaa

namespace Go.Proofs.Ythjaopojlhdjpaa
set_option linter.unusedSimpArgs false
set_option linter.unusedVariables false
open Go Go.RowKit
end Go.Proofs.Ythjaopojlhdjpaa

namespace Go.Proofs.Ythjaopojlhdjpaa
set_option linter.unusedSimpArgs false
set_option linter.unusedVariables false
open Go Go.RowKit
def gW (g : GuT) : Nat := wtSg g.s + 20 * g.f.strip.great
def aW (a : AckT) : Nat := a.r.1.length + a.r.2.length + 20 * a.f.strip.great + weightC a.cs
/-- How great a party is. -/
def paW (p : PaT) : Nat := p.nm.length + (p.gs.map gW).sum + (p.ks.map aW).sum
theorem sum_take {α : Type} (f : α → Nat) (l : List α) (j : Nat) (h : j < l.length) : ((l.take (j + 1)).map f).sum = ((l.take j).map f).sum + f l[j] := by
  rw [← List.take_append_getElem h, List.map_append, List.sum_append]; simp
theorem sum_take_le {α : Type} (f : α → Nat) : ∀ (l : List α) (j : Nat), ((l.take j).map f).sum ≤ (l.map f).sum
  | [], j => by simp
  | x :: l, 0 => by simp
  | x :: l, j + 1 => by have := sum_take_le f l j; rw [List.take_succ_cons, List.map_cons, List.map_cons, List.sum_cons, List.sum_cons]; omega
theorem gW_pos (g : GuT) : 20 ≤ gW g := by unfold gW wtSg wtC; omega
theorem aW_pos (a : AckT) : 20 ≤ aW a := by unfold aW; have := great_nodes a.f.strip; have := nodes_pos a.f.strip; omega
theorem sum_len {α : Type} (f : α → Nat) (h : ∀ x, 20 ≤ f x) : ∀ l : List α, 20 * l.length ≤ (l.map f).sum
  | [] => by simp
  | x :: l => by have := sum_len f h l; have := h x; rw [List.map_cons, List.sum_cons, List.length_cons]; omega
theorem sum_mem {α : Type} (f : α → Nat) : ∀ (l : List α) (x : α), x ∈ l → f x ≤ (l.map f).sum
  | [], x, h => by simp at h
  | y :: l, x, h => by
    rw [List.map_cons, List.sum_cons]
    rcases List.mem_cons.1 h with e | e
    · subst e; omega
    · have := sum_mem f l x e; omega
set_option maxRecDepth 100000 in
set_option maxHeartbeats 8000000 in
theorem paGreat_any (p : PaT) (W : World) (hp : PaOk W p) (hs : paW p ≤ 2000000000) :
    Calls Try.prog 25 #[paV p] W fun e w' => e = .returned (.int .i64 (paW p : Int)) ∧ Ext W w' := by
  have HP := Lib.hid hp
  have HN1 : Hid (p.gn = p.gs.length) := Lib.hid hp.1.2.1.1
  have HN2 : Hid (p.an = p.ks.length) := Lib.hid hp.2.2.1.1
  have hg1 : p.gn ≤ 2000000000 := by have := sum_len gW gW_pos p.gs; have := hp.1.2.1.1; unfold paW at hs; omega
  have hg2 : p.an ≤ 2000000000 := by have := sum_len aW aW_pos p.ks; have := hp.2.2.1.1; unfold paW at hs; omega
  have HV : Hid (paW p = p.nm.length + (p.gs.map gW).sum + (p.ks.map aW).sum) := Lib.hid rfl
  obtain ⟨v, hv⟩ : ∃ v, paW p = v := ⟨_, rfl⟩
  rw [hv] at HV hs ⊢
  clear hp hv
  obtain ⟨nm, ga, gn, gc, gs, aa, an, ac, ks⟩ := p
  simp only at HN1 HN2 hg1 hg2 HV
  have hszz : ∀ s : List UInt8, (⟨s.toArray⟩ : ByteArray).size = s.length := fun s => by simp [ByteArray.size]
  obtain ⟨l0, hl0⟩ : ∃ m, nm.length = m := ⟨_, rfl⟩
  have hsz0 : (⟨nm.toArray⟩ : ByteArray).size = l0 := by rw [hszz, hl0]
  have HSZ := Lib.hid hszz
  clear hszz
  rw [hl0] at HV
  have hl0b : l0 ≤ 2000000000 := by have := HV.out; omega
  clear hl0
  have st := Own.startOld W
  unfold paV
  simp only
  (try simp only [nsl, Value.cells, unB] at st)
  (try clear hc); have hc := st.facts; (try simp only [nfl, nft, Nat.reduceAdd] at hc)
  go_enter Try.func25, Try.ntmps25
  go_wp2_with ((first
        | ((with_reducible refine wl_box ?_ (fun K hK => ?_)); rfl; refine owp_box (o := ⟨some 1, _, _, _, _, _⟩) rfl st ?_; apply Exists.intro; refine ⟨?_, ?_⟩; (focus (go_simp; try rfl)); (clear st; intro b1 w hb st; clear hb))
        | ((with_reducible refine wl_alloc ?_ (fun K hK => ?_)); rfl; refine owp_alloc (o := ⟨some 5, _, _, _, _, _⟩) rfl st ?_; apply Exists.intro; apply Exists.intro; refine ⟨?_, ?_⟩; (focus (first | (go_simp; done) | (go_simp; rfl))); (clear st; intro b5 w hb st; clear hb))
        | ((with_reducible refine wl_store ?_ (fun K hK => ?_)); rfl; refine owp_store rfl st ?_; apply Exists.intro; apply Exists.intro; refine ⟨?_, ?_, ?_⟩; (focus (go_simp; try rfl)); (focus (go_simp; try rfl)); (first | (with_reducible refine ⟨0, _, _, _, _, get0, rfl, rfl, ?_, ?_, ?_, ?_⟩) | (with_reducible refine ⟨1, _, _, _, _, get1, rfl, rfl, ?_, ?_, ?_, ?_⟩) | (with_reducible refine ⟨2, _, _, _, _, get2, rfl, rfl, ?_, ?_, ?_, ?_⟩) | (with_reducible refine ⟨3, _, _, _, _, get3, rfl, rfl, ?_, ?_, ?_, ?_⟩) | (with_reducible refine ⟨4, _, _, _, _, get4, rfl, rfl, ?_, ?_, ?_, ?_⟩)); (kernel_rfl); (simp [Value.cells]); (rfl); (clear st; intro w st))
        | ((with_reducible refine wl_buildSlice ?_ (fun K hK => ?_)); rfl; refine owp_buildSlice (o := ⟨some 21, _, _, _, _, _⟩) rfl st ?_; apply Exists.intro; apply Exists.intro; apply Exists.intro; apply Exists.intro; refine ⟨?_, ?_⟩; (focus (go_simp; (first | done | exact ⟨⟨rfl, rfl⟩, rfl⟩ | rfl))); (clear st; intro b21 w hb st; clear hb))
        | ((with_reducible refine wl_buildSlice ?_ (fun K hK => ?_)); rfl; refine owp_buildSlice (o := ⟨some 25, _, _, _, _, _⟩) rfl st ?_; apply Exists.intro; apply Exists.intro; apply Exists.intro; apply Exists.intro; refine ⟨?_, ?_⟩; (focus (go_simp; (first | done | exact ⟨⟨rfl, rfl⟩, rfl⟩ | rfl))); (clear st; intro b25 w hb st; clear hb))
        | ((with_reducible refine wl_alloc ?_ (fun K hK => ?_)); rfl; refine owp_alloc (o := ⟨some 7, _, _, _, _, _⟩) rfl st ?_; apply Exists.intro; apply Exists.intro; refine ⟨?_, ?_⟩; (focus (first | (go_simp; done) | (go_simp; rfl))); (clear st; intro b7 w hb st; clear hb))
        | ((with_reducible refine wl_buildSlice ?_ (fun K hK => ?_)); rfl; refine owp_buildSlice (o := ⟨some 50, _, _, _, _, _⟩) rfl st ?_; apply Exists.intro; apply Exists.intro; apply Exists.intro; apply Exists.intro; refine ⟨?_, ?_⟩; (focus (go_simp; (first | done | exact ⟨⟨rfl, rfl⟩, rfl⟩ | rfl))); (clear st; intro b50 w hb st; clear hb))); (try simp only [nsl, Value.cells, unB] at st); (try clear hc); have hc := st.facts; (try simp only [nfl, nft, Nat.reduceAdd] at hc))
  go_loopg [3, 14] gn (fun q s i wr => ∃ (j g : Nat), j ≤ gn ∧ q = gn - j ∧ s = .int .i64 (g : Int) ∧ i = .int .i64 (j : Int) ∧ g ≤ 2000000000 ∧ Hid (g = l0 + ((gs.take j).map gW).sum) ∧ Own (fun _ => False) (fun _ => True) W [oldI W, blkI b1 [.string ⟨nm.toArray⟩, .slice ga gn gc, .slice aa an ac]] wr)
  case atStart => exact ⟨0, l0, by omega, by omega, rfl, rfl, by omega, Lib.hid (by simp), st⟩
  case round =>
    obtain ⟨j, g, hj, rfl, rfl, rfl, hg, HG, st'⟩ := hrel
    clear st hc
    have st := st'
    clear st'
    by_cases hjn : j < gn
    · obtain ⟨b, off, ha, hcell⟩ := Fl.gu (a := ga) (n := gn) (xs := gs) (HP.out.ext st.ext0).1.2.1 (by omega)
      have hjl : j < gs.length := by have := HN1.out; omega
      have hsn := sum_take gW gs j hjl
      have hle := sum_take_le gW gs (j + 1)
      rw [hsn] at hle
      have hvv := HV.out
      have hok := HP.out.1.2.2 _ (List.getElem_mem hjl)
      have hgt := List.getElem?_eq_getElem hjl
      generalize gs[j] = x at *
      obtain ⟨⟨cx, sa, sn, sm, sx⟩, fx⟩ := x
      have hgw : gW ⟨⟨cx, sa, sn, sm, sx⟩, fx⟩ = wtSg ⟨cx, sa, sn, sm, sx⟩ + 20 * fx.strip.great := rfl
      rw [hgw] at hsn hle
      have hgo := HG.out
      have HSG := Lib.hid (fun b W' (h : Fl W' (some ⟨b, 0, none⟩) 1 [(⟨cx, sa, sn, sm, sx⟩ : SgnT)]) => sgGreat_any (some ⟨b, 0, none⟩) 1 1 [⟨cx, sa, sn, sm, sx⟩] W' h (by simp [weightSg]; omega))
      rw [show weightSg [(⟨cx, sa, sn, sm, sx⟩ : SgnT)] = wtSg ⟨cx, sa, sn, sm, sx⟩ by simp [weightSg]] at HSG
      have HFG := Lib.hid (fun b W' (hx : Ext W W') (h : Fl W' (some ⟨b, 0, none⟩) 1 [fx]) => fmGreat_any [fx] (some ⟨b, 0, none⟩) 1 1 W' h (fun x hx' => by rw [List.mem_singleton.1 hx']; exact FmOk.ext hok.2 hx) (by simp [greatL]; omega))
      rw [show greatL ([fx].map Fm.strip) = fx.strip.great by simp [greatL]] at HFG
      obtain ⟨ws, hws⟩ : ∃ w, wtSg ⟨cx, sa, sn, sm, sx⟩ = w := ⟨_, rfl⟩
      obtain ⟨gr, hgr⟩ : ∃ w, fx.strip.great = w := ⟨_, rfl⟩
      rw [hws] at HSG hsn hle
      rw [hgr] at HFG hsn hle
      have HG2 : Hid (g + (ws + 20 * gr) = l0 + ((gs.take (j + 1)).map gW).sum) := Lib.hid (by rw [hsn, hgo]; omega)
      have hgb : g + (ws + 20 * gr) ≤ 2000000000 := by omega
      clear hsn hle hvv hok hgw hgo hws hgr hjl
      have z1 : IntKind.i64.wrap (20 * (gr : Int)) = 20 * (gr : Int) := IntWalk.i64_in _ ⟨by omega, by omega⟩
      have z2 : IntKind.i64.wrap ((ws : Int) + 20 * (gr : Int)) = (ws : Int) + 20 * (gr : Int) := IntWalk.i64_in _ ⟨by omega, by omega⟩
      have z3 : IntKind.i64.wrap ((g : Int) + ((ws : Int) + 20 * (gr : Int))) = ((g + (ws + 20 * gr) : Nat) : Int) := by rw [IntWalk.i64_in _ ⟨by omega, by omega⟩]; omega
      have HC1 : Hid (cellsL [(⟨cx, sa, sn, sm, sx⟩ : SgnT)] = [.int .i64 cx.k, .string ⟨cx.h.1.toArray⟩, .string ⟨cx.h.2.toArray⟩, .string ⟨cx.w.toArray⟩, .string ⟨cx.b.1.toArray⟩, .string ⟨cx.b.2.toArray⟩, .string ⟨cx.c.1.toArray⟩, .string ⟨cx.c.2.toArray⟩, .string ⟨cx.e.toArray⟩, .slice sa sn sm]) := Lib.hid rfl
      obtain ⟨ck, ⟨ho, hd⟩, nw, ⟨bo, bd⟩, ⟨co, cd⟩, we⟩ := cx
      obtain ⟨fy, hfy⟩ : ∃ g, fx = g := ⟨_, rfl⟩
      obtain ⟨op, k, ⟨o, d⟩, a', n', c', kids⟩ := fx
      have HC2 : Hid (cellsL [fy] = [.int .i64 op, .int .i64 k, .string ⟨o.toArray⟩, .string ⟨d.toArray⟩, .slice a' n' c']) := Lib.hid (by rw [← hfy]; rfl)
      obtain ⟨⟨r0, r1, r2, r3, r4, r5, r6, r7, r8, r9⟩, s0, s1, s2, s3, s4⟩ := hcell j _ sa sn sm sx op k (o, d) a' n' c' kids hgt
      clear hcell hgt
      rw [hfy] at HFG
      clear hfy
      subst ha
      unfold S at r1 r2 r3 r4 r5 r6 r7 r8 s2 s3
      simp only at r0 r1 r2 r3 r4 r5 r6 r7 r8 s2 s3
      simp only at HC1
      (try simp only [nsl, Value.cells, unB] at st)
      (try clear hc); have hc := st.facts; (try simp only [nfl, nft, Nat.reduceAdd] at hc)
      go_wp2_with ((first
            | ((with_reducible refine wl_box ?_ (fun K hK => ?_)); rfl; refine owp_box (o := ⟨some 1, _, _, _, _, _⟩) rfl st ?_; apply Exists.intro; refine ⟨?_, ?_⟩; (focus (go_simp; try rfl)); (clear st; intro b1 w hb st; clear hb))
            | ((with_reducible refine wl_alloc ?_ (fun K hK => ?_)); rfl; refine owp_alloc (o := ⟨some 5, _, _, _, _, _⟩) rfl st ?_; apply Exists.intro; apply Exists.intro; refine ⟨?_, ?_⟩; (focus (first | (go_simp; done) | (go_simp; rfl))); (clear st; intro b5 w hb st; clear hb))
            | ((with_reducible refine wl_store ?_ (fun K hK => ?_)); rfl; refine owp_store rfl st ?_; apply Exists.intro; apply Exists.intro; refine ⟨?_, ?_, ?_⟩; (focus (go_simp; try rfl)); (focus (go_simp; try rfl)); (first | (with_reducible refine ⟨0, _, _, _, _, get0, rfl, rfl, ?_, ?_, ?_, ?_⟩) | (with_reducible refine ⟨1, _, _, _, _, get1, rfl, rfl, ?_, ?_, ?_, ?_⟩) | (with_reducible refine ⟨2, _, _, _, _, get2, rfl, rfl, ?_, ?_, ?_, ?_⟩) | (with_reducible refine ⟨3, _, _, _, _, get3, rfl, rfl, ?_, ?_, ?_, ?_⟩) | (with_reducible refine ⟨4, _, _, _, _, get4, rfl, rfl, ?_, ?_, ?_, ?_⟩)); (kernel_rfl); (simp [Value.cells]); (rfl); (clear st; intro w st))
            | ((with_reducible refine wl_buildSlice ?_ (fun K hK => ?_)); rfl; refine owp_buildSlice (o := ⟨some 21, _, _, _, _, _⟩) rfl st ?_; apply Exists.intro; apply Exists.intro; apply Exists.intro; apply Exists.intro; refine ⟨?_, ?_⟩; (focus (go_simp; (first | done | exact ⟨⟨rfl, rfl⟩, rfl⟩ | rfl))); (clear st; intro b21 w hb st; clear hb))
            | ((with_reducible refine wl_buildSlice ?_ (fun K hK => ?_)); rfl; refine owp_buildSlice (o := ⟨some 25, _, _, _, _, _⟩) rfl st ?_; apply Exists.intro; apply Exists.intro; apply Exists.intro; apply Exists.intro; refine ⟨?_, ?_⟩; (focus (go_simp; (first | done | exact ⟨⟨rfl, rfl⟩, rfl⟩ | rfl))); (clear st; intro b25 w hb st; clear hb))
            | ((with_reducible refine wl_alloc ?_ (fun K hK => ?_)); rfl; refine owp_alloc (o := ⟨some 7, _, _, _, _, _⟩) rfl st ?_; apply Exists.intro; apply Exists.intro; refine ⟨?_, ?_⟩; (focus (first | (go_simp; done) | (go_simp; rfl))); (clear st; intro b7 w hb st; clear hb))
            | ((with_reducible refine wl_buildSlice ?_ (fun K hK => ?_)); rfl; refine owp_buildSlice (o := ⟨some 50, _, _, _, _, _⟩) rfl st ?_; apply Exists.intro; apply Exists.intro; apply Exists.intro; apply Exists.intro; refine ⟨?_, ?_⟩; (focus (go_simp; (first | done | exact ⟨⟨rfl, rfl⟩, rfl⟩ | rfl))); (clear st; intro b50 w hb st; clear hb))); (try simp only [nsl, Value.cells, unB] at st); (try clear hc); have hc := st.facts; (try simp only [nfl, nft, Nat.reduceAdd] at hc))
      clear r0 r1 r2 r3 r4 r5 r6 r7 r8 r9 s0 s1 s2 s3 s4
      refine Rg4.wp_region4 (Rel := Ext) #[0, 0, 2, 6, 14, 0, 32, 96, 254, 510, 1022, 2047, 4095]
        [(3, ⟨fun v w => ∃ b, v = .slice (some ⟨b, 0, none⟩) 1 1 ∧ Blk w b [.int .i64 ck, .string ⟨ho.toArray⟩, .string ⟨hd.toArray⟩, .string ⟨nw.toArray⟩, .string ⟨bo.toArray⟩, .string ⟨bd.toArray⟩, .string ⟨co.toArray⟩, .string ⟨cd.toArray⟩, .string ⟨we.toArray⟩, .slice sa sn sm] , fun _ _ _ hx ⟨b, h1, h2⟩ => ⟨b, h1, h2.ext hx⟩⟩), (4, .val (.int .i64 (ws : Int))), (7, ⟨fun v w => ∃ b, v = .slice (some ⟨b, 0, none⟩) 1 1 ∧ Blk w b [.int .i64 op, .int .i64 k, .string ⟨o.toArray⟩, .string ⟨d.toArray⟩, .slice a' n' c'] , fun _ _ _ hx ⟨b, h1, h2⟩ => ⟨b, h1, h2.ext hx⟩⟩), (8, .val (.int .i64 (gr : Int)))] [] [2, 6] (fun _ => True) [0, 1, 2, 3, 4, 5, 6, 7, 8, 9, 10, 11, 12] (by kernel_rfl) (by kernel_rfl) (by kernel_rfl) (by kernel_rfl) Ext.refl (fun _ _ _ => Ext.trans) (show Rg4.PB _ by repeat (first | with_reducible exact Rg4.pb_body | with_reducible exact Rg4.pb_bodyD rfl | with_reducible refine Rg4.pb_then ?_ | with_reducible refine Rg4.pb_inBlock ?_ | with_reducible refine Rg4.pb_noGoto ?_)) (trivial) ?_
      replace st := st.drew
      change Rg4.wp4 _ _ _ _ _ _ _ _ _ (World.drew _) _ _
      generalize World.drew _ = w at st ⊢
      (try clear hc); have hc := st.facts; (try simp only [nfl, nft, Nat.reduceAdd] at hc)
      iterate 2 (refine Rg4.w4_any (Rg4.want_none rfl) rfl ?_; apply Exists.intro; refine ⟨fun w' => ?_, ?_⟩; (focus (first | (go_simp; done) | (go_simp; first | rfl | (rw [if_neg] <;> first | rfl | omega) | (rw [if_pos] <;> first | rfl | omega)))); (try simp only [Rg4.nrm]))
      (refine Rg4.w4_read (Rg4.want_none rfl) rfl rfl ?_; apply Exists.intro; refine ⟨fun w' hw' hcl' => ?_, ?_⟩; focus (have st' := st.ext hw'; have hc' := st'.facts; (try simp only [nfl, nft, Nat.reduceAdd] at hc'); (focus (first | (go_simp; done) | (go_simp; first | rfl | (rw [if_neg] <;> first | rfl | omega) | (rw [if_pos] <;> first | rfl | omega))))); (try simp only [Rg4.nrm]))
      refine Rg4.w4_some (Rg4.want_none rfl) rfl (fun w' hw' hcl' _ => ?_) ?_
      · refine Rg.relAt_value (v := .slice (some ⟨w'.heap.size, 0, none⟩) 1 1) (w' := w'.alloc (.cells #[.int .i64 ck, .string ⟨ho.toArray⟩, .string ⟨hd.toArray⟩, .string ⟨nw.toArray⟩, .string ⟨bo.toArray⟩, .string ⟨bd.toArray⟩, .string ⟨co.toArray⟩, .string ⟨cd.toArray⟩, .string ⟨we.toArray⟩, .slice sa sn sm] 62)) ?_ ⟨Ext.new _ _, trivial, _, rfl, Blk.new _ _ _⟩
        go_simp
      rintro v ⟨_, _, _, b21, rfl, _⟩
      (try simp only [Rg4.nrm])

      refine Rg4.w4_some (Rg4.want_none rfl) rfl (fun w' hw' hcl' hP => ?_) ?_
      · refine Rg.relAt_call (by go_simp; exact ⟨rfl, rfl⟩) ?_
        have hb : Blk w' b21 [.int .i64 ck, .string ⟨ho.toArray⟩, .string ⟨hd.toArray⟩, .string ⟨nw.toArray⟩, .string ⟨bo.toArray⟩, .string ⟨bd.toArray⟩, .string ⟨co.toArray⟩, .string ⟨cd.toArray⟩, .string ⟨we.toArray⟩, .slice sa sn sm] := by
          obtain ⟨b, h1, h2⟩ := (hP 3 (by kernel_rfl)).2 rfl
          cases h1
          exact h2
        refine (HSG.out _ _ (fl_lit hb _ HC1.out.symm)).mono ?_
        rintro en w'' ⟨rfl, hx⟩
        exact ⟨_, rfl, hx, trivial, rfl⟩
      rintro v ⟨_, _, _, rfl⟩
      (try simp only [Rg4.nrm])
      (refine Rg4.w4_any (Rg4.want_none rfl) rfl ?_; apply Exists.intro; refine ⟨fun w' => ?_, ?_⟩; (focus (first | (go_simp; done) | (go_simp; first | rfl | (rw [if_neg] <;> first | rfl | omega) | (rw [if_pos] <;> first | rfl | omega)))); (try simp only [Rg4.nrm]))
      (refine Rg4.w4_read (Rg4.want_none rfl) rfl rfl ?_; apply Exists.intro; refine ⟨fun w' hw' hcl' => ?_, ?_⟩; focus (have st' := st.ext hw'; have hc' := st'.facts; (try simp only [nfl, nft, Nat.reduceAdd] at hc'); (focus (first | (go_simp; done) | (go_simp; first | rfl | (rw [if_neg] <;> first | rfl | omega) | (rw [if_pos] <;> first | rfl | omega))))); (try simp only [Rg4.nrm]))
      refine Rg4.w4_some (Rg4.want_none rfl) rfl (fun w' hw' hcl' _ => ?_) ?_
      · refine Rg.relAt_value (v := .slice (some ⟨w'.heap.size, 0, none⟩) 1 1) (w' := w'.alloc (.cells #[.int .i64 op, .int .i64 k, .string ⟨o.toArray⟩, .string ⟨d.toArray⟩, .slice a' n' c'] 26)) ?_ ⟨Ext.new _ _, trivial, _, rfl, Blk.new _ _ _⟩
        go_simp
      rintro v ⟨_, _, _, b25, rfl, _⟩
      (try simp only [Rg4.nrm])

      refine Rg4.w4_some (Rg4.want_none rfl) rfl (fun w' hw' hcl' hP => ?_) ?_
      · refine Rg.relAt_call (by go_simp; exact ⟨rfl, rfl⟩) ?_
        have st' := st.ext hw'
        have hb : Blk w' b25 [.int .i64 op, .int .i64 k, .string ⟨o.toArray⟩, .string ⟨d.toArray⟩, .slice a' n' c'] := by
          obtain ⟨b, h1, h2⟩ := (hP 7 (by kernel_rfl)).2 rfl
          cases h1
          exact h2
        refine (HFG.out _ _ st'.ext0 (fl_lit hb _ HC2.out.symm)).mono ?_
        rintro en w'' ⟨rfl, hx⟩
        exact ⟨_, rfl, hx, trivial, rfl⟩
      rintro v ⟨_, _, _, rfl⟩
      (try simp only [Rg4.nrm])
      iterate 4 (refine Rg4.w4_any (Rg4.want_none rfl) rfl ?_; apply Exists.intro; refine ⟨fun w' => ?_, ?_⟩; (focus (first | (go_simp; done) | (go_simp; first | rfl | (rw [if_neg] <;> first | rfl | omega) | (rw [if_pos] <;> first | rfl | omega)))); (try simp only [Rg4.nrm]))
      refine Rg4.w4_nil (fun w' hw' hcl' _ => ?_); replace st := st.ext hw'; clear hw' hcl'; (try clear hc); have hc := st.facts; (try simp only [nfl, nft, Nat.reduceAdd] at hc)
      go_wp2_with fail
      have st' := st.keep [0, 1] (by decide) (by simp)
      go_roundg (gn - (j + 1))
      case measure => omega
      case rel => exact ⟨j + 1, g + (ws + 20 * gr), by omega, by omega, by go_num, by go_num, hgb, HG2, by simpa [pick] using st'⟩
    · obtain rfl : gn = j := by omega
      have HG1 : Hid (g = l0 + (gs.map gW).sum) := Lib.hid (by rw [HG.out, List.take_of_length_le (by have := HN1.out; omega)])
      clear HG
      (try simp only [nsl, Value.cells, unB] at st)
      (try clear hc); have hc := st.facts; (try simp only [nfl, nft, Nat.reduceAdd] at hc)
      go_wp2_with fail
      go_loopg [3, 34] an (fun q s i wr => ∃ (j g2 : Nat), j ≤ an ∧ q = an - j ∧ s = .int .i64 (g2 : Int) ∧ i = .int .i64 (j : Int) ∧ g2 ≤ 2000000000 ∧ Hid (g2 = g + ((ks.take j).map aW).sum) ∧ Own (fun _ => False) (fun _ => True) W [oldI W, blkI b1 [.string ⟨nm.toArray⟩, .slice ga gn gc, .slice aa an ac]] wr)
      case atStart => exact ⟨0, g, by omega, by omega, rfl, rfl, by omega, Lib.hid (by simp), st⟩
      case round =>
        obtain ⟨j, g2, hj, rfl, rfl, rfl, hg2', HG, st'⟩ := hrel
        clear st hc
        have st := st'
        clear st'
        by_cases hjn : j < an
        · obtain ⟨b, off, ha, hcell⟩ := Fl.ack (a := aa) (n := an) (xs := ks) (HP.out.ext st.ext0).2.2.1 (by omega)
          have hjl : j < ks.length := by have := HN2.out; omega
          have hsn := sum_take aW ks j hjl
          have hle := sum_take_le aW ks (j + 1)
          rw [hsn] at hle
          have hvv := HV.out
          have hg1o := HG1.out
          have hok := HP.out.2.2.2 _ (List.getElem_mem hjl)
          have hgt := List.getElem?_eq_getElem hjl
          generalize ks[j] = x at *
          obtain ⟨⟨qo, qd⟩, fx, ca, cn, cc, cs⟩ := x
          have hgw : aW ⟨(qo, qd), fx, ca, cn, cc, cs⟩ = qo.length + qd.length + 20 * fx.strip.great + weightC cs := rfl
          rw [hgw] at hsn hle
          have hgo := HG.out
          have HCG := Lib.hid (fun W' (hx : Ext W W') => credGreat_any ca cn cc cs W' (Arr.ext hok.2.2 hx) (by omega))
          have HFG := Lib.hid (fun b W' (hx : Ext W W') (h : Fl W' (some ⟨b, 0, none⟩) 1 [fx]) => fmGreat_any [fx] (some ⟨b, 0, none⟩) 1 1 W' h (fun x hx' => by rw [List.mem_singleton.1 hx']; exact FmOk.ext hok.1 hx) (by simp [greatL]; omega))
          rw [show greatL ([fx].map Fm.strip) = fx.strip.great by simp [greatL]] at HFG
          obtain ⟨ws, hws⟩ : ∃ w, weightC cs = w := ⟨_, rfl⟩
          obtain ⟨gr, hgr⟩ : ∃ w, fx.strip.great = w := ⟨_, rfl⟩
          obtain ⟨lo, hlo⟩ : ∃ m, qo.length = m := ⟨_, rfl⟩
          obtain ⟨ld, hld⟩ : ∃ m, qd.length = m := ⟨_, rfl⟩
          have hsz1 : (⟨qo.toArray⟩ : ByteArray).size = lo := by rw [HSZ.out, hlo]
          have hsz2 : (⟨qd.toArray⟩ : ByteArray).size = ld := by rw [HSZ.out, hld]
          rw [hws] at HCG hsn hle
          rw [hgr] at HFG hsn hle
          rw [hlo, hld] at hsn hle
          have HG2 : Hid (g2 + (lo + ld + 20 * gr + ws) = g + ((ks.take (j + 1)).map aW).sum) := Lib.hid (by rw [hsn, hgo]; omega)
          have hgb : g2 + (lo + ld + 20 * gr + ws) ≤ 2000000000 := by omega
          clear hsn hle hvv hok hgw hgo hws hgr hjl hlo hld hg1o
          have z0 : IntKind.i64.wrap ((lo : Int) + (ld : Int)) = (lo : Int) + (ld : Int) := IntWalk.i64_in _ ⟨by omega, by omega⟩
          have z1 : IntKind.i64.wrap (20 * (gr : Int)) = 20 * (gr : Int) := IntWalk.i64_in _ ⟨by omega, by omega⟩
          have z2 : IntKind.i64.wrap ((lo : Int) + (ld : Int) + 20 * (gr : Int)) = (lo : Int) + (ld : Int) + 20 * (gr : Int) := IntWalk.i64_in _ ⟨by omega, by omega⟩
          have z4 : IntKind.i64.wrap ((lo : Int) + (ld : Int) + 20 * (gr : Int) + (ws : Int)) = (lo : Int) + (ld : Int) + 20 * (gr : Int) + (ws : Int) := IntWalk.i64_in _ ⟨by omega, by omega⟩
          have z3 : IntKind.i64.wrap ((g2 : Int) + ((lo : Int) + (ld : Int) + 20 * (gr : Int) + (ws : Int))) = ((g2 + (lo + ld + 20 * gr + ws) : Nat) : Int) := by rw [IntWalk.i64_in _ ⟨by omega, by omega⟩]; omega
          obtain ⟨fy, hfy⟩ : ∃ g, fx = g := ⟨_, rfl⟩
          obtain ⟨op, k, ⟨o, d⟩, a', n', c', kids⟩ := fx
          have HC2 : Hid (cellsL [fy] = [.int .i64 op, .int .i64 k, .string ⟨o.toArray⟩, .string ⟨d.toArray⟩, .slice a' n' c']) := Lib.hid (by rw [← hfy]; rfl)
          obtain ⟨r0, r1, s0, s1, s2, s3, s4, s5⟩ := hcell j (qo, qd) op k (o, d) a' n' c' kids ca cn cc cs hgt
          clear hcell hgt
          rw [hfy] at HFG
          clear hfy
          subst ha
          unfold S at r0 r1 s2 s3
          simp only at r0 r1 s2 s3
          (try simp only [nsl, Value.cells, unB] at st)
          (try clear hc); have hc := st.facts; (try simp only [nfl, nft, Nat.reduceAdd] at hc)
          go_wp2_with ((first
                | ((with_reducible refine wl_box ?_ (fun K hK => ?_)); rfl; refine owp_box (o := ⟨some 1, _, _, _, _, _⟩) rfl st ?_; apply Exists.intro; refine ⟨?_, ?_⟩; (focus (go_simp; try rfl)); (clear st; intro b1 w hb st; clear hb))
                | ((with_reducible refine wl_alloc ?_ (fun K hK => ?_)); rfl; refine owp_alloc (o := ⟨some 5, _, _, _, _, _⟩) rfl st ?_; apply Exists.intro; apply Exists.intro; refine ⟨?_, ?_⟩; (focus (first | (go_simp; done) | (go_simp; rfl))); (clear st; intro b5 w hb st; clear hb))
                | ((with_reducible refine wl_store ?_ (fun K hK => ?_)); rfl; refine owp_store rfl st ?_; apply Exists.intro; apply Exists.intro; refine ⟨?_, ?_, ?_⟩; (focus (go_simp; try rfl)); (focus (go_simp; try rfl)); (first | (with_reducible refine ⟨0, _, _, _, _, get0, rfl, rfl, ?_, ?_, ?_, ?_⟩) | (with_reducible refine ⟨1, _, _, _, _, get1, rfl, rfl, ?_, ?_, ?_, ?_⟩) | (with_reducible refine ⟨2, _, _, _, _, get2, rfl, rfl, ?_, ?_, ?_, ?_⟩) | (with_reducible refine ⟨3, _, _, _, _, get3, rfl, rfl, ?_, ?_, ?_, ?_⟩) | (with_reducible refine ⟨4, _, _, _, _, get4, rfl, rfl, ?_, ?_, ?_, ?_⟩)); (kernel_rfl); (simp [Value.cells]); (rfl); (clear st; intro w st))
                | ((with_reducible refine wl_buildSlice ?_ (fun K hK => ?_)); rfl; refine owp_buildSlice (o := ⟨some 21, _, _, _, _, _⟩) rfl st ?_; apply Exists.intro; apply Exists.intro; apply Exists.intro; apply Exists.intro; refine ⟨?_, ?_⟩; (focus (go_simp; (first | done | exact ⟨⟨rfl, rfl⟩, rfl⟩ | rfl))); (clear st; intro b21 w hb st; clear hb))
                | ((with_reducible refine wl_buildSlice ?_ (fun K hK => ?_)); rfl; refine owp_buildSlice (o := ⟨some 25, _, _, _, _, _⟩) rfl st ?_; apply Exists.intro; apply Exists.intro; apply Exists.intro; apply Exists.intro; refine ⟨?_, ?_⟩; (focus (go_simp; (first | done | exact ⟨⟨rfl, rfl⟩, rfl⟩ | rfl))); (clear st; intro b25 w hb st; clear hb))
                | ((with_reducible refine wl_alloc ?_ (fun K hK => ?_)); rfl; refine owp_alloc (o := ⟨some 7, _, _, _, _, _⟩) rfl st ?_; apply Exists.intro; apply Exists.intro; refine ⟨?_, ?_⟩; (focus (first | (go_simp; done) | (go_simp; rfl))); (clear st; intro b7 w hb st; clear hb))
                | ((with_reducible refine wl_buildSlice ?_ (fun K hK => ?_)); rfl; refine owp_buildSlice (o := ⟨some 50, _, _, _, _, _⟩) rfl st ?_; apply Exists.intro; apply Exists.intro; apply Exists.intro; apply Exists.intro; refine ⟨?_, ?_⟩; (focus (go_simp; (first | done | exact ⟨⟨rfl, rfl⟩, rfl⟩ | rfl))); (clear st; intro b50 w hb st; clear hb))); (try simp only [nsl, Value.cells, unB] at st); (try clear hc); have hc := st.facts; (try simp only [nfl, nft, Nat.reduceAdd] at hc))
          clear r0 r1 s0 s1 s2 s3 s4 s5
          refine Rg4.wp_region4 (Rel := Ext) #[0, 0, 2, 6, 14, 0, 32, 96, 224, 510, 0, 1024, 3072, 7168, 15360, 32766, 0, 65536, 211968, 524286, 1048575, 2097151]
            [(12, ⟨fun v w => ∃ b, v = .slice (some ⟨b, 0, none⟩) 1 1 ∧ Blk w b [.int .i64 op, .int .i64 k, .string ⟨o.toArray⟩, .string ⟨d.toArray⟩, .slice a' n' c'] , fun _ _ _ hx ⟨b, h1, h2⟩ => ⟨b, h1, h2.ext hx⟩⟩), (13, .val (.int .i64 (gr : Int))), (18, .val (.int .i64 (ws : Int)))] [] [3, 7, 11, 17] (fun _ => True) [0, 1, 2, 3, 4, 5, 6, 7, 8, 9, 10, 11, 12, 13, 14, 15, 16, 17, 18, 19, 20, 21] (by kernel_rfl) (by kernel_rfl) (by kernel_rfl) (by kernel_rfl) Ext.refl (fun _ _ _ => Ext.trans) (show Rg4.PB _ by repeat (first | with_reducible exact Rg4.pb_body | with_reducible exact Rg4.pb_bodyD rfl | with_reducible refine Rg4.pb_then ?_ | with_reducible refine Rg4.pb_inBlock ?_ | with_reducible refine Rg4.pb_noGoto ?_)) (trivial) ?_
          replace st := st.drew
          change Rg4.wp4 _ _ _ _ _ _ _ _ _ (World.drew _) _ _
          generalize World.drew _ = w at st ⊢
          (try clear hc); have hc := st.facts; (try simp only [nfl, nft, Nat.reduceAdd] at hc)
          iterate 3 (refine Rg4.w4_any (Rg4.want_none rfl) rfl ?_; apply Exists.intro; refine ⟨fun w' => ?_, ?_⟩; (focus (first | (go_simp; done) | (go_simp; first | rfl | (rw [if_neg] <;> first | rfl | omega) | (rw [if_pos] <;> first | rfl | omega)))); (try simp only [Rg4.nrm]))
          (refine Rg4.w4_read (Rg4.want_none rfl) rfl rfl ?_; apply Exists.intro; refine ⟨fun w' hw' hcl' => ?_, ?_⟩; focus (have st' := st.ext hw'; have hc' := st'.facts; (try simp only [nfl, nft, Nat.reduceAdd] at hc'); (focus (first | (go_simp; done) | (go_simp; first | rfl | (rw [if_neg] <;> first | rfl | omega) | (rw [if_pos] <;> first | rfl | omega))))); (try simp only [Rg4.nrm]))
          iterate 3 (refine Rg4.w4_any (Rg4.want_none rfl) rfl ?_; apply Exists.intro; refine ⟨fun w' => ?_, ?_⟩; (focus (first | (go_simp; done) | (go_simp; first | rfl | (rw [if_neg] <;> first | rfl | omega) | (rw [if_pos] <;> first | rfl | omega)))); (try simp only [Rg4.nrm]))
          (refine Rg4.w4_read (Rg4.want_none rfl) rfl rfl ?_; apply Exists.intro; refine ⟨fun w' hw' hcl' => ?_, ?_⟩; focus (have st' := st.ext hw'; have hc' := st'.facts; (try simp only [nfl, nft, Nat.reduceAdd] at hc'); (focus (first | (go_simp; done) | (go_simp; first | rfl | (rw [if_neg] <;> first | rfl | omega) | (rw [if_pos] <;> first | rfl | omega))))); (try simp only [Rg4.nrm]))
          iterate 3 (refine Rg4.w4_any (Rg4.want_none rfl) rfl ?_; apply Exists.intro; refine ⟨fun w' => ?_, ?_⟩; (focus (first | (go_simp; done) | (go_simp; first | rfl | (rw [if_neg] <;> first | rfl | omega) | (rw [if_pos] <;> first | rfl | omega)))); (try simp only [Rg4.nrm]))
          (refine Rg4.w4_read (Rg4.want_none rfl) rfl rfl ?_; apply Exists.intro; refine ⟨fun w' hw' hcl' => ?_, ?_⟩; focus (have st' := st.ext hw'; have hc' := st'.facts; (try simp only [nfl, nft, Nat.reduceAdd] at hc'); (focus (first | (go_simp; done) | (go_simp; first | rfl | (rw [if_neg] <;> first | rfl | omega) | (rw [if_pos] <;> first | rfl | omega))))); (try simp only [Rg4.nrm]))
          refine Rg4.w4_some (Rg4.want_none rfl) rfl (fun w' hw' hcl' _ => ?_) ?_
          · refine Rg.relAt_value (v := .slice (some ⟨w'.heap.size, 0, none⟩) 1 1) (w' := w'.alloc (.cells #[.int .i64 op, .int .i64 k, .string ⟨o.toArray⟩, .string ⟨d.toArray⟩, .slice a' n' c'] 26)) ?_ ⟨Ext.new _ _, trivial, _, rfl, Blk.new _ _ _⟩
            go_simp
          rintro v ⟨_, _, _, b50, rfl, _⟩
          (try simp only [Rg4.nrm])

          refine Rg4.w4_some (Rg4.want_none rfl) rfl (fun w' hw' hcl' hP => ?_) ?_
          · refine Rg.relAt_call (by go_simp; exact ⟨rfl, rfl⟩) ?_
            have st' := st.ext hw'
            have hb : Blk w' b50 [.int .i64 op, .int .i64 k, .string ⟨o.toArray⟩, .string ⟨d.toArray⟩, .slice a' n' c'] := by
              obtain ⟨b, h1, h2⟩ := (hP 12 (by kernel_rfl)).2 rfl
              cases h1
              exact h2
            refine (HFG.out _ _ st'.ext0 (fl_lit hb _ HC2.out.symm)).mono ?_
            rintro en w'' ⟨rfl, hx⟩
            exact ⟨_, rfl, hx, trivial, rfl⟩
          rintro v ⟨_, _, _, rfl⟩
          (try simp only [Rg4.nrm])
          iterate 3 (refine Rg4.w4_any (Rg4.want_none rfl) rfl ?_; apply Exists.intro; refine ⟨fun w' => ?_, ?_⟩; (focus (first | (go_simp; done) | (go_simp; first | rfl | (rw [if_neg] <;> first | rfl | omega) | (rw [if_pos] <;> first | rfl | omega)))); (try simp only [Rg4.nrm]))
          (refine Rg4.w4_read (Rg4.want_none rfl) rfl rfl ?_; apply Exists.intro; refine ⟨fun w' hw' hcl' => ?_, ?_⟩; focus (have st' := st.ext hw'; have hc' := st'.facts; (try simp only [nfl, nft, Nat.reduceAdd] at hc'); (focus (first | (go_simp; done) | (go_simp; first | rfl | (rw [if_neg] <;> first | rfl | omega) | (rw [if_pos] <;> first | rfl | omega))))); (try simp only [Rg4.nrm]))
          refine Rg4.w4_some (Rg4.want_none rfl) rfl (fun w' hw' hcl' _ => ?_) ?_
          · refine Rg.relAt_call (by go_simp; exact ⟨rfl, rfl⟩) ?_
            have st' := st.ext hw'
            refine (HCG.out _ st'.ext0).mono ?_
            rintro en w'' ⟨rfl, hx⟩
            exact ⟨_, rfl, hx, trivial, rfl⟩
          rintro v ⟨_, _, _, rfl⟩
          (try simp only [Rg4.nrm])
          iterate 3 (refine Rg4.w4_any (Rg4.want_none rfl) rfl ?_; apply Exists.intro; refine ⟨fun w' => ?_, ?_⟩; (focus (first | (go_simp; done) | (go_simp; first | rfl | (rw [if_neg] <;> first | rfl | omega) | (rw [if_pos] <;> first | rfl | omega)))); (try simp only [Rg4.nrm]))
          refine Rg4.w4_nil (fun w' hw' hcl' _ => ?_); replace st := st.ext hw'; clear hw' hcl'; (try clear hc); have hc := st.facts; (try simp only [nfl, nft, Nat.reduceAdd] at hc)
          go_wp2_with fail
          have st' := st.keep [0, 1] (by decide) (by simp)
          go_roundg (an - (j + 1))
          case measure => omega
          case rel => exact ⟨j + 1, g2 + (lo + ld + 20 * gr + ws), by omega, by omega, by go_num, by go_num, hgb, HG2, by simpa [pick] using st'⟩
        · obtain rfl : an = j := by omega
          have HE : Hid (v = g2) := Lib.hid (by rw [HV.out, HG.out, HG1.out, List.take_of_length_le (by have := HN2.out; omega)])
          clear hsz0
          (try simp only [nsl, Value.cells, unB] at st)
          (try clear hc); have hc := st.facts; (try simp only [nfl, nft, Nat.reduceAdd] at hc)
          go_wp2_with fail
          go_ret
          exact ⟨by rw [HE.out] <;> rfl, st.ext0⟩
end Go.Proofs.Ythjaopojlhdjpaa

namespace Go.Proofs.Ythjaopojlhdjpaa
set_option linter.unusedSimpArgs false
set_option linter.unusedVariables false
open Go Go.RowKit
theorem gs_nodes : ∀ l : List GuT, nodesL (l.map (fun g => g.f.strip)) ≤ (l.map gW).sum
  | [] => by simp [nodesL]
  | x :: l => by
    have h1 := gs_nodes l
    have h2 := great_nodes x.f.strip
    have h3 : gW x = wtSg x.s + 20 * x.f.strip.great := rfl
    rw [List.map_cons, nodesL, List.map_cons, List.sum_cons]
    omega
theorem ks_nodes : ∀ l : List AckT, nodesL (l.map (fun a => a.f.strip)) ≤ (l.map aW).sum
  | [] => by simp [nodesL]
  | x :: l => by
    have h1 := ks_nodes l
    have h2 := great_nodes x.f.strip
    have h3 : aW x = x.r.1.length + x.r.2.length + 20 * x.f.strip.great + weightC x.cs := rfl
    rw [List.map_cons, nodesL, List.map_cons, List.sum_cons]
    omega
theorem great_L5 {f : Fo} (h : f.great ≤ 6000) : FoL 100000 f := FoL.mono (by decide) (great_L f 6000 h)
theorem paF_small {p : PaT} (h : paW p ≤ 6000) : nodesL (paF p) ≤ 6000 ∧ ∀ f ∈ paF p, FoL 100000 f := by
  have e : paW p = p.nm.length + (p.gs.map gW).sum + (p.ks.map aW).sum := rfl
  rw [paF_def, nodesL_append]
  have h1 := gs_nodes p.gs
  have h2 := ks_nodes p.ks
  refine ⟨by omega, fun f hf => ?_⟩
  rcases List.mem_append.1 hf with q | q
  · obtain ⟨g, hg, rfl⟩ := List.mem_map.1 q
    have h3 := sum_mem gW p.gs g hg
    have h4 : gW g = wtSg g.s + 20 * g.f.strip.great := rfl
    exact great_L5 (by omega)
  · obtain ⟨g, hg, rfl⟩ := List.mem_map.1 q
    have h3 := sum_mem aW p.ks g hg
    have h4 : aW g = g.r.1.length + g.r.2.length + 20 * g.f.strip.great + weightC g.cs := rfl
    exact great_L5 (by omega)
theorem paF_one {p : PaT} {f : Fo} (h : paW p ≤ 6000) (hf : f.great ≤ 200) : FsL (paF p ++ [f]) := by
  obtain ⟨h1, h2⟩ := paF_small h
  have h3 := great_nodes f
  refine ⟨by rw [nodesL_append]; simp only [nodesL]; omega, fun g hg => ?_⟩
  rcases List.mem_append.1 hg with q | q
  · exact h2 g q
  · rw [List.mem_singleton.1 q]; exact great_L5 (by omega)
end Go.Proofs.Ythjaopojlhdjpaa

namespace Go.Proofs.Ythjaopojlhdjpaa
set_option linter.unusedSimpArgs false
set_option linter.unusedVariables false
open Go Go.RowKit
theorem ownsRow_base {w : World} {b0 b1 : Nat} {E : TypeId} {k n : Nat} {v : Value} {xs : List Value} (h : w.ownsRow b1 E k v n xs) (hb : b0 ≤ b1) : w.ownsRow b0 E k v n xs := by
  refine ⟨h.1, h.2.imp id ?_⟩
  rintro ⟨g, cap, cur, hv, hg, r⟩
  exact ⟨g, cap, cur, hv, by omega, r⟩
section
variable {fr al : Nat → Prop} {w0 w w' : World} {L : List It}
theorem Own.newRow (st : Own fr al w0 L w) (hx : Ext w w') {E : TypeId} {k n : Nat} {v : Value} {xs : List Value} (h : w'.ownsRow w.heap.size E k v n xs) : Own fr al w0 (L ++ [rowI E k v n xs]) w' :=
  st.new hx (e' := fun q => v.ownBlock = some q) (s' := fun _ => False) ⟨ownsRow_base h (Nat.zero_le _), fun q hq => hq⟩ (fun q hq => ⟨(h.lt q hq).2, (h.lt q hq).1⟩) (fun _ q => q.elim) (fun _ _ q => q)
end
end Go.Proofs.Ythjaopojlhdjpaa

namespace Go.Proofs.Ythjaopojlhdjpaa
set_option linter.unusedSimpArgs false
set_option linter.unusedVariables false
open Go Go.RowKit
theorem roleSet_mono {l m : List Role} (h : ∀ x ∈ l, x ∈ m) : (roleSet l).length ≤ (roleSet m).length := by
  have hnd : (roleSet l).Nodup := (roleSet_set l).1.imp fun {a b} hab e => by subst e; rw [(roleOrd roleR).irr] at hab; cases hab
  exact List.Nodup.length_le_of_subset hnd fun x hx => ((roleSet_set m).2 x).2 ⟨h x (((roleSet_set l).2 x).1 hx).1, (((roleSet_set l).2 x).1 hx).2⟩
/-- A party with one guarded credential more. -/
def paMore (p : PaT) (m : GuT) (a : Option Addr) (c : Nat) : PaT := ⟨p.nm, a, p.gn + 1, c, p.gs ++ [m], p.aa, p.an, p.ac, p.ks⟩
/-- Both formulas. -/
def fmAnd (f g : Fm) (a : Option Addr) : Fm := .mk 2 0 ([], []) a 2 2 [f, g]
theorem fmAnd_strip (f g : Fm) (a : Option Addr) : (fmAnd f g a).strip = .mk 2 0 ([], []) [f.strip, g.strip] := by unfold fmAnd; rw [strip_mk]; rfl
theorem paF_more (p : PaT) (m : GuT) (a : Option Addr) (c : Nat) : paF (paMore p m a c) = p.gs.map (fun g => g.f.strip) ++ [m.f.strip] ++ p.ks.map (fun a => a.f.strip) := by
  unfold paMore paF
  simp
theorem turns_more (p q : PaT) (m : GuT) (a : Option Addr) (c : Nat) (f : Fo) : turnsN p q f + 2 ≤ turnsN (paMore p m a c) q f := by
  have h : (roleSet (setsL (paF p ++ [f]))).length ≤ (roleSet (setsL (paF (paMore p m a c) ++ [f]))).length := roleSet_mono fun x hx => by
    unfold setsL at hx ⊢
    obtain ⟨g, hg, hr⟩ := List.mem_flatMap.1 hx
    refine List.mem_flatMap.2 ⟨g, ?_, hr⟩
    rw [paF_more]
    rw [paF_def] at hg
    simp only [List.mem_append] at hg ⊢
    rcases hg with (h | h) | h
    · exact .inl (.inl (.inl h))
    · exact .inl (.inr h)
    · exact .inr h
  have e1 : turnsN p q f = 4 + 2 * (p.gn + q.gn + ((roleSet (setsL (paF p ++ [f]))).length + (roleSet (setsL (paF q))).length)) := rfl
  have e2 : turnsN (paMore p m a c) q f = 4 + 2 * (p.gn + 1 + q.gn + ((roleSet (setsL (paF (paMore p m a c) ++ [f]))).length + (roleSet (setsL (paF q))).length)) := rfl
  omega
theorem turns_and (p q : PaT) (f g : Fo) : turnsN p q f ≤ turnsN p q (.mk 2 0 ([], []) [f, g]) := by
  have h : (roleSet (setsL (paF p ++ [f]))).length ≤ (roleSet (setsL (paF p ++ [.mk 2 0 ([], []) [f, g]]))).length := roleSet_mono fun x hx => by
    rw [setsL_snoc] at hx ⊢
    rcases List.mem_append.1 hx with h | h
    · exact List.mem_append_left _ h
    · refine List.mem_append_right _ ?_
      obtain ⟨h1, h2⟩ := ((roleSet_set _).2 x).1 h
      refine ((roleSet_set _).2 x).2 ⟨?_, h2⟩
      rw [Fo.atoms, if_neg (by decide), atomsL]
      exact List.mem_append_left _ h1
  have e1 : turnsN p q f = 4 + 2 * (p.gn + q.gn + ((roleSet (setsL (paF p ++ [f]))).length + (roleSet (setsL (paF q))).length)) := rfl
  have e2 : turnsN p q (.mk 2 0 ([], []) [f, g]) = 4 + 2 * (p.gn + q.gn + ((roleSet (setsL (paF p ++ [.mk 2 0 ([], []) [f, g]]))).length + (roleSet (setsL (paF q))).length)) := rfl
  omega
theorem turns_le {p q : PaT} {f : Fo} (h1 : FsL (paF p ++ [f])) (h2 : FsL (paF q)) (h3 : p.gn ≤ 200000) (h4 : q.gn ≤ 200000) : turnsN p q f ≤ 2000000 := by
  have e1 : turnsN p q f = 4 + 2 * (p.gn + q.gn + ((roleSet (setsL (paF p ++ [f]))).length + (roleSet (setsL (paF q))).length)) := rfl
  have a1 := setsL_set_len (paF p ++ [f])
  have a2 := setsL_set_len (paF q)
  have a3 := h1.1
  have a4 := h2.1
  omega
theorem turns_even (p q : PaT) (f : Fo) : ∃ k, turnsN p q f = 2 * k ∧ 2 ≤ k := ⟨2 + (p.gn + q.gn + ((roleSet (setsL (paF p ++ [f]))).length + (roleSet (setsL (paF q))).length)), by unfold turnsN; omega, by omega⟩
theorem more_small {p : PaT} {m : GuT} {f : Fo} (h : paW p ≤ 6000) (hf : f.great + m.f.strip.great ≤ 200) (a : Option Addr) (c : Nat) : FsL (paF (paMore p m a c) ++ [f]) := by
  obtain ⟨h1, h2⟩ := paF_small h
  have h3 := great_nodes f
  have h4 := great_nodes m.f.strip
  rw [paF_def] at h1 h2
  rw [nodesL_append] at h1
  refine ⟨by rw [paF_more, nodesL_append, nodesL_append, nodesL_append]; simp only [nodesL]; omega, fun g hg => ?_⟩
  rw [paF_more] at hg
  simp only [List.mem_append, List.mem_singleton] at hg
  rcases hg with ((q | q) | q) | q
  · exact h2 g (List.mem_append_left _ q)
  · rw [q]; exact great_L5 (by omega)
  · exact h2 g (List.mem_append_right _ q)
  · rw [q]; exact great_L5 (by omega)
theorem and_small {p : PaT} {f g : Fo} (h : paW p ≤ 6000) (hf : f.great + g.great ≤ 200) : FsL (paF p ++ [.mk 2 0 ([], []) [f, g]]) := by
  obtain ⟨h1, h2⟩ := paF_small h
  have h3 := great_nodes f
  have h4 := great_nodes g
  refine ⟨by rw [nodesL_append]; simp only [nodesL, Fo.nodes]; omega, fun x hx => ?_⟩
  rcases List.mem_append.1 hx with q | q
  · exact h2 x q
  · rw [List.mem_singleton.1 q]
    refine .mk (Nat.zero_le _) (Nat.zero_le _) fun y hy => ?_
    rcases List.mem_cons.1 hy with e | e
    · rw [e]; exact great_L5 (by omega)
    · rw [List.mem_singleton.1 e]; exact great_L5 (by omega)
theorem more_ok {w : World} {p : PaT} {m : GuT} {a : Option Addr} {c : Nat} (hp : PaOk w p) (hm : GuOk w m) (hc : p.gn + 1 ≤ c ∧ c ≤ maxLen) (h : Fl w a (p.gn + 1) (p.gs ++ [m])) : PaOk w (paMore p m a c) :=
  ⟨⟨hc, h, fun g hg => by
    rcases List.mem_append.1 hg with q | q
    · exact hp.1.2.2 g q
    · rw [List.mem_singleton.1 q]; exact hm⟩, hp.2⟩
theorem and_ok {w : World} {f g : Fm} {a : Option Addr} (hf : FmOk w f) (hg : FmOk w g) (h : Fl w a 2 [f, g]) : FmOk w (fmAnd f g a) :=
  .mk ⟨Nat.le_refl _, by decide⟩ h (fun _ _ _ => trivial) (fun x hx => by
    rcases List.mem_cons.1 hx with e | e
    · rw [e]; exact hf
    · rw [List.mem_singleton.1 e]; exact hg)
theorem Own.flRow7 {α : Type} [Flt α] {fr al : Nat → Prop} {w0 w : World} {L : List It} (st : Own fr al w0 L w) {i n c : Nat} {a : Option Addr} {E : TypeId} {xs : List α} (hi : L[i]? = some (rowI E (Flt.k α) (.slice a n c) n (cellsL xs))) : (n ≤ c ∧ c ≤ maxLen) ∧ Fl w a n xs := by
  obtain ⟨a', c', hv, h2, h3⟩ := st.rowFl hi
  injection hv with q1 q2 q3
  subst q1 q3
  exact ⟨h2, h3⟩
theorem empty_row {w : World} {B0 : Nat} (hB : B0 ≤ w.heap.size) (E : TypeId) (k : Nat) : (w.alloc (.cells #[] E)).ownsRow B0 E k (.slice (some ⟨w.heap.size, 0, none⟩) 0 0) 0 [] := by
  refine ⟨by simp, .inr ⟨w.heap.size, 0, #[], rfl, hB, ?_, Nat.le_refl _, by decide, by simp, by simp⟩⟩
  show (w.heap.push _)[_]? = _
  simp
theorem append_exec {P : Program} {o : Oper} {a : Act} {w w' : World} {s x : Operand} {t : TypeId} {v v1 v2 : Value} (ho : o.op = .call { callee := .builtin .append, args := #[s, x], argTypes := #[t, t] }) (hs : a.eval s = v1) (hx : a.eval x = v2)
    (hr : (Builtin.append_ #[t, t] o.type #[v1, v2]).run P w = .ok v w') : (execOp a.eval o).run P w = .ok (.value v) w' := by
  simp [execOp, ho, resolve, invoke, builtin, hs, hx, hr, Result.andThen]
/-- An append to a slice without room lays a row anew. -/
theorem append_fresh {P : Program} {w : World} {B0 : Nat} (hB : B0 ≤ w.heap.size) {t ty e : TypeId} {i : TypeInfo} {z : Value} {size bytes : Nat} (ht : P.underlying t = some (.slice e)) (hi : P.info? e = some i) (hz : i.zero = some z)
    (hsize : i.size = size) (hby : i.bytes = bytes) (hzs : z.cells.size = size) (hsz : 0 < size) {b : Nat} (h0 : w.ownsRow B0 e size (.slice (some ⟨b, 0, none⟩) 0 0) 0 [])
    {A : Option Addr} {m c : Nat} {news : List Value} (hf : Flat w A m size news) (hc : m ≤ c) (h63 : m ≤ maxLen) (hbytes : m * bytes ≤ 140737488355328) :
    ∃ v' w', (Builtin.append_ #[t, t] ty #[.slice (some ⟨b, 0, none⟩) 0 0, .slice A m c]).run P w = .ok v' w' ∧ w'.ownsRow B0 e size v' m news ∧ Ext w w' := by
  by_cases hm : 0 < m
  · obtain ⟨ad, rfl, hn⟩ := hf.2 (by rw [hf.1]; exact Nat.mul_pos hm hsz)
    obtain ⟨v', w', h1, h2, h3⟩ := run_append_arg_grows (P := P) (w := w) t ty e i z size bytes ht hi hz hsize hby hzs hsz ⟨b, 0, none⟩ 0 0 [] (by simp) (fun j u hj => by simp at hj) ad m c news hf.1 (fun j u hj => hn j u hj) (by omega) (by omega) (by rw [Nat.zero_add]; exact hbytes)
    rw [Nat.zero_add, List.nil_append] at h2
    exact ⟨v', w', h1, ownsRow_base h2 hB, Ext.grown (Ext.refl w) ⟨h3, sem_drawn _ _ _ _ h1⟩ (fun k hk => by cases hk)⟩
  · obtain rfl : m = 0 := by omega
    have hl : news = [] := List.eq_nil_of_length_eq_zero (by simpa using hf.1)
    subst hl
    refine ⟨.slice (some ⟨b, 0, none⟩) 0 0, w, ?_, h0, Ext.refl _⟩
    have hc : (Builtin.firstCells i.size 0 (.slice A 0 c)).run P w = .ok #[] w := by
      cases A with
      | none => simp [Builtin.firstCells]
      | some ad => simpa using run_firstCells_some (P := P) w i.size 0 ad 0 c [] (by simp) (fun j u hj => by simp at hj)
    simp [Builtin.append_, run_underlying ht, sizeOf, typeInfo, hi, Builtin.lenOf, hc, storeCells]
end Go.Proofs.Ythjaopojlhdjpaa

namespace Go.Proofs.Ythjaopojlhdjpaa.Rg4
set_option linter.unusedSimpArgs false
set_option linter.unusedVariables false
open Go Go.Proofs.Ythjaopojlhdjpaa.Rg
section
variable (P : Program) (ops : Array Oper) (T : Array Nat) (Rel : World → World → Prop) (ld : Nat → Bool) (Cl : World → Prop) (kd : Nat → Kd) (Q : Exit → Act → World → Prop)
/-- All orders of the barriers of a list. -/
def tree7 (r : List (Nat × Oper)) : Nat → List (Nat × Oper) → World → Facts → Act → Prop
  | 0, _, w0, F, a => wp4 P ops T Rel ld Cl kd Q r w0 F a
  | n + 1, bs, w0, F, a => ∀ p ∈ bs, ∀ w, Rel w0 w → Cl w → All F w → p.2.wp P a w (fun a' w' => Cl w' ∧ tree7 r n (bs.filter fun q => q.1 != p.1) w' none a') Q
end
def tree7E (ops : Array Oper) (C r : List Nat) : Nat → List Nat → Array Bool → Bool
  | 0, _, listed => lex4 ops C r listed
  | n + 1, bs, listed => decide (Region.ready .any ops listed = bs) && (!bs.isEmpty && bs.all fun k => C.contains k && tree7E ops C r n (bs.filter (· != k)) (listed.setIfInBounds k true))
section
variable {P : Program} {ops : Array Oper} {T : Array Nat} {Rel : World → World → Prop} {ld : Nat → Bool} {Cl : World → Prop} {kd : Nat → Kd} {Q : Exit → Act → World → Prop}
theorem tree7_any (htr : ∀ a b c, Rel a b → Rel b c → Rel a c) (hsp : ∀ k S, kd k = .some (.some S) → ∀ v w w', Rel w w' → S v w → S v w') (hB : befOk ops T = true)
    (hbar : ∀ i j, (isB kd i = true ∨ ld i = true) → isC kd j = true → bef ops T j i = true ∨ bef ops T i j = true) (hQ : ∀ c (a : Act) x v w, Q (.panic c) (a.put x v) w → Q (.panic c) a w)
    (C : List Nat) (hC : ∀ k, isC kd k = C.contains k) (hs : Region.noSelect ops = true) {r : List (Nat × Oper)} (hr : ∀ p ∈ r, ops[p.1]? = .some p.2) :
    ∀ (n : Nat) (bs : List (Nat × Oper)) (listed : Array Bool) (w0 : World) (F : Facts) (a : Act), (∀ p ∈ bs, ops[p.1]? = .some p.2 ∧ p.2.guard = .none) → tree7E ops C (r.map (·.1)) n (bs.map (·.1)) listed = true → Closed ops T listed → StableF Rel F →
    tree7 P ops T Rel ld Cl kd Q r n bs w0 F a → wpAny4 P ops T Rel ld Cl kd Q (r.length + n) listed w0 F a
  | 0, _, listed, w0, F, a, _, he, hc, hst, h => wpAny4_lex htr hsp hB hbar hQ C hC hs r listed w0 F a hr he hc hst h
  | n + 1, bs, listed, w0, F, a, hb, he, hc, hst, h => by
    show wpAny4 P ops T Rel ld Cl kd Q ((r.length + n) + 1) listed w0 F a
    unfold tree7E at he
    simp only [Bool.and_eq_true, decide_eq_true_eq, List.all_eq_true] at he
    obtain ⟨e1, e2, e3⟩ := he
    intro _
    refine ⟨fun q => (by rw [e1] at q; rw [q] at e2; cases e2), fun x hx => ?_⟩
    have hx0 := hx
    rw [e1] at hx
    obtain ⟨e4, e5⟩ := e3 x hx
    obtain ⟨p, hp, rfl⟩ := List.mem_map.1 hx
    obtain ⟨h1, h2⟩ := hb p hp
    have hkk : kd p.1 = .some .none := kd_bar hC e4
    have hw : Region.wanted p.2 (yielded ops a.tmps) = true := by simp [Region.wanted, h2]
    unfold op4
    simp only [h1, hw, if_true, hkk]
    intro w hw1 hcl hF
    refine .inl (Oper.wp_mono (fun a' w' ⟨q1, q2⟩ => ⟨q1, ?_⟩) (h p hp w hw1 hcl hF))
    refine tree7_any htr hsp hB hbar hQ C hC hs hr n (bs.filter fun q => q.1 != p.1) (listed.setIfInBounds p.1 true) w' none a' (fun q hq => hb q (List.mem_filter.1 hq).1) ?_ (closed_set hB hc hx0) (fun _ _ _ _ _ => trivial) q2
    rw [List.filter_map] at e5
    exact e5
end
/-- A region whose order is drawn, up to several barriers that may come in any order. -/
theorem wp_region7_eq {P : Program} (T : Array Nat) (Cs Ls : List Nat) (Cl : World → Prop) (p bs r : List Nat) {id : Nat} {Q : Exit → Act → World → Prop} {a : Act} {w : World} {l : List Oper} (hm : P.follows .mixedOrders = true)
    (hg : ((inOrd l bs).all fun p => p.2.guard.isNone) = true)
    (hL : (Region.noSelect l.toArray && (lex5 l.toArray Cs (tree7E l.toArray Cs ((inOrd l r).map (·.1)) (inOrd l bs).length ((inOrd l bs).map (·.1))) ((inOrd l p).map (·.1)) (Array.replicate l.length false) && (inOrd l r).length + (inOrd l bs).length + (inOrd l p).length == l.length)) = true) (hB : befOk l.toArray T = true) (hb : barB l.toArray T Ls Cs = true)
    (hQ : ∀ c (a : Act) x v w, Q (.panic c) (a.put x v) w → Q (.panic c) a w) (hcl : Cl { w with drawn := w.drawn + 1 })
    (h : wp5 P l.toArray T (· = ·) (fun k => Ls.contains k) Cl (kdOf (Rel := (· = ·)) [] Cs) Q (tree7 P l.toArray T (· = ·) (fun k => Ls.contains k) Cl (kdOf (Rel := (· = ·)) [] Cs) Q (inOrd l r) (inOrd l bs).length (inOrd l bs)) (inOrd l p) { w with drawn := w.drawn + 1 } none a) : (Code.region id l.toArray true).wp P Q a w := by
  rw [Bool.and_eq_true, Bool.and_eq_true] at hL
  have hlen : (inOrd l r).length + (inOrd l bs).length + (inOrd l p).length = l.length := by simpa using hL.2.2
  have htr : ∀ a b c : World, a = b → b = c → a = c := fun _ _ _ h k => h.trans k
  have hbar : ∀ i j, (isB (kdOf (Rel := (· = ·)) [] Cs) i = true ∨ Ls.contains i = true) → isC (kdOf (Rel := (· = ·)) [] Cs) j = true → bef l.toArray T j i = true ∨ bef l.toArray T i j = true := fun i j hi hj => by
    rw [kdOf_C] at hj
    have h1 := List.all_eq_true.1 hb j (by simpa using hj)
    have h2 := List.all_eq_true.1 h1 i (by
      rcases hi with hi | hi
      · have := kdOf_B [] Cs i hi; cases this
      · simpa using hi)
    simpa using h2
  refine wp_region_any hm (wpAny_of_4 (T := T) (ld := fun k => Ls.contains k) (fun _ => rfl) htr (kdOf_sp [] Cs) _ _ { w with drawn := w.drawn + 1 } none _ _ (fun _ _ _ _ _ => trivial) rfl hcl (fun _ => trivial) ?_)
  have := wpAny5_lex (P := P) (Q := Q) (ld := fun k => Ls.contains k) (Cl := Cl) htr (kdOf_sp [] Cs) hB hbar hQ Cs (kdOf_C [] Cs) hL.1 (tree7E l.toArray Cs ((inOrd l r).map (·.1)) (inOrd l bs).length ((inOrd l bs).map (·.1)))
    (tree7 P l.toArray T (· = ·) (fun k => Ls.contains k) Cl (kdOf (Rel := (· = ·)) [] Cs) Q (inOrd l r) (inOrd l bs).length (inOrd l bs)) ((inOrd l r).length + (inOrd l bs).length)
    (fun listed w0 F a he hc hst h => tree7_any htr (kdOf_sp [] Cs) hB hbar hQ Cs (kdOf_C [] Cs) hL.1 inOrd_mem _ _ listed w0 F a (fun p hp => ⟨inOrd_mem p hp, by simpa using List.all_eq_true.1 hg p hp⟩) he hc hst h)
    (inOrd l p) (Array.replicate l.length false) { w with drawn := w.drawn + 1 } none a inOrd_mem hL.2.1 (fun k m hk => by
    exfalso
    by_cases h : k < l.length <;> simp [h] at hk) (fun _ _ _ _ _ => trivial) h
  rw [hlen] at this
  simpa using this
section
open Go.RowKit
variable {fr al : Nat → Prop} {w0 w : World} {L : List It}
theorem own_swap {x y : It} {R : List It} (s : Own fr al w0 (L ++ x :: y :: R) w) : Own fr al w0 (L ++ y :: x :: R) w := by
  have s2 := s.keep (List.range L.length ++ (L.length + 1) :: L.length :: (List.range R.length).map (· + (L.length + 2))) (by
    rw [List.nodup_append]
    refine ⟨List.nodup_range, ?_, ?_⟩
    · simp only [List.nodup_cons, List.mem_cons, List.mem_map, List.mem_range, not_or]
      refine ⟨⟨by omega, ?_⟩, ?_, ?_⟩
      · rintro ⟨a, h1, h2⟩; omega
      · rintro ⟨a, h1, h2⟩; omega
      · rw [List.nodup_iff_pairwise_ne, List.pairwise_map]
        exact (List.nodup_iff_pairwise_ne.1 List.nodup_range).imp fun h1 h2 => h1 (by omega)
    · intro x hx y hy
      simp only [List.mem_range, List.mem_cons, List.mem_map] at hx hy
      rcases hy with hy | hy | ⟨a, h1, h2⟩ <;> omega) (by
    intro q hq
    simp only [List.mem_append, List.mem_range, List.mem_cons, List.mem_map] at hq
    simp only [List.length_append, List.length_cons]
    rcases hq with hq | hq | hq | ⟨a, h1, h2⟩ <;> omega)
  have e : pick (L ++ x :: y :: R) (List.range L.length ++ (L.length + 1) :: L.length :: (List.range R.length).map (· + (L.length + 2))) = L ++ y :: x :: R := by
    unfold pick
    rw [List.map_append]
    congr 1
    · apply List.ext_getElem
      · simp
      · intro i h1 h2
        simp [List.getElem?_append_left h2, List.getElem?_eq_getElem h2]
    · simp only [List.map_cons]
      congr 1
      · simp
      congr 1
      · simp
      · apply List.ext_getElem
        · simp
        · intro i h1 h2
          have hi : i < R.length := h2
          have e1 : (L ++ x :: y :: R)[i + (L.length + 2)]? = some R[i] := by
            rw [List.getElem?_append_right (by omega), show i + (L.length + 2) - L.length = i + 2 by omega]
            simp [List.getElem?_eq_getElem hi]
          simp [e1]
  rwa [e] at s2
theorem own_perm {A B : List It} (h : A.Perm B) : ∀ L : List It, Own fr al w0 (L ++ A) w → Own fr al w0 (L ++ B) w := by
  induction h with
  | nil => intro L s; exact s
  | cons x _ ih => intro L s; have := ih (L ++ [x]) (by simpa using s); simpa using this
  | swap x y l => intro L s; exact own_swap s
  | trans _ _ i1 i2 => intro L s; exact i2 L (i1 L s)
def puts7 (dd b : Nat → Nat) (a : Act) (l : List Nat) : Act := l.foldl (fun a k => a.put (some (dd k)) (.pointer (some ⟨b k, 0, none⟩))) a
theorem puts7_perm {dd b : Nat → Nat} {l l' : List Nat} (h : l.Perm l') (hd : ∀ x ∈ l, ∀ y ∈ l, x ≠ y → dd x ≠ dd y) (a : Act) : puts7 dd b a l = puts7 dd b a l' := by
  unfold puts7
  refine h.foldl_eq' (fun x hx y hy z => ?_) a
  by_cases e : x = y
  · subst e; rfl
  · exact Act.put_comm _ _ _ (fun d q1 q2 => hd x hx y hy e (Option.some.inj (q1.trans q2.symm)))
theorem puts7_congr {dd b b' : Nat → Nat} : ∀ {l : List Nat} (_ : ∀ x ∈ l, b x = b' x) (a : Act), puts7 dd b a l = puts7 dd b' a l
  | [], _, _ => rfl
  | x :: l, h, a => by
    show puts7 dd b (a.put _ _) l = puts7 dd b' (a.put _ _) l
    rw [h x (by simp)]
    exact puts7_congr (fun y hy => h y (by simp [hy])) _
variable {P : Program} {ops : Array Oper} {T : Array Nat} {ld : Nat → Bool} {Cl : World → Prop} {kd : Nat → Kd} {Q : Exit → Act → World → Prop}
/-- Allocations in any order: what follows is walked once. -/
theorem tree7_alloc {r bs : List (Nat × Oper)} {a : Act} (dd : Nat → Nat) (cs : Nat → Array Value) (TT : Nat → TypeId) (hnd : (bs.map (·.1)).Nodup) (hdd : ∀ x ∈ bs.map (·.1), ∀ y ∈ bs.map (·.1), x ≠ y → dd x ≠ dd y) (hdst : ∀ p ∈ bs, p.2.dst = some (dd p.1))
    (hrun : ∀ p ∈ bs, ∀ (x : Act) (w : World), (execOp x.eval p.2).run P w = .ok (.value (.pointer (some ⟨w.heap.size, 0, none⟩))) (w.alloc (.cells (cs p.1) (TT p.1))))
    (hcl : ∀ M w', Own fr al w0 (L ++ M) w' → Cl w')
    (h : ∀ b w', Own fr al w0 (L ++ (bs.map (·.1)).map fun k => blkI (b k) (cs k).toList) w' → wp4 P ops T (· = ·) ld Cl kd Q r w' none (puts7 dd b a (bs.map (·.1)))) :
    ∀ (n : Nat) (dn : List Nat) (rest : List (Nat × Oper)) (b : Nat → Nat) (w : World), rest.length = n → (dn ++ rest.map (·.1)).Perm (bs.map (·.1)) → (∀ p ∈ rest, p ∈ bs) → Own fr al w0 (L ++ dn.map fun k => blkI (b k) (cs k).toList) w →
    tree7 P ops T (· = ·) ld Cl kd Q r n rest w none (puts7 dd b a dn)
  | 0, dn, rest, b, w, hn, hp, _, st => by
    obtain rfl : rest = [] := List.length_eq_zero_iff.1 hn
    rw [List.map_nil, List.append_nil] at hp
    unfold tree7
    rw [puts7_perm hp (fun x hx y hy => hdd x (hp.mem_iff.1 hx) y (hp.mem_iff.1 hy))]
    exact h b w (own_perm (hp.map _) _ st)
  | n + 1, dn, rest, b, w, hn, hp, hr, st => by
    unfold tree7
    intro p hpm w' hw' _ _
    subst hw'
    have hnd2 : (dn ++ rest.map (·.1)).Nodup := hp.symm.nodup hnd
    rw [List.nodup_append] at hnd2
    obtain ⟨_, n2, n3⟩ := hnd2
    have hx : p.1 ∈ rest.map (·.1) := List.mem_map_of_mem hpm
    have hdn : ∀ k ∈ dn, k ≠ p.1 := fun k hk => n3 k hk p.1 hx
    have s1 := st.alloc (cs p.1).toList (TT p.1) rfl
    rw [show (cs p.1).toList.toArray = cs p.1 from rfl] at s1
    have key : ∀ b' : Nat → Nat, b' p.1 = w.heap.size → (∀ k ∈ dn, b k = b' k) → Own fr al w0 (L ++ (dn ++ [p.1]).map fun k => blkI (b' k) (cs k).toList) (w.alloc (.cells (cs p.1) (TT p.1))) := fun b' h1 h2 => by
      rw [List.map_append, ← List.append_assoc]
      have e : (dn.map fun k => blkI (b' k) (cs k).toList) = dn.map fun k => blkI (b k) (cs k).toList := List.map_congr_left fun k hk => by rw [h2 k hk]
      rw [e]
      simp only [List.map_cons, List.map_nil, h1]
      exact s1
    have k1 : (fun k => if k = p.1 then w.heap.size else b k) p.1 = w.heap.size := by simp
    have k2 : ∀ k ∈ dn, b k = (fun k => if k = p.1 then w.heap.size else b k) k := fun k hk => by simp [hdn k hk]
    have s2 := key _ k1 k2
    refine owp_run (hrun p (hr p hpm) _ w) ⟨hcl _ _ s2, ?_⟩
    rw [hdst p (hr p hpm)]
    have ea : (puts7 dd b a dn).put (some (dd p.1)) (.pointer (some ⟨w.heap.size, 0, none⟩)) = puts7 dd (fun k => if k = p.1 then w.heap.size else b k) a (dn ++ [p.1]) := by
      rw [puts7_congr k2]
      unfold puts7
      rw [List.foldl_append]
      simp
    rw [ea]
    have ef : (rest.filter fun q => q.1 != p.1).map (·.1) = (rest.map (·.1)).erase p.1 := by
      rw [n2.erase_eq_filter, List.filter_map]; rfl
    have hpe := List.perm_cons_erase hx
    refine tree7_alloc dd cs TT hnd hdd hdst hrun hcl h n (dn ++ [p.1]) _ _ _ ?_ ?_ (fun q hq => hr q (List.mem_filter.1 hq).1) s2
    · have h1 := hpe.length_eq
      rw [← ef] at h1
      simp only [List.length_map, List.length_cons] at h1
      omega
    · rw [ef]
      refine List.Perm.trans ?_ hp
      rw [List.append_assoc]
      exact List.Perm.append_left dn hpe.symm
theorem tree7_alloc4 {i1 i2 i3 i4 d1 d2 d3 d4 : Nat} {o1 o2 o3 o4 : Oper} {r : List (Nat × Oper)} {a : Act} (hi : [i1, i2, i3, i4].Nodup) (hd : [d1, d2, d3, d4].Nodup) (e1 : o1.dst = some d1) (e2 : o2.dst = some d2) (e3 : o3.dst = some d3) (e4 : o4.dst = some d4)
    (st : Own fr al w0 L w) (h : ∃ (c1 : Array Value) (T1 : TypeId) (c2 : Array Value) (T2 : TypeId) (c3 : Array Value) (T3 : TypeId) (c4 : Array Value) (T4 : TypeId),
      (∀ (x : Act) (w : World), (execOp x.eval o1).run P w = .ok (.value (.pointer (some ⟨w.heap.size, 0, none⟩))) (w.alloc (.cells c1 T1))) ∧
      (∀ (x : Act) (w : World), (execOp x.eval o2).run P w = .ok (.value (.pointer (some ⟨w.heap.size, 0, none⟩))) (w.alloc (.cells c2 T2))) ∧
      (∀ (x : Act) (w : World), (execOp x.eval o3).run P w = .ok (.value (.pointer (some ⟨w.heap.size, 0, none⟩))) (w.alloc (.cells c3 T3))) ∧
      (∀ (x : Act) (w : World), (execOp x.eval o4).run P w = .ok (.value (.pointer (some ⟨w.heap.size, 0, none⟩))) (w.alloc (.cells c4 T4))) ∧
      (∀ M w', Own fr al w0 (L ++ M) w' → Cl w') ∧
      (∀ b1 b2 b3 b4 w', Own fr al w0 (L ++ [blkI b1 c1.toList, blkI b2 c2.toList, blkI b3 c3.toList, blkI b4 c4.toList]) w' → wp4 P ops T (· = ·) ld Cl kd Q r w' none
        ((((a.put (some d1) (.pointer (some ⟨b1, 0, none⟩))).put (some d2) (.pointer (some ⟨b2, 0, none⟩))).put (some d3) (.pointer (some ⟨b3, 0, none⟩))).put (some d4) (.pointer (some ⟨b4, 0, none⟩))))) :
    tree7 P ops T (· = ·) ld Cl kd Q r 4 [(i1, o1), (i2, o2), (i3, o3), (i4, o4)] w none a := by
  obtain ⟨c1, T1, c2, T2, c3, T3, c4, T4, r1, r2, r3, r4, hcl, h⟩ := h
  have hi0 := hi
  simp only [List.nodup_cons, List.mem_cons, List.not_mem_nil, or_false, not_or, not_false_eq_true, List.nodup_nil, and_true] at hi hd
  obtain ⟨⟨i12, i13, i14⟩, ⟨i23, i24⟩, i34⟩ := hi
  obtain ⟨⟨d12, d13, d14⟩, ⟨d23, d24⟩, d34⟩ := hd
  have E : ∀ {α : Type} (x1 x2 x3 x4 : α), (fun k => if k = i1 then x1 else if k = i2 then x2 else if k = i3 then x3 else x4) i1 = x1 ∧ (fun k => if k = i1 then x1 else if k = i2 then x2 else if k = i3 then x3 else x4) i2 = x2 ∧
      (fun k => if k = i1 then x1 else if k = i2 then x2 else if k = i3 then x3 else x4) i3 = x3 ∧ (fun k => if k = i1 then x1 else if k = i2 then x2 else if k = i3 then x3 else x4) i4 = x4 := fun x1 x2 x3 x4 => by
    simp [Ne.symm i12, Ne.symm i13, Ne.symm i14, Ne.symm i23, Ne.symm i24, Ne.symm i34]
  obtain ⟨f1, f2, f3, f4⟩ := E d1 d2 d3 d4
  obtain ⟨g1, g2, g3, g4⟩ := E c1 c2 c3 c4
  obtain ⟨t1, t2, t3, t4⟩ := E T1 T2 T3 T4
  generalize (fun k => if k = i1 then d1 else if k = i2 then d2 else if k = i3 then d3 else d4) = dd at f1 f2 f3 f4
  generalize (fun k => if k = i1 then c1 else if k = i2 then c2 else if k = i3 then c3 else c4) = cs at g1 g2 g3 g4
  generalize (fun k => if k = i1 then T1 else if k = i2 then T2 else if k = i3 then T3 else T4) = TT at t1 t2 t3 t4
  have := tree7_alloc (P := P) (ops := ops) (T := T) (ld := ld) (Cl := Cl) (kd := kd) (Q := Q) (fr := fr) (al := al) (w0 := w0) (L := L) (r := r) (bs := [(i1, o1), (i2, o2), (i3, o3), (i4, o4)]) (a := a) dd cs TT hi0
    (by
      intro x hx y hy hxy
      simp only [List.map_cons, List.map_nil, List.mem_cons, List.not_mem_nil, or_false] at hx hy
      rcases hx with rfl | rfl | rfl | rfl <;> rcases hy with rfl | rfl | rfl | rfl <;> first | exact absurd rfl hxy | (simp only [f1, f2, f3, f4]; first | assumption | exact Ne.symm (by assumption)))
    (by
      intro p hp
      simp only [List.mem_cons, List.not_mem_nil, or_false] at hp
      rcases hp with rfl | rfl | rfl | rfl
      · rw [f1]; exact e1
      · rw [f2]; exact e2
      · rw [f3]; exact e3
      · rw [f4]; exact e4)
    (by
      intro p hp
      simp only [List.mem_cons, List.not_mem_nil, or_false] at hp
      rcases hp with rfl | rfl | rfl | rfl
      · rw [g1, t1]; exact r1
      · rw [g2, t2]; exact r2
      · rw [g3, t3]; exact r3
      · rw [g4, t4]; exact r4)
    hcl
    (by
      intro b w' s
      simp only [List.map_cons, List.map_nil, g1, g2, g3, g4] at s
      have := h _ _ _ _ w' s
      simpa only [puts7, List.map_cons, List.map_nil, List.foldl_cons, List.foldl_nil, f1, f2, f3, f4] using this)
    4 [] [(i1, o1), (i2, o2), (i3, o3), (i4, o4)] (fun _ => 0) w rfl (List.Perm.refl _) (fun _ q => q) (by simpa using st)
  exact this
end
end Go.Proofs.Ythjaopojlhdjpaa.Rg4
