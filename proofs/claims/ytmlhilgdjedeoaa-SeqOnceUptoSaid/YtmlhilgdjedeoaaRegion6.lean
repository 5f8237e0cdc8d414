/- slices.Clone at []Role; the set's closure. -/
import Derived.Test.YtmlhilgdjedeoaaSlRoleC
import Derived.Test.YtmlhilgdjedeoaaSetsC
import Derived.Shelf.SlSortCmp.NoneTotal
import Derived.Sort.OwnSorted
import Derived.Test.YtmlhilgdjedeoaaSort
import Derived.Lib.BytesEntry
import Derived.Laws.Externs
import Derived.Deep.Onto
namespace Go.Proofs.Ytmlhilgdjedeoaa
set_option linter.unusedSimpArgs false
set_option linter.unusedVariables false
open Go Go.RowKit
@[go_sem] theorem eqNilRole (a : Option Addr) (n c : Nat) (w : World) : (binOp .eql 38 (.slice a n c) (.slice none 0 0)).run Try.prog w = .ok (.bool a.isNone) w := by
  have h := run_equal_slice_nil w _ _ a n c Try.underlying38
  simp only [binOp]
  simp [h]
set_option maxRecDepth 100000 in
set_option maxHeartbeats 1000000 in
theorem roleClone_any (a : Option Addr) (n c : Nat) (l : List Role) (W : World) (h : Fl W a n l) (hn : n ≤ 2000000) :
    Calls Try.prog 52 #[.slice a n c] W fun e w' => ∃ va vc, e = .returned (.slice va n vc) ∧ FreshI W w' (rowI 71 2 (.slice va n vc) n (cellsL l)) := by
  have H := Lib.hid h
  clear h
  have st := Own.startOld W
  (try simp only [nsl, Value.cells, unB] at st)
  (try clear hc); have hc := st.facts; (try simp only [nfl, nft, Nat.reduceAdd] at hc)
  cases a with
  | none =>
    have h0 : n = 0 := by
      rcases Nat.eq_zero_or_pos n with q | q
      · exact q
      · obtain ⟨b, off, e, _⟩ := H.out.2 q; cases e
    subst h0
    have hl : l = [] := List.eq_nil_of_length_eq_zero H.out.1.symm
    subst hl
    go_enter Try.func52, Try.ntmps52
    go_wp2_with fail
    go_ret
    exact ⟨none, 0, rfl, FreshI.post (FreshI.pre (FreshI.nilRow W _ _) (Ext.refl _)) st.ext0⟩
  | some ad =>
    go_enter Try.func52, Try.ntmps52
    go_wp2_with (first
        | ((with_reducible refine wl_append ?_ (fun K hK => ?_)); (rfl); (obtain ⟨inf, hinf, hz0, hz1, hz2⟩ := roleInfo); (refine owp_append rfl st 1 get1 Try.underlying38 hinf hz0 hz1 hz2 rfl (by decide) rfl rfl ((st.oldFl (i := 0) get0 H.out).flat) (by first | exact cellsL_all _ | simp [Value.oneCell']) (by simp only [maxLen]; omega) (by omega) ?_); (clear hinf hz0 hz1 hz2 inf); (clear st; intro v' w st); (obtain ⟨va', vc', rfl⟩ := own_slice (st.row (i := 1) get1)); (try simp only [nsl, Value.cells, unB] at st); (try simp only [Nat.zero_add] at st); (try clear hc); have hc := st.facts; (try simp only [nfl, nft, Nat.reduceAdd] at hc))
        | ((with_reducible refine wl_buildSlice ?_ (fun K hK => ?_)); (rfl); (refine owp_buildRow (o := ⟨some 5, _, _, _, _, _⟩) rfl st 71 2 ?_; refine ⟨0, #[], ?_, by simp, by simp [maxLen], ?_⟩; (focus (go_simp; (first | done | rfl))); (clear st; intro b5 w hb st; clear hb)); (try simp only [nsl, Value.cells, unB] at st); (try clear hc); have hc := st.facts; (try simp only [nfl, nft, Nat.reduceAdd] at hc))
        | ((((with_reducible refine wl_buildSlice ?_ (fun K hK => ?_)); rfl; refine owp_buildSlice (o := ⟨some 5, _, _, _, _, _⟩) rfl st ?_; apply Exists.intro; apply Exists.intro; apply Exists.intro; apply Exists.intro; refine ⟨?_, ?_⟩; (focus (go_simp; (first | done | exact ⟨⟨rfl, rfl⟩, rfl⟩ | rfl))); (clear st; intro b5 w hb st; clear hb))); (try simp only [nsl, Value.cells, unB] at st); (try clear hc); have hc := st.facts; (try simp only [nfl, nft, Nat.reduceAdd] at hc)))
    go_ret
    have hf := st.toFresh (i := 1) get1
    exact ⟨_, _, rfl, hf⟩
set_option maxRecDepth 100000 in
set_option maxHeartbeats 1000000 in
theorem roleSet1_any (x : Role) (W : World) (h1 : x.1.length ≤ 100000) (h2 : x.2.length ≤ 100000) : Calls Try.prog 53 #[rV x] W fun e w' => e = .returned (.bool (!roleR x)) ∧ Ext W w' := by
  have HR := Lib.hid (roleRight_any x)
  obtain ⟨o, d⟩ := x
  simp only at h1 h2
  have st := Own.startOld W
  unfold rV S at *
  (try simp only [nsl, Value.cells, unB] at st)
  (try clear hc); have hc := st.facts; (try simp only [nfl, nft, Nat.reduceAdd] at hc)
  go_enter Try.func53, Try.ntmps53
  go_wp2_with ((((with_reducible refine wl_box ?_ (fun K hK => ?_)); rfl; refine owp_box (o := ⟨some 1, _, _, _, _, _⟩) rfl st ?_; apply Exists.intro; refine ⟨?_, ?_⟩; (focus (go_simp; try rfl)); (clear st; intro b1 w hb st; clear hb))); (try simp only [nsl, Value.cells, unB] at st); (try clear hc); have hc := st.facts; (try simp only [nfl, nft, Nat.reduceAdd] at hc))
  refine (HR.out _ h1 h2).mono ?_
  rintro en w ⟨rfl, hx⟩
  replace st := st.ext hx
  clear hx
  (try clear hc); have hc := st.facts; (try simp only [nfl, nft, Nat.reduceAdd] at hc)
  go_wp2_with ((((with_reducible refine wl_box ?_ (fun K hK => ?_)); rfl; refine owp_box (o := ⟨some 1, _, _, _, _, _⟩) rfl st ?_; apply Exists.intro; refine ⟨?_, ?_⟩; (focus (go_simp; try rfl)); (clear st; intro b1 w hb st; clear hb))); (try simp only [nsl, Value.cells, unB] at st); (try clear hc); have hc := st.facts; (try simp only [nfl, nft, Nat.reduceAdd] at hc))
  go_ret
  exact ⟨rfl, st.ext0⟩
end Go.Proofs.Ytmlhilgdjedeoaa

namespace Go.Proofs.Ytmlhilgdjedeoaa
set_option linter.unusedSimpArgs false
set_option linter.unusedVariables false
open Go Go.RowKit Go.Sort Go.Lib Go.Shelf
theorem Ext.grow {w w' : World} (h : Ext w w') : ∃ q os, w' = grow (w.drewN q) os := by
  refine ⟨w'.drawn - w.drawn, w'.heap.extract w.heap.size w'.heap.size, ?_⟩
  have hh : w'.heap = w.heap ++ w'.heap.extract w.heap.size w'.heap.size := by
    apply Array.ext_getElem?
    intro k
    rw [Array.getElem?_append]
    split
    · exact h.bel.block k (by assumption)
    · rw [Array.getElem?_extract]
      split
      · congr 1; omega
      · rw [Array.getElem?_eq_none]; have := h.le; omega
  have hd := h.drawn
  cases w' with
  | mk a b c d e =>
    have h1 := h.bel.os; have h2 := h.bel.tape; have h3 := h.bel.output
    simp only at h1 h2 h3 hd hh
    unfold Go.Sort.grow World.drewN
    simp only [World.mk.injEq]
    exact ⟨hh, h2, by omega, h1, h3⟩
section
variable {α : Type} [Flt α] [Inhabited α]
theorem flat_eq (xs : List α) : (flatK Flt.cells (Flt.k α) xs.toArray).toList = cellsL xs := by
  have hk := Flt.pos (α := α)
  apply List.ext_getElem?
  intro t
  by_cases ht : t < xs.length * Flt.k α
  · have hi : t / Flt.k α < xs.length := (Nat.div_lt_iff_lt_mul hk).2 ht
    have hr : t % Flt.k α < Flt.k α := Nat.mod_lt _ hk
    have e : t / Flt.k α * Flt.k α + t % Flt.k α = t := by rw [Nat.mul_comm]; exact Nat.div_add_mod _ _
    have h1 := cellsL_get (List.getElem?_eq_getElem hi) hr
    rw [e] at h1
    rw [h1, Array.getElem?_toList]
    have hrl : t % Flt.k α < (Flt.cells xs[t / Flt.k α]).length := by rw [Flt.len]; exact hr
    simp [flatK, ht, hi, hrl]
  · rw [List.getElem?_eq_none (by simp; omega), List.getElem?_eq_none (by rw [cellsL_len]; omega)]
theorem flat_eq' (xs : List α) : flatK Flt.cells (Flt.k α) xs.toArray = (cellsL xs).toArray := by
  rw [← flat_eq]
theorem heap_sortedK {w : World} {g n : Nat} {os : Array Obj} {cur : Array Value} {e : TypeId} {f : Nat × Nat} (d : Array Value) (hb : w.heap[g]? = some (.cells cur e f)) :
    (grow (putRow id (Sort.ahead w n) g 0 d) os).heap[g]? = some (.cells (putCells id 0 d cur) e f) := by
  have hg : g < w.heap.size := (Array.getElem?_eq_some_iff.1 hb).1
  rw [heap_grow_old _ _ (by simpa using hg)]
  simp [putRow, mapBlock, Sort.ahead, Array.getElem?_modify, hb, onCells]
theorem grownBy_sortedK {w : World} {g n : Nat} {os : Array Obj} (d : Array Value) : w.grownBy (grow (putRow id (Sort.ahead w n) g 0 d) os) (some g) := by
  refine ⟨rfl, rfl, rfl, by simp, fun k hk hne => ?_⟩
  rw [heap_grow_old _ _ (by simpa using hk)]
  have : g ≠ k := fun e => hne (by rw [e])
  simp [putRow, mapBlock, Sort.ahead, Array.getElem?_modify, this]
theorem take_putCellsK (cur : Array Value) (ts : List Value) (h : ts.length ≤ cur.size) : (putCells id 0 ts.toArray cur).toList.take ts.length = ts := by
  apply List.ext_getElem?
  intro j
  by_cases hj : j < ts.length
  · rw [List.getElem?_take_of_lt hj, Array.getElem?_toList]
    simp [putCells, hj, show j < cur.size by omega]
  · rw [List.getElem?_take_eq_none (by omega), List.getElem?_eq_none (by omega)]
variable {fr al : Nat → Prop} {w0 w : World} {L : List It}
theorem Own.holdsK (st : Own fr al w0 L w) {i n c g : Nat} {E : TypeId} {xs : List α} (hi : L[i]? = some (rowI E (Flt.k α) (.slice (some ⟨g, 0, none⟩) n c) n (cellsL xs))) : HoldsK Flt.cells (Flt.k α) w g 0 xs.toArray ∧ g < w.heap.size := by
  have hrow := st.row hi
  rcases hrow.2 with ⟨h1, h2⟩ | ⟨g', cap, cur, h1, hb, hg, hcap, hm, hs, ht⟩
  · cases h1
  · cases h1
    refine ⟨?_, (Array.getElem?_eq_some_iff.1 hg).1⟩
    unfold HoldsK
    rw [flat_eq']
    intro j hj
    have hj' : j < (cellsL xs).length := by simpa using hj
    refine ⟨?_, by simp [World.frozen?, hg]⟩
    have hn : n * Flt.k α = (cellsL xs).length := hrow.1.symm
    have h1 : (cur.toList.take (n * Flt.k α))[j]? = (cellsL xs)[j]? := by rw [ht]
    rw [List.getElem?_take_of_lt (by omega)] at h1
    simp only [World.cell?, hg, Nat.zero_add]
    simp only [Option.isSome_none, Bool.false_eq_true, if_false]
    rw [← Array.getElem?_toList, h1]
    simp [hj']
theorem Own.sortedK (st : Own fr al w0 L w) {i n c g : Nat} {E : TypeId} {xs ys : List α} (hi : L[i]? = some (rowI E (Flt.k α) (.slice (some ⟨g, 0, none⟩) n c) n (cellsL xs))) (hl : ys.length = xs.length) (m : Nat) (os : Array Obj) :
    Own fr al w0 (L.set i (rowI E (Flt.k α) (.slice (some ⟨g, 0, none⟩) n c) n (cellsL ys))) (sortWorldK Flt.cells (Flt.k α) w g 0 m ys.toArray os) := by
  have hrow := st.row hi
  rcases hrow.2 with ⟨h1, h2⟩ | ⟨g', cap, cur, h1, hb, hg, hcap, hm, hs, ht⟩
  · cases h1
  · cases h1
    have hn : n * Flt.k α = (cellsL xs).length := hrow.1.symm
    have hy : (cellsL ys).length = n * Flt.k α := by rw [cellsL_len, hl, hn, cellsL_len]
    have hle : n * Flt.k α ≤ cur.size := by rw [hs]; exact Nat.mul_le_mul_right _ hcap
    have e : sortWorldK Flt.cells (Flt.k α) w g 0 m ys.toArray os = grow (putRow id (Sort.ahead w m) g 0 (cellsL ys).toArray) os := by unfold sortWorldK putRowK; rw [flat_eq']
    rw [e]
    refine st.upd hi fun e s ⟨q1, q2⟩ q3 q4 => ⟨e, s, ⟨?_, q2⟩, fun b hb => ⟨Nat.lt_of_lt_of_le (q3 b (.inl hb)) (grownBy_sortedK _).size, .inl hb⟩, fun b hb => ⟨Nat.lt_of_lt_of_le (q3 b (.inr hb)) (grownBy_sortedK _).size, .inr (.inl hb)⟩, q4, MutO.grown (MutO.refl _ _) ⟨grownBy_sortedK _, Nat.le_add_right _ _⟩ fun k hk _ => ?_⟩
    · exact ⟨hy, .inr ⟨g, c, _, rfl, hb, heap_sortedK _ hg, hcap, hm, by simp [putCells, hs], by rw [← hy]; exact take_putCellsK cur (cellsL ys) (by omega)⟩⟩
    · cases hk; exact q2 g rfl
end
end Go.Proofs.Ytmlhilgdjedeoaa

namespace Go.Proofs.Ytmlhilgdjedeoaa
set_option linter.unusedSimpArgs false
set_option linter.unusedVariables false
open Go Go.RowKit Go.Sort Go.Lib
theorem roleCmp_lt (x y : Role) : ltOf roleCmp x y = roleLt x y := by
  unfold ltOf roleCmp
  cases h : roleLt x y with
  | true => simp
  | false => cases h2 : roleLt y x <;> simp
theorem roleSwo : SWO (ltOf roleCmp) where
  irrefl x := by rw [roleCmp_lt]; exact (roleOrd (fun _ => true)).irr x
  trans x y z h1 h2 := by rw [roleCmp_lt] at *; exact (roleOrd (fun _ => true)).tr x y z h1 h2
  ntrans x y z h1 h2 := by
    rw [roleCmp_lt] at *
    have o := roleOrd (fun _ => true)
    cases h : roleLt x z with
    | false => rfl
    | true =>
      rcases o.tri x y rfl rfl with q | q | q
      · rw [q] at h1; cases h1
      · rw [q] at h; rw [h] at h2; cases h2
      · have := o.tr _ _ _ q h; rw [this] at h2; cases h2
theorem roleTot (x y : Role) (h1 : ltOf roleCmp x y = false) (h2 : ltOf roleCmp y x = false) : x = y := by
  rw [roleCmp_lt] at h1 h2
  rcases (roleOrd (fun _ => true)).tri x y rfl rfl with q | q | q
  · rw [q] at h1; cases h1
  · exact q
  · rw [q] at h2; cases h2
def roleSort (xs : List Role) : List Role := xs.mergeSort fun x y => !(ltOf roleCmp) y x
theorem roleSort_mem (xs : List Role) (x : Role) : x ∈ roleSort xs ↔ x ∈ xs := by unfold roleSort; exact List.mem_mergeSort
theorem roleSort_pw (xs : List Role) : (roleSort xs).Pairwise (fun x y => roleLt y x = false) := by
  have o := roleOrd (fun _ => true)
  have h1 := List.pairwise_mergeSort (le := fun x y : Role => !(ltOf roleCmp) y x) (fun a b c h1 h2 => by
    simp only [Bool.not_eq_true'] at *; exact roleSwo.ntrans _ _ _ h2 h1) (fun a b => by
    cases h : ltOf roleCmp b a with
    | false => rfl
    | true => cases h2 : ltOf roleCmp a b with
      | false => rfl
      | true => have := roleSwo.trans _ _ _ h h2; rw [roleSwo.irrefl] at this; cases this) xs
  refine h1.imp fun {a b} h => ?_
  simpa [roleCmp_lt] using h
/-- The set of the right roles of a list. -/
@[irreducible] def roleSet (l : List Role) : List Role := Lib.compact (roleSort (l.filter roleR))
theorem roleSet_eq (l : List Role) : roleSet l = Lib.compact (roleSort (l.filter roleR)) := by unfold roleSet; rfl
theorem roleSet_set (l : List Role) : SSet roleLt roleR l (roleSet l) := by
  rw [roleSet_eq]
  exact compact_set (roleOrd roleR) _ l (fun x => by rw [roleSort_mem, List.mem_filter]) (roleSort_pw _)
theorem roleSet_len (l : List Role) : (roleSet l).length ≤ l.length := (roleSet_set l).len (roleOrd roleR).irr
theorem role55 (args : Array Value) (w : World) : (callFunc 56 args).run Try.prog w = .ok (.enter 56 args) w := enters_of Try.func56 (by kernel_rfl) rfl args w
section
variable {fr al : Nat → Prop} {w0 w : World} {L : List It}
theorem sortRole_c (st : Own fr al w0 L w) (i : Nat) {n c : Nat} {a : Option Addr} {xs : List Role} (hi : L[i]? = some (rowI 71 2 (.slice a n c) n (cellsL xs))) (hn : n ≤ 2000000) :
    Calls Try.prog 55 #[.slice a n c, .func (.func 56) #[] #[]] w fun e w' => e = .returned (.tuple #[]) ∧ Own fr al w0 (L.set i (rowI 71 2 (.slice a n c) n (cellsL (roleSort xs)))) w' := by
  have hrow := st.row hi
  have hnx := roleLen hrow
  rcases Nat.eq_zero_or_pos n with h0 | h0
  · subst h0
    have hx : xs = [] := List.eq_nil_of_length_eq_zero hnx.symm
    subst hx
    refine (AnyF.slices_SortFunc_none Try.sortRole a c _ w).mono ?_
    rintro e w' ⟨rfl, rfl⟩
    refine ⟨rfl, ?_⟩
    have : L.set i (rowI 71 2 (.slice a 0 c) 0 (cellsL (roleSort []))) = L := by
      apply List.ext_getElem?
      intro q
      rw [List.getElem?_set]
      split
      · rename_i h; subst h; rw [hi, if_pos (get_lt hi)]; unfold roleSort; rw [List.mergeSort_nil]
      · rfl
    rw [this]; exact st
  · obtain ⟨g, cap', hv, hcap, _⟩ := st.rowAt hi h0
    injection hv with hv1 hv2 hv3
    subst hv1 hv3
    have hH := st.holdsK (α := Role) (xs := xs) hi
    have hcon := AnyQ.slices_SortFunc_total Try.sortRole 2 Try.isAgg71 Try.sizeOf71 (Flt.cells : Role → List Value) (fun x => Flt.len x) (fun x v hv => Flt.one x v hv) roleCmp roleSwo 56 #[] g 0 c xs.toArray w role55
      (fun m os dk _ x y => (roleCompare_any x y _).mono fun e w' h => ⟨h.1, h.2.grow⟩) hH.1 hH.2 (by simp; omega) roleTot
    change Calls Try.prog 55 _ _ _ at hcon
    rw [show xs.toArray.size = n by simp [hnx]] at hcon
    refine hcon.mono ?_
    rintro e w' ⟨rfl, m, os, rfl⟩
    exact ⟨rfl, st.sortedK (α := Role) hi (by unfold roleSort; simp) m os⟩
end
set_option maxRecDepth 100000 in
set_option maxHeartbeats 1000000 in
theorem roleSet_any (a : Option Addr) (n c : Nat) (l : List Role) (W : World) (h : Fl W a n l) (hn : n ≤ 2000000) (hs : ∀ x ∈ l, x.1.length ≤ 100000 ∧ x.2.length ≤ 100000) :
    Calls Try.prog 34 #[.slice a n c] W fun e w' => ∃ va vc, e = .returned (.slice va (roleSet l).length vc) ∧ FreshI W w' (rowI 71 2 (.slice va (roleSet l).length vc) (roleSet l).length (cellsL (roleSet l))) := by
  have H := Lib.hid (And.intro h hs)
  have st := Own.startOld W
  clear h hs
  (try simp only [nsl, Value.cells, unB] at st)
  (try clear hc); have hc := st.facts; (try simp only [nfl, nft, Nat.reduceAdd] at hc)
  go_enter Try.func34, Try.ntmps34
  go_wp2_with fail
  refine (roleClone_any a n c l _ (st.oldFl (i := 0) get0 H.out.1) hn).mono ?_
  rintro en w ⟨va, vc, rfl, hnew⟩
  replace st := st.fresh hnew
  clear hnew
  (try simp only [nsl, Value.cells, unB] at st)
  (try clear hc); have hc := st.facts; (try simp only [nfl, nft, Nat.reduceAdd] at hc)
  go_wp2_with fail
  obtain ⟨fr', al', st', back⟩ := st.sub [1] (by decide) (by simp)
  (try simp only [nsl, Value.cells, unB] at st')
  refine (deleteFuncRole_c st' hn 53 #[] (fun x => !roleR x) (fun _ _ => by kernel_rfl) (fun x hx w => roleSet1_any x w (H.out.2 x hx).1 (H.out.2 x hx).2)).mono ?_
  clear st'
  rintro en w ⟨m, rfl, st'⟩
  replace st := back _ _ (by simp) st'
  clear back st'
  (try simp only [nsl, Value.cells, unB] at st)
  (try clear hc); have hc := st.facts; (try simp only [nfl, nft, Nat.reduceAdd] at hc)
  simp only [Bool.not_not] at st
  have hm : m ≤ n := by
    have h1 := roleLen (st.row (i := 1) get1)
    have h2 := List.length_filter_le (fun x => roleR x) l
    have h3 := H.out.1.1
    omega
  go_wp2_with fail
  refine (sortRole_c st 1 get1 (by omega)).mono ?_
  rintro en w ⟨rfl, st'⟩
  clear st
  have st := st'
  clear st'
  (try simp only [nsl, Value.cells, unB] at st)
  (try clear hc); have hc := st.facts; (try simp only [nfl, nft, Nat.reduceAdd] at hc)
  go_wp2_with fail
  obtain ⟨fr', al', st', back⟩ := st.sub [1] (by decide) (by simp)
  (try simp only [nsl, Value.cells, unB] at st')
  refine (compactRole_c st' (by omega)).mono ?_
  clear st'
  rintro en w ⟨m2, rfl, st'⟩
  replace st := back _ _ (by simp) st'
  clear back st'
  (try simp only [nsl, Value.cells, unB] at st)
  (try clear hc); have hc := st.facts; (try simp only [nfl, nft, Nat.reduceAdd] at hc)
  rw [← roleSet_eq l] at st
  have hm2 := roleLen (st.row (i := 1) get1)
  subst hm2
  have hfin := st.toFresh (i := 1) get1
  have HF := Lib.hid hfin
  clear hfin st
  go_wp2_with fail
  go_ret
  exact ⟨va, vc, rfl, HF.out⟩
end Go.Proofs.Ytmlhilgdjedeoaa

namespace Go.Proofs.Ytmlhilgdjedeoaa
set_option linter.unusedSimpArgs false
set_option linter.unusedVariables false
open Go Go.RowKit
def credCmp (a b : CredT) : Int := cmp2 (credBy a) (credBy b)
end Go.Proofs.Ytmlhilgdjedeoaa

namespace Go.Proofs.Ytmlhilgdjedeoaa
set_option linter.unusedSimpArgs false
set_option linter.unusedVariables false
open Go Go.RowKit
theorem bytesOf_by {P : Program} {w : World} {a : Option Addr} {n c : Nat} {xs : List UInt8} (h : By w a n xs) : (Extern.Bytes.bytesOf (.slice a n c)).run P w = .ok ⟨xs.toArray⟩ w := by
  have hn := h.1
  rcases Nat.eq_zero_or_pos n with h0 | h0
  · have hx : xs = [] := List.eq_nil_of_length_eq_zero (by omega)
    subst hx
    subst h0
    cases a with
    | none => rfl
    | some ad => rfl
  · obtain ⟨b, off, rfl, hc, _⟩ := h.at h0
    have hl := Lib.run_loadBytesX (P := P) w (xs.map fun x => (x.toNat : Int)) ⟨b, off, none⟩ .empty (fun j x hj => by
      rw [List.getElem?_map] at hj
      cases hq : xs[j]? with
      | none => rw [hq] at hj; cases hj
      | some y => rw [hq] at hj; simp at hj; subst hj; rw [addr_add]; exact hc j y hq)
    rw [List.length_map, ← hn] at hl
    change (Extern.Bytes.loadBytes ⟨b, off, none⟩ n .empty).run P w = _
    rw [hl]
    congr 1
    apply ByteArray.ext
    simp [Lib.bytesOf]
    rw [show ((fun n : Int => UInt8.ofNat n.toNat) ∘ fun x : UInt8 => (x.toNat : Int)) = id from by funext x; simp, List.map_id]
theorem cmpExt {P : Program} {w : World} {a a' : Option Addr} {n n' c c' : Nat} {xs ys : List UInt8} (h : By w a n xs) (h' : By w a' n' ys) :
    (Extern.BytealgCompare.compare #[.slice a n c, .slice a' n' c']).run P w = .ok (.int .i64 (cmp2 xs ys)) w := by
  change Sem.run P (do pure (goInt (Extern.BytealgCompare.cmp (← Extern.Bytes.bytesOf (.slice a n c)) (← Extern.Bytes.bytesOf (.slice a' n' c'))))) w = _
  simp only [Sem.run_bind, Sem.run_pure, bytesOf_by h, bytesOf_by h', Result.andThen]
  rw [Lib.cmp_eq, cmpBytes_eq]
  rfl
set_option maxRecDepth 100000 in
set_option maxHeartbeats 1000000 in
theorem bytesCompare_any {W : World} {a a' : Option Addr} {n n' c c' : Nat} {xs ys : List UInt8} (h : By W a n xs) (h' : By W a' n' ys) :
    Calls Try.prog 58 #[.slice a n c, .slice a' n' c'] W fun e w' => e = .returned (.int .i64 (cmp2 xs ys)) ∧ Ext W w' := by
  have H := Lib.hid (cmpExt (P := Try.prog) (c := c) (c' := c') h h')
  clear h h'
  have st := Own.startOld W
  (try simp only [nsl, Value.cells, unB] at st)
  (try clear hc); have hc := st.facts; (try simp only [nfl, nft, Nat.reduceAdd] at hc)
  go_enter Try.func58, Try.ntmps58
  go_wp2_with fail
  rw [run_callFunc_extern Try.func75 (by kernel_rfl) (by kernel_rfl) (by kernel_rfl) (e := Extern.BytealgCompare.compare) (by kernel_rfl), H.out]
  simp only [Result.andThen]
  rw [Oper.upon_value]
  go_wp2_with fail
  go_ret
  exact ⟨rfl, st.ext0⟩
end Go.Proofs.Ytmlhilgdjedeoaa

namespace Go.Proofs.Ytmlhilgdjedeoaa
set_option linter.unusedSimpArgs false
set_option linter.unusedVariables false
open Go Go.RowKit
set_option maxRecDepth 100000 in
set_option maxHeartbeats 1000000 in
theorem credCompare_any (x y : CredT) (W : World) (hx : CredL 100000 x) (hy : CredL 100000 y) :
    Calls Try.prog 36 #[cV x, cV y] W fun e w' => e = .returned (.int .i64 (credCmp x y)) ∧ Ext W w' := by
  have HX := Lib.hid (fun W => credBytes_any x W hx)
  have HY := Lib.hid (fun W => credBytes_any y W hy)
  have HC : Hid (credCmp x y = cmp2 (credBy x) (credBy y)) := Lib.hid rfl
  clear hx hy
  generalize credBy x = p at *
  generalize credBy y = q at *
  generalize credCmp x y = r at *
  obtain ⟨k, ⟨ho, hd⟩, nw, ⟨bo, bd⟩, ⟨co, cd⟩, we⟩ := x
  obtain ⟨k', ⟨ho', hd'⟩, nw', ⟨bo', bd'⟩, ⟨co', cd'⟩, we'⟩ := y
  have st := Own.startOld W
  unfold cV S at *
  simp only at HX HY
  (try simp only [nsl, Value.cells, unB] at st)
  (try clear hc); have hc := st.facts; (try simp only [nfl, nft, Nat.reduceAdd] at hc)
  go_enter Try.func36, Try.ntmps36
  go_wp2_with ((first
        | ((with_reducible refine wl_box ?_ (fun K hK => ?_)); rfl; refine owp_box (o := ⟨some 2, _, _, _, _, _⟩) rfl st ?_; apply Exists.intro; refine ⟨?_, ?_⟩; (focus (go_simp; try rfl)); (clear st; intro b2 w hb st; clear hb))
        | ((with_reducible refine wl_box ?_ (fun K hK => ?_)); rfl; refine owp_box (o := ⟨some 3, _, _, _, _, _⟩) rfl st ?_; apply Exists.intro; refine ⟨?_, ?_⟩; (focus (go_simp; try rfl)); (clear st; intro b3 w hb st; clear hb))); (try simp only [nsl, Value.cells, unB] at st); (try clear hc); have hc := st.facts; (try simp only [nfl, nft, Nat.reduceAdd] at hc))
  refine Rg4.wp_region4_eq #[0, 1, 0, 7, 15, 31] [1, 3, 4] [0] (fun W' => Blk W' b3 [.int .i64 k', .string ⟨ho'.toArray⟩, .string ⟨hd'.toArray⟩, .string ⟨nw'.toArray⟩, .string ⟨bo'.toArray⟩, .string ⟨bd'.toArray⟩, .string ⟨co'.toArray⟩, .string ⟨cd'.toArray⟩, .string ⟨we'.toArray⟩]) [0, 2, 1, 3, 4, 5] (by kernel_rfl) (by kernel_rfl) (by kernel_rfl) (by kernel_rfl) (show Rg4.PB _ by repeat (first | with_reducible exact Rg4.pb_body | with_reducible exact Rg4.pb_bodyD rfl | with_reducible refine Rg4.pb_then ?_ | with_reducible refine Rg4.pb_inBlock ?_ | with_reducible refine Rg4.pb_noGoto ?_ | with_reducible assumption)) (st.drew.blk (i := 2) get2) ?_
  replace st := st.drew
  change Rg4.wp4 _ _ _ _ _ _ _ _ _ (World.drew _) _ _
  generalize World.drew _ = w at st ⊢
  (try clear hc); have hc := st.facts; (try simp only [nfl, nft, Nat.reduceAdd] at hc)
  (refine Rg4.w4_read (Rg4.want_none rfl) rfl rfl ?_; apply Exists.intro; refine ⟨fun w' hw' hcl' => ?_, ?_⟩; focus (subst hw'; (focus (first | (go_simp; done) | (go_simp; first | rfl | (rw [if_neg] <;> first | rfl | omega) | (rw [if_pos] <;> first | rfl | omega))))); (try simp only [Rg4.nrm]))
  (refine Rg4.w4_cl (Rg4.want_none rfl) rfl ?_; apply Exists.intro; refine ⟨fun w' hcl => ?_, ?_⟩; (focus (have q0 := Blk.cell hcl 0; have q1 := Blk.cell hcl 1; have q2 := Blk.cell hcl 2; have q3 := Blk.cell hcl 3; have q4 := Blk.cell hcl 4; have q5 := Blk.cell hcl 5; have q6 := Blk.cell hcl 6; have q7 := Blk.cell hcl 7; have q8 := Blk.cell hcl 8; (try simp at q0 q1 q2 q3 q4 q5 q6 q7 q8); (focus (first | (go_simp; done) | (go_simp; first | rfl | (rw [if_neg] <;> first | rfl | omega) | (rw [if_pos] <;> first | rfl | omega)))))); (try simp only [Rg4.nrm]))
  refine Rg4.w4_bar (Rg4.want_none rfl) rfl (fun w' hw' hcl _ K hK => ?_)
  subst hw'
  go_wp2_with fail
  refine (HX.out _).mono ?_
  rintro en w ⟨pa, pn, pc, rfl, hpc, hby, hx⟩
  replace st := st.ext hx
  clear hx
  (try simp only [nsl, Value.cells, unB] at st)
  (try clear hc); have hc := st.facts; (try simp only [nfl, nft, Nat.reduceAdd] at hc)
  refine hK _ _ ⟨st.blk (i := 2) get2, ?_⟩
  clear hK
  (try simp only [Rg4.nrm])

  refine Rg4.w4_bar (Rg4.want_none rfl) rfl (fun w' hw' hcl _ K hK => ?_)
  subst hw'
  go_wp2_with fail
  refine (HY.out _).mono ?_
  rintro en w ⟨qa, qn, qc, rfl, hqc, hqy, hx⟩
  have hby2 := hby.ext hx
  replace st := st.ext hx
  clear hx
  (try simp only [nsl, Value.cells, unB] at st)
  (try clear hc); have hc := st.facts; (try simp only [nfl, nft, Nat.reduceAdd] at hc)
  refine hK _ _ ⟨st.blk (i := 2) get2, ?_⟩
  clear hK
  (try simp only [Rg4.nrm])

  refine Rg4.w4_bar (Rg4.want_none rfl) rfl (fun w' hw' hcl _ K hK => ?_)
  subst hw'
  go_wp2_with fail
  refine (bytesCompare_any hby2 hqy).mono ?_
  rintro en w ⟨rfl, hx⟩
  replace st := st.ext hx
  clear hx
  (try simp only [nsl, Value.cells, unB] at st)
  (try clear hc); have hc := st.facts; (try simp only [nfl, nft, Nat.reduceAdd] at hc)
  refine hK _ _ ⟨st.blk (i := 2) get2, ?_⟩
  clear hK
  (try simp only [Rg4.nrm])
  (refine Rg4.w4_any (Rg4.want_none rfl) rfl ?_; apply Exists.intro; refine ⟨fun w' => ?_, ?_⟩; (focus (first | (go_simp; done) | (go_simp; first | rfl | (rw [if_neg] <;> first | rfl | omega) | (rw [if_pos] <;> first | rfl | omega)))); (try simp only [Rg4.nrm]))
  refine Rg4.w4_nil (fun w' hw' hcl' _ => ?_); subst hw'; clear hcl'
  go_wp2_with fail
  go_ret
  exact ⟨by rw [HC.out]; rfl, st.ext0⟩
end Go.Proofs.Ytmlhilgdjedeoaa

namespace Go.Proofs.Ytmlhilgdjedeoaa
set_option linter.unusedSimpArgs false
set_option linter.unusedVariables false
open Go Go.RowKit
def bareMg (x : MsgT) : MsgT :=
  if x.k = 1 then ⟨x.k, x.p, 0, x.nm, none, 0, 0, [], none, 0, 0, []⟩
  else if x.k = 2 then ⟨x.k, 0, 0, [], x.wa, x.wn, x.wc, x.ws, x.sa, x.sn, x.sc, x.ss⟩
  else if x.k = 5 then ⟨x.k, 0, x.e, [], none, 0, 0, [], none, 0, 0, []⟩
  else ⟨x.k, 0, 0, [], none, 0, 0, [], none, 0, 0, []⟩
theorem bareMg_ok {W : World} {x : MsgT} (h : MgOk W x) : MgOk W (bareMg x) := by
  have z : ∀ k p e nm, MgOk W ⟨k, p, e, nm, none, 0, 0, [], none, 0, 0, []⟩ := fun k p e nm => ⟨⟨⟨Nat.le_refl _, by simp [maxLen]⟩, Fl.nil _ _⟩, ⟨⟨Nat.le_refl _, by simp [maxLen]⟩, Fl.nil _ _⟩, by simp⟩
  unfold bareMg
  split
  · exact z _ _ _ _
  · split
    · exact h
    · split
      · exact z _ _ _ _
      · exact z _ _ _ _
theorem bareMg_L {x : MsgT} (h : MgL x) : MgL (bareMg x) := by
  have z : ∀ k p e nm, nm.length ≤ 100000 → MgL ⟨k, p, e, nm, none, 0, 0, [], none, 0, 0, []⟩ := fun k p e nm hn => ⟨by simp, by simp, hn, by simp, by simp⟩
  unfold bareMg
  split
  · exact z _ _ _ _ h.2.2.1
  · split
    · exact ⟨h.1, h.2.1, by simp, h.2.2.2.1, h.2.2.2.2⟩
    · split
      · exact z _ _ _ _ (by simp)
      · exact z _ _ _ _ (by simp)
set_option maxRecDepth 100000 in
set_option maxHeartbeats 4000000 in
theorem bare_any (x : MsgT) (W : World) : Calls Try.prog 18 #[mgV x] W fun e w' => e = .returned (mgV (bareMg x)) ∧ Ext W w' := by
  have HB : Hid (mgV (bareMg x) = mgV (if x.k = 1 then ⟨x.k, x.p, 0, x.nm, none, 0, 0, [], none, 0, 0, []⟩
  else if x.k = 2 then ⟨x.k, 0, 0, [], x.wa, x.wn, x.wc, x.ws, x.sa, x.sn, x.sc, x.ss⟩
  else if x.k = 5 then ⟨x.k, 0, x.e, [], none, 0, 0, [], none, 0, 0, []⟩
  else ⟨x.k, 0, 0, [], none, 0, 0, [], none, 0, 0, []⟩)) := Lib.hid rfl
  obtain ⟨bv, hbv⟩ : ∃ b, mgV (bareMg x) = b := ⟨_, rfl⟩
  rw [hbv] at HB ⊢
  clear hbv
  obtain ⟨k, p, e, nm, wa, wn, wc, ws, sa, sn, sc, ss⟩ := x
  simp only at HB
  have st := Own.startOld W
  unfold mgV S
  (try simp only [nsl, Value.cells, unB] at st)
  (try clear hc); have hc := st.facts; (try simp only [nfl, nft, Nat.reduceAdd] at hc)
  by_cases k1 : k = 1
  · subst k1
    have H1 : Hid (bv = .agg #[.int .i64 1, .int .i64 p, .int .i64 0, .string ⟨nm.toArray⟩, .slice none 0 0, .slice none 0 0]) := Lib.hid (by rw [HB.out, if_pos rfl]; rfl)
    go_enter Try.func18, Try.ntmps18
    go_wp2_with ((first
          | ((with_reducible refine wl_box ?_ (fun K hK => ?_)); rfl; refine owp_box (o := ⟨some 1, _, _, _, _, _⟩) rfl st ?_; apply Exists.intro; refine ⟨?_, ?_⟩; (focus (go_simp; try rfl)); (clear st; intro b1 w hb st; clear hb))
          | ((with_reducible refine wl_alloc ?_ (fun K hK => ?_)); rfl; refine owp_alloc (o := ⟨some 2, _, _, _, _, _⟩) rfl st ?_; apply Exists.intro; apply Exists.intro; refine ⟨?_, ?_⟩; (focus (first | (go_simp; done) | (go_simp; rfl))); (clear st; intro b2 w hb st; clear hb))
          | ((with_reducible refine wl_alloc ?_ (fun K hK => ?_)); rfl; refine owp_alloc (o := ⟨some 3, _, _, _, _, _⟩) rfl st ?_; apply Exists.intro; apply Exists.intro; refine ⟨?_, ?_⟩; (focus (first | (go_simp; done) | (go_simp; rfl))); (clear st; intro b3 w hb st; clear hb))
          | ((with_reducible refine wl_store ?_ (fun K hK => ?_)); rfl; refine owp_store rfl st ?_; apply Exists.intro; apply Exists.intro; refine ⟨?_, ?_, ?_⟩; (focus (go_simp; try rfl)); (focus (go_simp; try rfl)); (with_reducible refine ⟨3, _, _, _, _, get3, rfl, rfl, ?_, ?_, ?_, ?_⟩); (kernel_rfl); (simp [Value.cells]); (rfl); (clear st; intro w st))); (try simp only [nsl, Value.cells, unB] at st); (try clear hc); have hc := st.facts; (try simp only [nfl, nft, Nat.reduceAdd] at hc))
    refine Rg4.wp_region4_eq #[0, 1, 0, 4, 3, 19, 63, 127] [5, 7] [] (fun W' => Blk W' b1 [.int .i64 1, .int .i64 p, .int .i64 e, .string ⟨nm.toArray⟩, .slice wa wn wc, .slice sa sn sc]) [0, 1, 2, 3, 4, 5, 6, 7] (by kernel_rfl) (by kernel_rfl) (by kernel_rfl) (by kernel_rfl) (show Rg4.PB _ by repeat (first | with_reducible exact Rg4.pb_body | with_reducible exact Rg4.pb_bodyD rfl | with_reducible refine Rg4.pb_then ?_ | with_reducible refine Rg4.pb_inBlock ?_ | with_reducible refine Rg4.pb_noGoto ?_ | with_reducible assumption)) (st.drew.blk (i := 1) get1) ?_
    replace st := st.drew
    change Rg4.wp4 _ _ _ _ _ _ _ _ _ (World.drew _) _ _
    generalize World.drew _ = w at st ⊢
    (try clear hc); have hc := st.facts; (try simp only [nfl, nft, Nat.reduceAdd] at hc)
    (refine Rg4.w4_any (Rg4.want_none rfl) rfl ?_; apply Exists.intro; refine ⟨fun w' => ?_, ?_⟩; (focus (first | (go_simp; done) | (go_simp; first | rfl | (rw [if_neg] <;> first | rfl | omega) | (rw [if_pos] <;> first | rfl | omega)))); (try simp only [Rg4.nrm]))
    (refine Rg4.w4_cl (Rg4.want_none rfl) rfl ?_; apply Exists.intro; refine ⟨fun w' hcl => ?_, ?_⟩; (focus (have q0 := Blk.cell hcl 0; have q1 := Blk.cell hcl 1; have q2 := Blk.cell hcl 2; have q3 := Blk.cell hcl 3; have q4 := Blk.cell hcl 4; have q5 := Blk.cell hcl 5; (try simp at q0 q1 q2 q3 q4 q5); (focus (first | (go_simp; done) | (go_simp; first | rfl | (rw [if_neg] <;> first | rfl | omega) | (rw [if_pos] <;> first | rfl | omega)))))); (try simp only [Rg4.nrm]))
    (refine Rg4.w4_any (Rg4.want_none rfl) rfl ?_; apply Exists.intro; refine ⟨fun w' => ?_, ?_⟩; (focus (first | (go_simp; done) | (go_simp; first | rfl | (rw [if_neg] <;> first | rfl | omega) | (rw [if_pos] <;> first | rfl | omega)))); (try simp only [Rg4.nrm]))
    (refine Rg4.w4_cl (Rg4.want_none rfl) rfl ?_; apply Exists.intro; refine ⟨fun w' hcl => ?_, ?_⟩; (focus (have q0 := Blk.cell hcl 0; have q1 := Blk.cell hcl 1; have q2 := Blk.cell hcl 2; have q3 := Blk.cell hcl 3; have q4 := Blk.cell hcl 4; have q5 := Blk.cell hcl 5; (try simp at q0 q1 q2 q3 q4 q5); (focus (first | (go_simp; done) | (go_simp; first | rfl | (rw [if_neg] <;> first | rfl | omega) | (rw [if_pos] <;> first | rfl | omega)))))); (try simp only [Rg4.nrm]))
    (refine Rg4.w4_any (Rg4.want_none rfl) rfl ?_; apply Exists.intro; refine ⟨fun w' => ?_, ?_⟩; (focus (first | (go_simp; done) | (go_simp; first | rfl | (rw [if_neg] <;> first | rfl | omega) | (rw [if_pos] <;> first | rfl | omega)))); (try simp only [Rg4.nrm]))
    (refine Rg4.w4_bar (Rg4.want_none rfl) rfl (fun w' hw' hcl' _ K hK => ?_); subst hw'; (refine owp_store rfl st ?_; apply Exists.intro; apply Exists.intro; refine ⟨?_, ?_, ?_⟩; (focus (go_simp; try rfl)); (focus (go_simp; try rfl)); (with_reducible refine ⟨3, _, _, _, _, get3, rfl, rfl, ?_, ?_, ?_, ?_⟩); (kernel_rfl); (simp [Value.cells]); (rfl); (clear st; intro w st); (try simp only [nsl, Value.cells, unB] at st); (try clear hc); have hc := st.facts; (try simp only [nfl, nft, Nat.reduceAdd] at hc)); refine hK _ _ ⟨st.blk (i := 1) get1, ?_⟩; (try simp only [Rg4.nrm]))
    (refine Rg4.w4_any (Rg4.want_none rfl) rfl ?_; apply Exists.intro; refine ⟨fun w' => ?_, ?_⟩; (focus (first | (go_simp; done) | (go_simp; first | rfl | (rw [if_neg] <;> first | rfl | omega) | (rw [if_pos] <;> first | rfl | omega)))); (try simp only [Rg4.nrm]))
    (refine Rg4.w4_bar (Rg4.want_none rfl) rfl (fun w' hw' hcl' _ K hK => ?_); subst hw'; (refine owp_store rfl st ?_; apply Exists.intro; apply Exists.intro; refine ⟨?_, ?_, ?_⟩; (focus (go_simp; try rfl)); (focus (go_simp; try rfl)); (with_reducible refine ⟨3, _, _, _, _, get3, rfl, rfl, ?_, ?_, ?_, ?_⟩); (kernel_rfl); (simp [Value.cells]); (rfl); (clear st; intro w st); (try simp only [nsl, Value.cells, unB] at st); (try clear hc); have hc := st.facts; (try simp only [nfl, nft, Nat.reduceAdd] at hc)); refine hK _ _ ⟨st.blk (i := 1) get1, ?_⟩; (try simp only [Rg4.nrm]))
    refine Rg4.w4_nil (fun w' hw' hcl' _ => ?_); subst hw'; clear hcl'
    go_wp2_with ((((with_reducible refine wl_store ?_ (fun K hK => ?_)); rfl; refine owp_store rfl st ?_; apply Exists.intro; apply Exists.intro; refine ⟨?_, ?_, ?_⟩; (focus (go_simp; try rfl)); (focus (go_simp; try rfl)); (with_reducible refine ⟨2, _, _, _, _, get2, rfl, rfl, ?_, ?_, ?_, ?_⟩); (kernel_rfl); (simp [Value.cells]); (rfl); (clear st; intro w st))); (try simp only [nsl, Value.cells, unB] at st); (try clear hc); have hc := st.facts; (try simp only [nfl, nft, Nat.reduceAdd] at hc))
    (try simp only [Exit.inBlock, Exit.then])
    refine bodyPost_cell rfl rfl (st.blk (i := 2) get2) Try.underlying41 rfl (by kernel_rfl) rfl ?_
    exact ⟨by rw [H1.out], st.ext0⟩
  by_cases k2 : k = 2
  · subst k2
    have H1 : Hid (bv = .agg #[.int .i64 2, .int .i64 0, .int .i64 0, .string ⟨#[]⟩, .slice wa wn wc, .slice sa sn sc]) := Lib.hid (by rw [HB.out, if_neg (by decide), if_pos rfl]; rfl)
    go_enter Try.func18, Try.ntmps18
    go_wp2_with ((first
          | ((with_reducible refine wl_box ?_ (fun K hK => ?_)); rfl; refine owp_box (o := ⟨some 1, _, _, _, _, _⟩) rfl st ?_; apply Exists.intro; refine ⟨?_, ?_⟩; (focus (go_simp; try rfl)); (clear st; intro b1 w hb st; clear hb))
          | ((with_reducible refine wl_alloc ?_ (fun K hK => ?_)); rfl; refine owp_alloc (o := ⟨some 2, _, _, _, _, _⟩) rfl st ?_; apply Exists.intro; apply Exists.intro; refine ⟨?_, ?_⟩; (focus (first | (go_simp; done) | (go_simp; rfl))); (clear st; intro b2 w hb st; clear hb))
          | ((with_reducible refine wl_alloc ?_ (fun K hK => ?_)); rfl; refine owp_alloc (o := ⟨some 3, _, _, _, _, _⟩) rfl st ?_; apply Exists.intro; apply Exists.intro; refine ⟨?_, ?_⟩; (focus (first | (go_simp; done) | (go_simp; rfl))); (clear st; intro b3 w hb st; clear hb))
          | ((with_reducible refine wl_store ?_ (fun K hK => ?_)); rfl; refine owp_store rfl st ?_; apply Exists.intro; apply Exists.intro; refine ⟨?_, ?_, ?_⟩; (focus (go_simp; try rfl)); (focus (go_simp; try rfl)); (with_reducible refine ⟨3, _, _, _, _, get3, rfl, rfl, ?_, ?_, ?_, ?_⟩); (kernel_rfl); (simp [Value.cells]); (rfl); (clear st; intro w st))); (try simp only [nsl, Value.cells, unB] at st); (try clear hc); have hc := st.facts; (try simp only [nfl, nft, Nat.reduceAdd] at hc))
    refine Rg4.wp_region4_eq #[0, 1, 0, 4, 3, 19, 63, 127] [5, 7] [] (fun W' => Blk W' b1 [.int .i64 2, .int .i64 p, .int .i64 e, .string ⟨nm.toArray⟩, .slice wa wn wc, .slice sa sn sc]) [0, 1, 2, 3, 4, 5, 6, 7] (by kernel_rfl) (by kernel_rfl) (by kernel_rfl) (by kernel_rfl) (show Rg4.PB _ by repeat (first | with_reducible exact Rg4.pb_body | with_reducible exact Rg4.pb_bodyD rfl | with_reducible refine Rg4.pb_then ?_ | with_reducible refine Rg4.pb_inBlock ?_ | with_reducible refine Rg4.pb_noGoto ?_ | with_reducible assumption)) (st.drew.blk (i := 1) get1) ?_
    replace st := st.drew
    change Rg4.wp4 _ _ _ _ _ _ _ _ _ (World.drew _) _ _
    generalize World.drew _ = w at st ⊢
    (try clear hc); have hc := st.facts; (try simp only [nfl, nft, Nat.reduceAdd] at hc)
    (refine Rg4.w4_any (Rg4.want_none rfl) rfl ?_; apply Exists.intro; refine ⟨fun w' => ?_, ?_⟩; (focus (first | (go_simp; done) | (go_simp; first | rfl | (rw [if_neg] <;> first | rfl | omega) | (rw [if_pos] <;> first | rfl | omega)))); (try simp only [Rg4.nrm]))
    (refine Rg4.w4_cl (Rg4.want_none rfl) rfl ?_; apply Exists.intro; refine ⟨fun w' hcl => ?_, ?_⟩; (focus (have q0 := Blk.cell hcl 0; have q1 := Blk.cell hcl 1; have q2 := Blk.cell hcl 2; have q3 := Blk.cell hcl 3; have q4 := Blk.cell hcl 4; have q5 := Blk.cell hcl 5; (try simp at q0 q1 q2 q3 q4 q5); (focus (first | (go_simp; done) | (go_simp; first | rfl | (rw [if_neg] <;> first | rfl | omega) | (rw [if_pos] <;> first | rfl | omega)))))); (try simp only [Rg4.nrm]))
    (refine Rg4.w4_any (Rg4.want_none rfl) rfl ?_; apply Exists.intro; refine ⟨fun w' => ?_, ?_⟩; (focus (first | (go_simp; done) | (go_simp; first | rfl | (rw [if_neg] <;> first | rfl | omega) | (rw [if_pos] <;> first | rfl | omega)))); (try simp only [Rg4.nrm]))
    (refine Rg4.w4_cl (Rg4.want_none rfl) rfl ?_; apply Exists.intro; refine ⟨fun w' hcl => ?_, ?_⟩; (focus (have q0 := Blk.cell hcl 0; have q1 := Blk.cell hcl 1; have q2 := Blk.cell hcl 2; have q3 := Blk.cell hcl 3; have q4 := Blk.cell hcl 4; have q5 := Blk.cell hcl 5; (try simp at q0 q1 q2 q3 q4 q5); (focus (first | (go_simp; done) | (go_simp; first | rfl | (rw [if_neg] <;> first | rfl | omega) | (rw [if_pos] <;> first | rfl | omega)))))); (try simp only [Rg4.nrm]))
    (refine Rg4.w4_any (Rg4.want_none rfl) rfl ?_; apply Exists.intro; refine ⟨fun w' => ?_, ?_⟩; (focus (first | (go_simp; done) | (go_simp; first | rfl | (rw [if_neg] <;> first | rfl | omega) | (rw [if_pos] <;> first | rfl | omega)))); (try simp only [Rg4.nrm]))
    (refine Rg4.w4_bar (Rg4.want_none rfl) rfl (fun w' hw' hcl' _ K hK => ?_); subst hw'; (refine owp_store rfl st ?_; apply Exists.intro; apply Exists.intro; refine ⟨?_, ?_, ?_⟩; (focus (go_simp; try rfl)); (focus (go_simp; try rfl)); (with_reducible refine ⟨3, _, _, _, _, get3, rfl, rfl, ?_, ?_, ?_, ?_⟩); (kernel_rfl); (simp [Value.cells]); (rfl); (clear st; intro w st); (try simp only [nsl, Value.cells, unB] at st); (try clear hc); have hc := st.facts; (try simp only [nfl, nft, Nat.reduceAdd] at hc)); refine hK _ _ ⟨st.blk (i := 1) get1, ?_⟩; (try simp only [Rg4.nrm]))
    (refine Rg4.w4_any (Rg4.want_none rfl) rfl ?_; apply Exists.intro; refine ⟨fun w' => ?_, ?_⟩; (focus (first | (go_simp; done) | (go_simp; first | rfl | (rw [if_neg] <;> first | rfl | omega) | (rw [if_pos] <;> first | rfl | omega)))); (try simp only [Rg4.nrm]))
    (refine Rg4.w4_bar (Rg4.want_none rfl) rfl (fun w' hw' hcl' _ K hK => ?_); subst hw'; (refine owp_store rfl st ?_; apply Exists.intro; apply Exists.intro; refine ⟨?_, ?_, ?_⟩; (focus (go_simp; try rfl)); (focus (go_simp; try rfl)); (with_reducible refine ⟨3, _, _, _, _, get3, rfl, rfl, ?_, ?_, ?_, ?_⟩); (kernel_rfl); (simp [Value.cells]); (rfl); (clear st; intro w st); (try simp only [nsl, Value.cells, unB] at st); (try clear hc); have hc := st.facts; (try simp only [nfl, nft, Nat.reduceAdd] at hc)); refine hK _ _ ⟨st.blk (i := 1) get1, ?_⟩; (try simp only [Rg4.nrm]))
    refine Rg4.w4_nil (fun w' hw' hcl' _ => ?_); subst hw'; clear hcl'
    go_wp2_with ((((with_reducible refine wl_store ?_ (fun K hK => ?_)); rfl; refine owp_store rfl st ?_; apply Exists.intro; apply Exists.intro; refine ⟨?_, ?_, ?_⟩; (focus (go_simp; try rfl)); (focus (go_simp; try rfl)); (with_reducible refine ⟨2, _, _, _, _, get2, rfl, rfl, ?_, ?_, ?_, ?_⟩); (kernel_rfl); (simp [Value.cells]); (rfl); (clear st; intro w st))); (try simp only [nsl, Value.cells, unB] at st); (try clear hc); have hc := st.facts; (try simp only [nfl, nft, Nat.reduceAdd] at hc))
    (try simp only [Exit.inBlock, Exit.then])
    refine bodyPost_cell rfl rfl (st.blk (i := 2) get2) Try.underlying41 rfl (by kernel_rfl) rfl ?_
    exact ⟨by rw [H1.out], st.ext0⟩
  by_cases k5 : k = 5
  · subst k5
    have H1 : Hid (bv = .agg #[.int .i64 5, .int .i64 0, .int .i64 e, .string ⟨#[]⟩, .slice none 0 0, .slice none 0 0]) := Lib.hid (by rw [HB.out, if_neg (by decide), if_neg (by decide), if_pos rfl]; rfl)
    go_enter Try.func18, Try.ntmps18
    go_wp2_with ((first
          | ((with_reducible refine wl_box ?_ (fun K hK => ?_)); rfl; refine owp_box (o := ⟨some 1, _, _, _, _, _⟩) rfl st ?_; apply Exists.intro; refine ⟨?_, ?_⟩; (focus (go_simp; try rfl)); (clear st; intro b1 w hb st; clear hb))
          | ((with_reducible refine wl_alloc ?_ (fun K hK => ?_)); rfl; refine owp_alloc (o := ⟨some 2, _, _, _, _, _⟩) rfl st ?_; apply Exists.intro; apply Exists.intro; refine ⟨?_, ?_⟩; (focus (first | (go_simp; done) | (go_simp; rfl))); (clear st; intro b2 w hb st; clear hb))
          | ((with_reducible refine wl_alloc ?_ (fun K hK => ?_)); rfl; refine owp_alloc (o := ⟨some 3, _, _, _, _, _⟩) rfl st ?_; apply Exists.intro; apply Exists.intro; refine ⟨?_, ?_⟩; (focus (first | (go_simp; done) | (go_simp; rfl))); (clear st; intro b3 w hb st; clear hb))
          | ((with_reducible refine wl_store ?_ (fun K hK => ?_)); rfl; refine owp_store rfl st ?_; apply Exists.intro; apply Exists.intro; refine ⟨?_, ?_, ?_⟩; (focus (go_simp; try rfl)); (focus (go_simp; try rfl)); (first | (with_reducible refine ⟨2, _, _, _, _, get2, rfl, rfl, ?_, ?_, ?_, ?_⟩) | (with_reducible refine ⟨3, _, _, _, _, get3, rfl, rfl, ?_, ?_, ?_, ?_⟩)); (kernel_rfl); (simp [Value.cells]); (rfl); (clear st; intro w st))); (try simp only [nsl, Value.cells, unB] at st); (try clear hc); have hc := st.facts; (try simp only [nfl, nft, Nat.reduceAdd] at hc))
    go_wp2_with fail
    (try simp only [Exit.inBlock, Exit.then])
    refine bodyPost_cell rfl rfl (st.blk (i := 2) get2) Try.underlying41 rfl (by kernel_rfl) rfl ?_
    exact ⟨by rw [H1.out], st.ext0⟩
  have H1 : Hid (bv = .agg #[.int .i64 k, .int .i64 0, .int .i64 0, .string ⟨#[]⟩, .slice none 0 0, .slice none 0 0]) := Lib.hid (by rw [HB.out, if_neg k1, if_neg k2, if_neg k5]; rfl)
  have k1b : (k == 1) = false := by simpa using k1
  have k2b : (k == 2) = false := by simpa using k2
  have k5b : (k == 5) = false := by simpa using k5
  clear k1 k2 k5
  go_enter Try.func18, Try.ntmps18
  go_wp2_with ((first
        | ((with_reducible refine wl_box ?_ (fun K hK => ?_)); rfl; refine owp_box (o := ⟨some 1, _, _, _, _, _⟩) rfl st ?_; apply Exists.intro; refine ⟨?_, ?_⟩; (focus (go_simp; try rfl)); (clear st; intro b1 w hb st; clear hb))
        | ((with_reducible refine wl_alloc ?_ (fun K hK => ?_)); rfl; refine owp_alloc (o := ⟨some 2, _, _, _, _, _⟩) rfl st ?_; apply Exists.intro; apply Exists.intro; refine ⟨?_, ?_⟩; (focus (first | (go_simp; done) | (go_simp; rfl))); (clear st; intro b2 w hb st; clear hb))
        | ((with_reducible refine wl_alloc ?_ (fun K hK => ?_)); rfl; refine owp_alloc (o := ⟨some 3, _, _, _, _, _⟩) rfl st ?_; apply Exists.intro; apply Exists.intro; refine ⟨?_, ?_⟩; (focus (first | (go_simp; done) | (go_simp; rfl))); (clear st; intro b3 w hb st; clear hb))
        | ((with_reducible refine wl_store ?_ (fun K hK => ?_)); rfl; refine owp_store rfl st ?_; apply Exists.intro; apply Exists.intro; refine ⟨?_, ?_, ?_⟩; (focus (go_simp; try rfl)); (focus (go_simp; try rfl)); (first | (with_reducible refine ⟨2, _, _, _, _, get2, rfl, rfl, ?_, ?_, ?_, ?_⟩) | (with_reducible refine ⟨3, _, _, _, _, get3, rfl, rfl, ?_, ?_, ?_, ?_⟩)); (kernel_rfl); (simp [Value.cells]); (rfl); (clear st; intro w st))); (try simp only [nsl, Value.cells, unB] at st); (try clear hc); have hc := st.facts; (try simp only [nfl, nft, Nat.reduceAdd] at hc))
  go_wp2_with fail
  (try simp only [Exit.inBlock, Exit.then])
  refine bodyPost_cell rfl rfl (st.blk (i := 2) get2) Try.underlying41 rfl (by kernel_rfl) rfl ?_
  exact ⟨by rw [H1.out], st.ext0⟩
/-- Which wants may be. -/
def wantsR (l : List Role) : Bool := decide (l.length ≤ 16) && decide (roleSet l = l)
set_option maxRecDepth 100000 in
set_option maxHeartbeats 1000000 in
theorem wants_any (a : Option Addr) (n c : Nat) (l : List Role) (W : World) (h : Fl W a n l) (hn : n ≤ 1000000) (hs : ∀ x ∈ l, x.1.length ≤ 100000 ∧ x.2.length ≤ 100000) :
    Calls Try.prog 20 #[.slice a n c] W fun e w' => e = .returned (.bool (wantsR l)) ∧ Ext W w' := by
  have H := Lib.hid h
  have HRS := Lib.hid (fun W' h => roleSet_any a n c l W' h (by omega) hs)
  have hsl := roleSet_len l
  have HNL : Hid (n = l.length) := Lib.hid h.1
  obtain ⟨r, hr⟩ : ∃ r, wantsR l = r := ⟨_, rfl⟩
  have HR : Hid (r = (decide (l.length ≤ 16) && decide (roleSet l = l))) := Lib.hid (by rw [← hr]; rfl)
  rw [hr]
  have HEQ := Lib.hid (fun va vc W' h1 h2 => roleEqual_any va (roleSet l).length vc (roleSet l) a n c l W' h1 h2 (by have := HNL.out; omega) (by omega))
  obtain ⟨q, hq⟩ : ∃ q, decide (roleSet l = l) = q := ⟨_, rfl⟩
  rw [hq] at HEQ HR
  obtain ⟨m, hm⟩ : ∃ m, (roleSet l).length = m := ⟨_, rfl⟩
  rw [hm] at HRS HEQ hsl
  have hmn : m ≤ n := by have := HNL.out; omega
  clear h hs hr hq hm hsl
  have st := Own.startOld W
  (try simp only [nsl, Value.cells, unB] at st)
  (try clear hc); have hc := st.facts; (try simp only [nfl, nft, Nat.reduceAdd] at hc)
  by_cases h16 : n ≤ 16
  · have H1 : Hid (r = q) := Lib.hid (by rw [HR.out, decide_eq_true (by have := HNL.out; omega)]; rfl)
    go_enter Try.func20, Try.ntmps20
    go_wp2_with fail
    refine (HRS.out _ (st.oldFl (i := 0) get0 H.out)).mono ?_
    rintro en w ⟨va, vc, rfl, hfr⟩
    replace st := st.fresh hfr
    clear hfr
    (try simp only [nsl, Value.cells, unB] at st)
    (try clear hc); have hc := st.facts; (try simp only [nfl, nft, Nat.reduceAdd] at hc)
    go_wp2_with fail
    refine (HEQ.out _ _ _ (rowFl' (α := Role) st (i := 1) get1).2 (st.oldFl (i := 0) get0 H.out)).mono ?_
    rintro en w ⟨rfl, hx⟩
    replace st := st.ext hx
    clear hx
    (try clear hc); have hc := st.facts; (try simp only [nfl, nft, Nat.reduceAdd] at hc)
    go_wp2_with fail
    go_ret
    exact ⟨by rw [H1.out]; rfl, st.ext0⟩
  · have H1 : Hid (r = false) := Lib.hid (by rw [HR.out, decide_eq_false (by have := HNL.out; omega)]; rfl)
    go_enter Try.func20, Try.ntmps20
    go_wp2_with fail
    go_ret
    exact ⟨by rw [H1.out]; rfl, st.ext0⟩
/-- Which shows may be. -/
def shAt (l : List SgnT) (j : Nat) : Bool := match l[j]? with
  | some x => credR x.c && (x.n == 8) && (if j = 0 then true else match l[j - 1]? with | some y => decide (credCmp y.c x.c < 0) | none => true)
  | none => true
def showsR (l : List SgnT) : Bool := (List.range l.length).all (shAt l) && decide (l.length ≤ 8)
theorem showsR_bad {l : List SgnT} {j : Nat} (hj : j < l.length) (h : shAt l j = false) : showsR l = false := by
  unfold showsR
  rw [show (List.range l.length).all (shAt l) = false from by rw [List.all_eq_false]; exact ⟨j, by simpa using hj, by rw [h]; decide⟩]
  rfl
theorem showsR_all {l : List SgnT} (h : ∀ i, i < l.length → shAt l i = true) : showsR l = decide (l.length ≤ 8) := by
  unfold showsR
  rw [show (List.range l.length).all (shAt l) = true from List.all_eq_true.2 fun i hi => h i (by simpa using hi)]
  rfl
theorem shAt_0 {l : List SgnT} (h : 0 < l.length) : shAt l 0 = (credR l[0].c && (l[0].n == 8)) := by
  unfold shAt; rw [List.getElem?_eq_getElem h]; simp
theorem shAt_s {l : List SgnT} {j : Nat} (h : j + 1 < l.length) : shAt l (j + 1) = (credR l[j + 1].c && (l[j + 1].n == 8) && decide (credCmp l[j].c l[j + 1].c < 0)) := by
  unfold shAt
  rw [List.getElem?_eq_getElem h]
  simp only [Nat.add_one_sub_one]
  rw [List.getElem?_eq_getElem (by omega : j < l.length)]
  simp
def SgL (x : SgnT) : Prop := x.n ≤ 100000 ∧ CLenS x.c
set_option maxRecDepth 100000 in
set_option maxHeartbeats 8000000 in
theorem shows_any (a : Option Addr) (n c : Nat) (l : List SgnT) (W : World) (h : Fl W a n l) (hn : n ≤ 1000000) (hs : ∀ x ∈ l, SgL x) :
    Calls Try.prog 21 #[.slice a n c] W fun e w' => e = .returned (.bool (showsR l)) ∧ Ext W w' := by
  have H := Lib.hid h
  have HL := Lib.hid hs
  have HNL : Hid (n = l.length) := Lib.hid h.1
  obtain ⟨r, hr⟩ : ∃ r, showsR l = r := ⟨_, rfl⟩
  have HR := Lib.hid hr
  rw [hr]
  clear h hs hr
  have st := Own.startOld W
  (try simp only [nsl, Value.cells, unB] at st)
  (try clear hc); have hc := st.facts; (try simp only [nfl, nft, Nat.reduceAdd] at hc)
  go_enter Try.func21, Try.ntmps21
  go_wp2_with fail
  go_loopg [7] n (fun kk i wr => ∃ (j : Nat), j ≤ n ∧ kk = n - j ∧ i = .int .i64 (j : Int) ∧ Hid (∀ i, i < j → shAt l i = true) ∧ Own (fun _ => False) (fun _ => True) W [oldI W] wr)
  case atStart => exact ⟨0, by omega, by omega, rfl, Lib.hid (fun i hi => by omega), st⟩
  case round =>
    obtain ⟨j, hj, rfl, rfl, HT, st'⟩ := hrel
    clear st hc
    have st := st'
    clear st'
    (try simp only [nsl, Value.cells, unB] at st)
    (try clear hc); have hc := st.facts; (try simp only [nfl, nft, Nat.reduceAdd] at hc)
    by_cases hjn : j < n
    · obtain ⟨b, off, ha, hcell⟩ := H.out.sgn (by omega)
      have hjl : j < l.length := by have := HNL.out; omega
      have HBD : Hid (shAt l j = false → r = false) := Lib.hid (fun q => by rw [← HR.out]; exact showsR_bad hjl q)
      have hcx := hcell j l[j] (List.getElem?_eq_getElem hjl)
      have hlx := HL.out l[j] (List.getElem_mem hjl)
      cases j with
      | zero =>
        have HSA : Hid (shAt l 0 = (credR l[0].c && (l[0].n == 8))) := Lib.hid (shAt_0 hjl)
        clear hcell
        generalize l[0] = x at *
        have HCR := Lib.hid (fun W => credRight_any x.c W hlx.2)
        obtain ⟨⟨ck, ⟨ho, hd⟩, cw, ⟨bo, bd⟩, ⟨co, cd⟩, we⟩, a1, n1, m1, xs⟩ := x
        simp only [Nat.zero_mul, Nat.add_zero, Nat.zero_add] at hcx
        obtain ⟨r0, r1, r2, r3, r4, r5, r6, r7, r8, r9⟩ := hcx
        replace r0 := st.oldCell (i := 0) get0 r0
        replace r1 := st.oldCell (i := 0) get0 r1
        replace r2 := st.oldCell (i := 0) get0 r2
        replace r3 := st.oldCell (i := 0) get0 r3
        replace r4 := st.oldCell (i := 0) get0 r4
        replace r5 := st.oldCell (i := 0) get0 r5
        replace r6 := st.oldCell (i := 0) get0 r6
        replace r7 := st.oldCell (i := 0) get0 r7
        replace r8 := st.oldCell (i := 0) get0 r8
        replace r9 := st.oldCell (i := 0) get0 r9
        subst ha
        simp only at HSA
        unfold S at r1 r2 r3 r4 r5 r6 r7 r8
        unfold cV S at HCR
        simp only at HCR
        obtain ⟨cr, hcr⟩ : ∃ q, credR ⟨ck, (ho, hd), cw, (bo, bd), (co, cd), we⟩ = q := ⟨_, rfl⟩
        rw [hcr] at HCR HSA
        clear hcr hlx hjl
        go_wp2_with ((first
              | ((with_reducible refine wl_alloc ?_ (fun K hK => ?_)); rfl; refine owp_alloc (o := ⟨some 4, _, _, _, _, _⟩) rfl st ?_; apply Exists.intro; apply Exists.intro; refine ⟨?_, ?_⟩; (focus (first | (go_simp; done) | (go_simp; rfl))); (clear st; intro b4 w hb st; clear hb))
              | ((with_reducible refine wl_store ?_ (fun K hK => ?_)); rfl; refine owp_store rfl st ?_; apply Exists.intro; apply Exists.intro; refine ⟨?_, ?_, ?_⟩; (focus (go_simp; try rfl)); (focus (go_simp; try rfl)); (with_reducible refine ⟨1, _, _, _, _, get1, rfl, rfl, ?_, ?_, ?_, ?_⟩); (kernel_rfl); (simp [Value.cells]); (rfl); (clear st; intro w st))); (try simp only [nsl, Value.cells, unB] at st); (try clear hc); have hc := st.facts; (try simp only [nfl, nft, Nat.reduceAdd] at hc))
        clear r0 r1 r2 r3 r4 r5 r6 r7 r8 r9
        cases cr with
        | false =>
          have HF : Hid (r = false) := Lib.hid (HBD.out (by rw [HSA.out]; simp only [Bool.false_and]; (try simp)))
          refine Rg4.wp_region4_eq #[0, 1, 3, 7, 15, 31, 63, 127, 255, 511, 1023, 2047, 4095, 8191, 16383, 16383, 49151, 131071, 262143, 524287, 16383, 1064959, 4194303, 8388607, 16777215, 33554431] [2, 22] [1, 6, 19, 21] (fun _ => True) [0, 1, 2, 3, 4, 5, 6, 7, 8, 9, 10, 11, 12, 13, 14, 15, 16, 17, 18, 19, 20, 21, 22, 23, 24, 25] (by kernel_rfl) (by kernel_rfl) (by kernel_rfl) (by kernel_rfl) (show Rg4.PB _ by repeat (first | with_reducible exact Rg4.pb_body | with_reducible exact Rg4.pb_bodyD rfl | with_reducible refine Rg4.pb_then ?_ | with_reducible refine Rg4.pb_inBlock ?_ | with_reducible refine Rg4.pb_noGoto ?_ | with_reducible assumption)) (trivial) ?_
          replace st := st.drew
          change Rg4.wp4 _ _ _ _ _ _ _ _ _ (World.drew _) _ _
          generalize World.drew _ = w at st ⊢
          (try clear hc); have hc := st.facts; (try simp only [nfl, nft, Nat.reduceAdd] at hc)
          (refine Rg4.w4_any (Rg4.want_none rfl) rfl ?_; apply Exists.intro; refine ⟨fun w' => ?_, ?_⟩; (focus (first | (go_simp; done) | (go_simp; first | rfl | (rw [if_neg] <;> first | rfl | omega) | (rw [if_pos] <;> first | rfl | omega)))); (try simp only [Rg4.nrm]))
          (refine Rg4.w4_read (Rg4.want_none rfl) rfl rfl ?_; apply Exists.intro; refine ⟨fun w' hw' hcl' => ?_, ?_⟩; focus (subst hw'; (focus (first | (go_simp; done) | (go_simp; first | rfl | (rw [if_neg] <;> first | rfl | omega) | (rw [if_pos] <;> first | rfl | omega))))); (try simp only [Rg4.nrm]))
          refine Rg4.w4_bar (Rg4.want_none rfl) rfl (fun w' hw' hcl _ K hK => ?_)
          subst hw'
          go_wp2_with fail
          refine (HCR.out _).mono ?_
          rintro en w ⟨rfl, hx⟩
          replace st := st.ext hx
          clear hx
          (try clear hc); have hc := st.facts; (try simp only [nfl, nft, Nat.reduceAdd] at hc)
          refine hK _ _ ⟨trivial, ?_⟩
          clear hK
          (try simp only [Rg4.nrm])
          iterate 2 (refine Rg4.w4_any (Rg4.want_none rfl) rfl ?_; apply Exists.intro; refine ⟨fun w' => ?_, ?_⟩; (focus (first | (go_simp; done) | (go_simp; first | rfl | (rw [if_neg] <;> first | rfl | omega) | (rw [if_pos] <;> first | rfl | omega)))); (try simp only [Rg4.nrm]))
          (first | (refine Rg4.w4_any (Rg4.wt rfl rfl rfl) rfl ?_; apply Exists.intro; refine ⟨fun w' => ?_, ?_⟩; (focus (first | (go_simp; done) | (go_simp; first | rfl | (rw [if_neg] <;> first | rfl | omega) | (rw [if_pos] <;> first | rfl | omega)))); (try simp only [Rg4.nrm])) | (refine Rg4.w4_skip (Rg4.uw rfl rfl rfl) ?_; (try simp only [Rg4.nrm])) | (refine Rg4.w4_skip (Rg4.un rfl rfl rfl) ?_; (try simp only [Rg4.nrm])))
          (first | (refine Rg4.w4_read (Rg4.wt rfl rfl rfl) rfl rfl ?_; apply Exists.intro; refine ⟨fun w' hw' hcl' => ?_, ?_⟩; focus (subst hw'; (focus (first | (go_simp; done) | (go_simp; first | rfl | (rw [if_neg] <;> first | rfl | omega) | (rw [if_pos] <;> first | rfl | omega))))); (try simp only [Rg4.nrm])) | (refine Rg4.w4_skip (Rg4.uw rfl rfl rfl) ?_; (try simp only [Rg4.nrm])) | (refine Rg4.w4_skip (Rg4.un rfl rfl rfl) ?_; (try simp only [Rg4.nrm])))
          iterate 2 (first | (refine Rg4.w4_any (Rg4.wt rfl rfl rfl) rfl ?_; apply Exists.intro; refine ⟨fun w' => ?_, ?_⟩; (focus (first | (go_simp; done) | (go_simp; first | rfl | (rw [if_neg] <;> first | rfl | omega) | (rw [if_pos] <;> first | rfl | omega)))); (try simp only [Rg4.nrm])) | (refine Rg4.w4_skip (Rg4.uw rfl rfl rfl) ?_; (try simp only [Rg4.nrm])) | (refine Rg4.w4_skip (Rg4.un rfl rfl rfl) ?_; (try simp only [Rg4.nrm])))
          iterate 2 (refine Rg4.w4_any (Rg4.want_none rfl) rfl ?_; apply Exists.intro; refine ⟨fun w' => ?_, ?_⟩; (focus (first | (go_simp; done) | (go_simp; first | rfl | (rw [if_neg] <;> first | rfl | omega) | (rw [if_pos] <;> first | rfl | omega)))); (try simp only [Rg4.nrm]))
          iterate 8 (first | (refine Rg4.w4_any (Rg4.wt rfl rfl rfl) rfl ?_; apply Exists.intro; refine ⟨fun w' => ?_, ?_⟩; (focus (first | (go_simp; done) | (go_simp; first | rfl | (rw [if_neg] <;> first | rfl | omega) | (rw [if_pos] <;> first | rfl | omega)))); (try simp only [Rg4.nrm])) | (refine Rg4.w4_skip (Rg4.uw rfl rfl rfl) ?_; (try simp only [Rg4.nrm])) | (refine Rg4.w4_skip (Rg4.un rfl rfl rfl) ?_; (try simp only [Rg4.nrm])))
          (first | (refine Rg4.w4_read (Rg4.wt rfl rfl rfl) rfl rfl ?_; apply Exists.intro; refine ⟨fun w' hw' hcl' => ?_, ?_⟩; focus (subst hw'; (focus (first | (go_simp; done) | (go_simp; first | rfl | (rw [if_neg] <;> first | rfl | omega) | (rw [if_pos] <;> first | rfl | omega))))); (try simp only [Rg4.nrm])) | (refine Rg4.w4_skip (Rg4.uw rfl rfl rfl) ?_; (try simp only [Rg4.nrm])) | (refine Rg4.w4_skip (Rg4.un rfl rfl rfl) ?_; (try simp only [Rg4.nrm])))
          (first | (refine Rg4.w4_any (Rg4.wt rfl rfl rfl) rfl ?_; apply Exists.intro; refine ⟨fun w' => ?_, ?_⟩; (focus (first | (go_simp; done) | (go_simp; first | rfl | (rw [if_neg] <;> first | rfl | omega) | (rw [if_pos] <;> first | rfl | omega)))); (try simp only [Rg4.nrm])) | (refine Rg4.w4_skip (Rg4.uw rfl rfl rfl) ?_; (try simp only [Rg4.nrm])) | (refine Rg4.w4_skip (Rg4.un rfl rfl rfl) ?_; (try simp only [Rg4.nrm])))
          (first | (refine Rg4.w4_read (Rg4.wt rfl rfl rfl) rfl rfl ?_; apply Exists.intro; refine ⟨fun w' hw' hcl' => ?_, ?_⟩; focus (subst hw'; (focus (first | (go_simp; done) | (go_simp; first | rfl | (rw [if_neg] <;> first | rfl | omega) | (rw [if_pos] <;> first | rfl | omega))))); (try simp only [Rg4.nrm])) | (refine Rg4.w4_skip (Rg4.uw rfl rfl rfl) ?_; (try simp only [Rg4.nrm])) | (refine Rg4.w4_skip (Rg4.un rfl rfl rfl) ?_; (try simp only [Rg4.nrm])))
          first | refine Rg4.w4_skip (Rg4.uw rfl rfl rfl) ?_ | refine Rg4.w4_skip (Rg4.un rfl rfl rfl) ?_
          (try simp only [Rg4.nrm])
          iterate 2 (first | (refine Rg4.w4_any (Rg4.wt rfl rfl rfl) rfl ?_; apply Exists.intro; refine ⟨fun w' => ?_, ?_⟩; (focus (first | (go_simp; done) | (go_simp; first | rfl | (rw [if_neg] <;> first | rfl | omega) | (rw [if_pos] <;> first | rfl | omega)))); (try simp only [Rg4.nrm])) | (refine Rg4.w4_skip (Rg4.uw rfl rfl rfl) ?_; (try simp only [Rg4.nrm])) | (refine Rg4.w4_skip (Rg4.un rfl rfl rfl) ?_; (try simp only [Rg4.nrm])))
          (refine Rg4.w4_any (Rg4.want_none rfl) rfl ?_; apply Exists.intro; refine ⟨fun w' => ?_, ?_⟩; (focus (first | (go_simp; done) | (go_simp; first | rfl | (rw [if_neg] <;> first | rfl | omega) | (rw [if_pos] <;> first | rfl | omega)))); (try simp only [Rg4.nrm]))
          refine Rg4.w4_nil (fun w' hw' hcl' _ => ?_); subst hw'; clear hcl'
          go_wp2_with fail
          go_ret
          exact ⟨by rw [HF.out]; rfl, st.ext0⟩
        | true =>
          by_cases h8 : n1 = 8
          · subst h8
            refine Rg4.wp_region4_eq #[0, 1, 3, 7, 15, 31, 63, 127, 255, 511, 1023, 2047, 4095, 8191, 16383, 16383, 49151, 131071, 262143, 524287, 16383, 1064959, 4194303, 8388607, 16777215, 33554431] [2, 22] [1, 6, 19, 21] (fun _ => True) [0, 1, 2, 3, 4, 5, 6, 7, 8, 9, 10, 11, 12, 13, 14, 15, 16, 17, 18, 19, 20, 21, 22, 23, 24, 25] (by kernel_rfl) (by kernel_rfl) (by kernel_rfl) (by kernel_rfl) (show Rg4.PB _ by repeat (first | with_reducible exact Rg4.pb_body | with_reducible exact Rg4.pb_bodyD rfl | with_reducible refine Rg4.pb_then ?_ | with_reducible refine Rg4.pb_inBlock ?_ | with_reducible refine Rg4.pb_noGoto ?_ | with_reducible assumption)) (trivial) ?_
            replace st := st.drew
            change Rg4.wp4 _ _ _ _ _ _ _ _ _ (World.drew _) _ _
            generalize World.drew _ = w at st ⊢
            (try clear hc); have hc := st.facts; (try simp only [nfl, nft, Nat.reduceAdd] at hc)
            (refine Rg4.w4_any (Rg4.want_none rfl) rfl ?_; apply Exists.intro; refine ⟨fun w' => ?_, ?_⟩; (focus (first | (go_simp; done) | (go_simp; first | rfl | (rw [if_neg] <;> first | rfl | omega) | (rw [if_pos] <;> first | rfl | omega)))); (try simp only [Rg4.nrm]))
            (refine Rg4.w4_read (Rg4.want_none rfl) rfl rfl ?_; apply Exists.intro; refine ⟨fun w' hw' hcl' => ?_, ?_⟩; focus (subst hw'; (focus (first | (go_simp; done) | (go_simp; first | rfl | (rw [if_neg] <;> first | rfl | omega) | (rw [if_pos] <;> first | rfl | omega))))); (try simp only [Rg4.nrm]))
            refine Rg4.w4_bar (Rg4.want_none rfl) rfl (fun w' hw' hcl _ K hK => ?_)
            subst hw'
            go_wp2_with fail
            refine (HCR.out _).mono ?_
            rintro en w ⟨rfl, hx⟩
            replace st := st.ext hx
            clear hx
            (try clear hc); have hc := st.facts; (try simp only [nfl, nft, Nat.reduceAdd] at hc)
            refine hK _ _ ⟨trivial, ?_⟩
            clear hK
            (try simp only [Rg4.nrm])
            iterate 2 (refine Rg4.w4_any (Rg4.want_none rfl) rfl ?_; apply Exists.intro; refine ⟨fun w' => ?_, ?_⟩; (focus (first | (go_simp; done) | (go_simp; first | rfl | (rw [if_neg] <;> first | rfl | omega) | (rw [if_pos] <;> first | rfl | omega)))); (try simp only [Rg4.nrm]))
            (first | (refine Rg4.w4_any (Rg4.wt rfl rfl rfl) rfl ?_; apply Exists.intro; refine ⟨fun w' => ?_, ?_⟩; (focus (first | (go_simp; done) | (go_simp; first | rfl | (rw [if_neg] <;> first | rfl | omega) | (rw [if_pos] <;> first | rfl | omega)))); (try simp only [Rg4.nrm])) | (refine Rg4.w4_skip (Rg4.uw rfl rfl rfl) ?_; (try simp only [Rg4.nrm])) | (refine Rg4.w4_skip (Rg4.un rfl rfl rfl) ?_; (try simp only [Rg4.nrm])))
            (first | (refine Rg4.w4_read (Rg4.wt rfl rfl rfl) rfl rfl ?_; apply Exists.intro; refine ⟨fun w' hw' hcl' => ?_, ?_⟩; focus (subst hw'; (focus (first | (go_simp; done) | (go_simp; first | rfl | (rw [if_neg] <;> first | rfl | omega) | (rw [if_pos] <;> first | rfl | omega))))); (try simp only [Rg4.nrm])) | (refine Rg4.w4_skip (Rg4.uw rfl rfl rfl) ?_; (try simp only [Rg4.nrm])) | (refine Rg4.w4_skip (Rg4.un rfl rfl rfl) ?_; (try simp only [Rg4.nrm])))
            iterate 2 (first | (refine Rg4.w4_any (Rg4.wt rfl rfl rfl) rfl ?_; apply Exists.intro; refine ⟨fun w' => ?_, ?_⟩; (focus (first | (go_simp; done) | (go_simp; first | rfl | (rw [if_neg] <;> first | rfl | omega) | (rw [if_pos] <;> first | rfl | omega)))); (try simp only [Rg4.nrm])) | (refine Rg4.w4_skip (Rg4.uw rfl rfl rfl) ?_; (try simp only [Rg4.nrm])) | (refine Rg4.w4_skip (Rg4.un rfl rfl rfl) ?_; (try simp only [Rg4.nrm])))
            iterate 2 (refine Rg4.w4_any (Rg4.want_none rfl) rfl ?_; apply Exists.intro; refine ⟨fun w' => ?_, ?_⟩; (focus (first | (go_simp; done) | (go_simp; first | rfl | (rw [if_neg] <;> first | rfl | omega) | (rw [if_pos] <;> first | rfl | omega)))); (try simp only [Rg4.nrm]))
            iterate 8 (first | (refine Rg4.w4_any (Rg4.wt rfl rfl rfl) rfl ?_; apply Exists.intro; refine ⟨fun w' => ?_, ?_⟩; (focus (first | (go_simp; done) | (go_simp; first | rfl | (rw [if_neg] <;> first | rfl | omega) | (rw [if_pos] <;> first | rfl | omega)))); (try simp only [Rg4.nrm])) | (refine Rg4.w4_skip (Rg4.uw rfl rfl rfl) ?_; (try simp only [Rg4.nrm])) | (refine Rg4.w4_skip (Rg4.un rfl rfl rfl) ?_; (try simp only [Rg4.nrm])))
            (first | (refine Rg4.w4_read (Rg4.wt rfl rfl rfl) rfl rfl ?_; apply Exists.intro; refine ⟨fun w' hw' hcl' => ?_, ?_⟩; focus (subst hw'; (focus (first | (go_simp; done) | (go_simp; first | rfl | (rw [if_neg] <;> first | rfl | omega) | (rw [if_pos] <;> first | rfl | omega))))); (try simp only [Rg4.nrm])) | (refine Rg4.w4_skip (Rg4.uw rfl rfl rfl) ?_; (try simp only [Rg4.nrm])) | (refine Rg4.w4_skip (Rg4.un rfl rfl rfl) ?_; (try simp only [Rg4.nrm])))
            (first | (refine Rg4.w4_any (Rg4.wt rfl rfl rfl) rfl ?_; apply Exists.intro; refine ⟨fun w' => ?_, ?_⟩; (focus (first | (go_simp; done) | (go_simp; first | rfl | (rw [if_neg] <;> first | rfl | omega) | (rw [if_pos] <;> first | rfl | omega)))); (try simp only [Rg4.nrm])) | (refine Rg4.w4_skip (Rg4.uw rfl rfl rfl) ?_; (try simp only [Rg4.nrm])) | (refine Rg4.w4_skip (Rg4.un rfl rfl rfl) ?_; (try simp only [Rg4.nrm])))
            (first | (refine Rg4.w4_read (Rg4.wt rfl rfl rfl) rfl rfl ?_; apply Exists.intro; refine ⟨fun w' hw' hcl' => ?_, ?_⟩; focus (subst hw'; (focus (first | (go_simp; done) | (go_simp; first | rfl | (rw [if_neg] <;> first | rfl | omega) | (rw [if_pos] <;> first | rfl | omega))))); (try simp only [Rg4.nrm])) | (refine Rg4.w4_skip (Rg4.uw rfl rfl rfl) ?_; (try simp only [Rg4.nrm])) | (refine Rg4.w4_skip (Rg4.un rfl rfl rfl) ?_; (try simp only [Rg4.nrm])))
            first | refine Rg4.w4_skip (Rg4.uw rfl rfl rfl) ?_ | refine Rg4.w4_skip (Rg4.un rfl rfl rfl) ?_
            (try simp only [Rg4.nrm])
            iterate 2 (first | (refine Rg4.w4_any (Rg4.wt rfl rfl rfl) rfl ?_; apply Exists.intro; refine ⟨fun w' => ?_, ?_⟩; (focus (first | (go_simp; done) | (go_simp; first | rfl | (rw [if_neg] <;> first | rfl | omega) | (rw [if_pos] <;> first | rfl | omega)))); (try simp only [Rg4.nrm])) | (refine Rg4.w4_skip (Rg4.uw rfl rfl rfl) ?_; (try simp only [Rg4.nrm])) | (refine Rg4.w4_skip (Rg4.un rfl rfl rfl) ?_; (try simp only [Rg4.nrm])))
            (refine Rg4.w4_any (Rg4.want_none rfl) rfl ?_; apply Exists.intro; refine ⟨fun w' => ?_, ?_⟩; (focus (first | (go_simp; done) | (go_simp; first | rfl | (rw [if_neg] <;> first | rfl | omega) | (rw [if_pos] <;> first | rfl | omega)))); (try simp only [Rg4.nrm]))
            refine Rg4.w4_nil (fun w' hw' hcl' _ => ?_); subst hw'; clear hcl'
            have HF : Hid (∀ i, i < 0 + 1 → shAt l i = true) := Lib.hid (fun i hi => by
              rcases Nat.lt_succ_iff_lt_or_eq.1 hi with z | z
              · exact HT.out i z
              · rw [z, HSA.out]; (try simp only []); (try simp))
            go_wp2_with fail
            have st' := st.keep [0] (by decide) (by simp)
            go_roundg (n - (0 + 1))
            case measure => omega
            case rel => exact ⟨0 + 1, by omega, by omega, by go_num, HF, by simpa [pick] using st'⟩
          · have h8b : ((n1 : Int) != 8) = true := by simpa using (by omega : (n1 : Int) ≠ 8)
            have h8c : (n1 == 8) = false := by simpa using h8
            have H8 := Lib.hid h8c
            clear h8 h8c
            have HF : Hid (r = false) := Lib.hid (HBD.out (by rw [HSA.out]; simp only [H8.out]; (try simp)))
            refine Rg4.wp_region4_eq #[0, 1, 3, 7, 15, 31, 63, 127, 255, 511, 1023, 2047, 4095, 8191, 16383, 16383, 49151, 131071, 262143, 524287, 16383, 1064959, 4194303, 8388607, 16777215, 33554431] [2, 22] [1, 6, 19, 21] (fun _ => True) [0, 1, 2, 3, 4, 5, 6, 7, 8, 9, 10, 11, 12, 13, 14, 15, 16, 17, 18, 19, 20, 21, 22, 23, 24, 25] (by kernel_rfl) (by kernel_rfl) (by kernel_rfl) (by kernel_rfl) (show Rg4.PB _ by repeat (first | with_reducible exact Rg4.pb_body | with_reducible exact Rg4.pb_bodyD rfl | with_reducible refine Rg4.pb_then ?_ | with_reducible refine Rg4.pb_inBlock ?_ | with_reducible refine Rg4.pb_noGoto ?_ | with_reducible assumption)) (trivial) ?_
            replace st := st.drew
            change Rg4.wp4 _ _ _ _ _ _ _ _ _ (World.drew _) _ _
            generalize World.drew _ = w at st ⊢
            (try clear hc); have hc := st.facts; (try simp only [nfl, nft, Nat.reduceAdd] at hc)
            (refine Rg4.w4_any (Rg4.want_none rfl) rfl ?_; apply Exists.intro; refine ⟨fun w' => ?_, ?_⟩; (focus (first | (go_simp; done) | (go_simp; first | rfl | (rw [if_neg] <;> first | rfl | omega) | (rw [if_pos] <;> first | rfl | omega)))); (try simp only [Rg4.nrm]))
            (refine Rg4.w4_read (Rg4.want_none rfl) rfl rfl ?_; apply Exists.intro; refine ⟨fun w' hw' hcl' => ?_, ?_⟩; focus (subst hw'; (focus (first | (go_simp; done) | (go_simp; first | rfl | (rw [if_neg] <;> first | rfl | omega) | (rw [if_pos] <;> first | rfl | omega))))); (try simp only [Rg4.nrm]))
            refine Rg4.w4_bar (Rg4.want_none rfl) rfl (fun w' hw' hcl _ K hK => ?_)
            subst hw'
            go_wp2_with fail
            refine (HCR.out _).mono ?_
            rintro en w ⟨rfl, hx⟩
            replace st := st.ext hx
            clear hx
            (try clear hc); have hc := st.facts; (try simp only [nfl, nft, Nat.reduceAdd] at hc)
            refine hK _ _ ⟨trivial, ?_⟩
            clear hK
            (try simp only [Rg4.nrm])
            iterate 2 (refine Rg4.w4_any (Rg4.want_none rfl) rfl ?_; apply Exists.intro; refine ⟨fun w' => ?_, ?_⟩; (focus (first | (go_simp; done) | (go_simp; first | rfl | (rw [if_neg] <;> first | rfl | omega) | (rw [if_pos] <;> first | rfl | omega)))); (try simp only [Rg4.nrm]))
            (first | (refine Rg4.w4_any (Rg4.wt rfl rfl rfl) rfl ?_; apply Exists.intro; refine ⟨fun w' => ?_, ?_⟩; (focus (first | (go_simp; done) | (go_simp; first | rfl | (rw [if_neg] <;> first | rfl | omega) | (rw [if_pos] <;> first | rfl | omega)))); (try simp only [Rg4.nrm])) | (refine Rg4.w4_skip (Rg4.uw rfl rfl rfl) ?_; (try simp only [Rg4.nrm])) | (refine Rg4.w4_skip (Rg4.un rfl rfl rfl) ?_; (try simp only [Rg4.nrm])))
            (first | (refine Rg4.w4_read (Rg4.wt rfl rfl rfl) rfl rfl ?_; apply Exists.intro; refine ⟨fun w' hw' hcl' => ?_, ?_⟩; focus (subst hw'; (focus (first | (go_simp; done) | (go_simp; first | rfl | (rw [if_neg] <;> first | rfl | omega) | (rw [if_pos] <;> first | rfl | omega))))); (try simp only [Rg4.nrm])) | (refine Rg4.w4_skip (Rg4.uw rfl rfl rfl) ?_; (try simp only [Rg4.nrm])) | (refine Rg4.w4_skip (Rg4.un rfl rfl rfl) ?_; (try simp only [Rg4.nrm])))
            iterate 2 (first | (refine Rg4.w4_any (Rg4.wt rfl rfl rfl) rfl ?_; apply Exists.intro; refine ⟨fun w' => ?_, ?_⟩; (focus (first | (go_simp; done) | (go_simp; first | rfl | (rw [if_neg] <;> first | rfl | omega) | (rw [if_pos] <;> first | rfl | omega)))); (try simp only [Rg4.nrm])) | (refine Rg4.w4_skip (Rg4.uw rfl rfl rfl) ?_; (try simp only [Rg4.nrm])) | (refine Rg4.w4_skip (Rg4.un rfl rfl rfl) ?_; (try simp only [Rg4.nrm])))
            iterate 2 (refine Rg4.w4_any (Rg4.want_none rfl) rfl ?_; apply Exists.intro; refine ⟨fun w' => ?_, ?_⟩; (focus (first | (go_simp; done) | (go_simp; first | rfl | (rw [if_neg] <;> first | rfl | omega) | (rw [if_pos] <;> first | rfl | omega)))); (try simp only [Rg4.nrm]))
            iterate 8 (first | (refine Rg4.w4_any (Rg4.wt rfl rfl rfl) rfl ?_; apply Exists.intro; refine ⟨fun w' => ?_, ?_⟩; (focus (first | (go_simp; done) | (go_simp; first | rfl | (rw [if_neg] <;> first | rfl | omega) | (rw [if_pos] <;> first | rfl | omega)))); (try simp only [Rg4.nrm])) | (refine Rg4.w4_skip (Rg4.uw rfl rfl rfl) ?_; (try simp only [Rg4.nrm])) | (refine Rg4.w4_skip (Rg4.un rfl rfl rfl) ?_; (try simp only [Rg4.nrm])))
            (first | (refine Rg4.w4_read (Rg4.wt rfl rfl rfl) rfl rfl ?_; apply Exists.intro; refine ⟨fun w' hw' hcl' => ?_, ?_⟩; focus (subst hw'; (focus (first | (go_simp; done) | (go_simp; first | rfl | (rw [if_neg] <;> first | rfl | omega) | (rw [if_pos] <;> first | rfl | omega))))); (try simp only [Rg4.nrm])) | (refine Rg4.w4_skip (Rg4.uw rfl rfl rfl) ?_; (try simp only [Rg4.nrm])) | (refine Rg4.w4_skip (Rg4.un rfl rfl rfl) ?_; (try simp only [Rg4.nrm])))
            (first | (refine Rg4.w4_any (Rg4.wt rfl rfl rfl) rfl ?_; apply Exists.intro; refine ⟨fun w' => ?_, ?_⟩; (focus (first | (go_simp; done) | (go_simp; first | rfl | (rw [if_neg] <;> first | rfl | omega) | (rw [if_pos] <;> first | rfl | omega)))); (try simp only [Rg4.nrm])) | (refine Rg4.w4_skip (Rg4.uw rfl rfl rfl) ?_; (try simp only [Rg4.nrm])) | (refine Rg4.w4_skip (Rg4.un rfl rfl rfl) ?_; (try simp only [Rg4.nrm])))
            (first | (refine Rg4.w4_read (Rg4.wt rfl rfl rfl) rfl rfl ?_; apply Exists.intro; refine ⟨fun w' hw' hcl' => ?_, ?_⟩; focus (subst hw'; (focus (first | (go_simp; done) | (go_simp; first | rfl | (rw [if_neg] <;> first | rfl | omega) | (rw [if_pos] <;> first | rfl | omega))))); (try simp only [Rg4.nrm])) | (refine Rg4.w4_skip (Rg4.uw rfl rfl rfl) ?_; (try simp only [Rg4.nrm])) | (refine Rg4.w4_skip (Rg4.un rfl rfl rfl) ?_; (try simp only [Rg4.nrm])))
            first | refine Rg4.w4_skip (Rg4.uw rfl rfl rfl) ?_ | refine Rg4.w4_skip (Rg4.un rfl rfl rfl) ?_
            (try simp only [Rg4.nrm])
            iterate 2 (first | (refine Rg4.w4_any (Rg4.wt rfl rfl rfl) rfl ?_; apply Exists.intro; refine ⟨fun w' => ?_, ?_⟩; (focus (first | (go_simp; done) | (go_simp; first | rfl | (rw [if_neg] <;> first | rfl | omega) | (rw [if_pos] <;> first | rfl | omega)))); (try simp only [Rg4.nrm])) | (refine Rg4.w4_skip (Rg4.uw rfl rfl rfl) ?_; (try simp only [Rg4.nrm])) | (refine Rg4.w4_skip (Rg4.un rfl rfl rfl) ?_; (try simp only [Rg4.nrm])))
            (refine Rg4.w4_any (Rg4.want_none rfl) rfl ?_; apply Exists.intro; refine ⟨fun w' => ?_, ?_⟩; (focus (first | (go_simp; done) | (go_simp; first | rfl | (rw [if_neg] <;> first | rfl | omega) | (rw [if_pos] <;> first | rfl | omega)))); (try simp only [Rg4.nrm]))
            refine Rg4.w4_nil (fun w' hw' hcl' _ => ?_); subst hw'; clear hcl'
            go_wp2_with fail
            go_ret
            exact ⟨by rw [HF.out]; rfl, st.ext0⟩
      | succ j =>
        have HSA : Hid (shAt l (j + 1) = (credR l[j + 1].c && (l[j + 1].n == 8) && decide (credCmp l[j].c l[j + 1].c < 0))) := Lib.hid (shAt_s hjl)
        have hcy := hcell j l[j] (List.getElem?_eq_getElem (by omega))
        have hly := HL.out l[j] (List.getElem_mem (by omega))
        clear hcell
        generalize l[j + 1] = x at *
        generalize l[j]'(by omega) = y at *
        have HCR := Lib.hid (fun W => credRight_any x.c W hlx.2)
        have HCC := Lib.hid (fun W => credCompare_any y.c x.c W hly.2.L hlx.2.L)
        obtain ⟨⟨ck, ⟨ho, hd⟩, cw, ⟨bo, bd⟩, ⟨co, cd⟩, we⟩, a1, n1, m1, xs⟩ := x
        obtain ⟨⟨ck', ⟨ho', hd'⟩, cw', ⟨bo', bd'⟩, ⟨co', cd'⟩, we'⟩, a2, n2, m2, ys⟩ := y
        obtain ⟨r0, r1, r2, r3, r4, r5, r6, r7, r8, r9⟩ := hcx
        replace r0 := st.oldCell (i := 0) get0 r0
        replace r1 := st.oldCell (i := 0) get0 r1
        replace r2 := st.oldCell (i := 0) get0 r2
        replace r3 := st.oldCell (i := 0) get0 r3
        replace r4 := st.oldCell (i := 0) get0 r4
        replace r5 := st.oldCell (i := 0) get0 r5
        replace r6 := st.oldCell (i := 0) get0 r6
        replace r7 := st.oldCell (i := 0) get0 r7
        replace r8 := st.oldCell (i := 0) get0 r8
        replace r9 := st.oldCell (i := 0) get0 r9
        subst ha
        simp only at r0 r1 r2 r3 r4 r5 r6 r7 r8 r9 HSA hcy
        unfold S at r1 r2 r3 r4 r5 r6 r7 r8 hcy
        unfold cV S at HCR HCC
        simp only at HCR HCC
        obtain ⟨cr, hcr⟩ : ∃ q, credR ⟨ck, (ho, hd), cw, (bo, bd), (co, cd), we⟩ = q := ⟨_, rfl⟩
        rw [hcr] at HCR HSA
        obtain ⟨cc, hcc⟩ : ∃ q, credCmp ⟨ck', (ho', hd'), cw', (bo', bd'), (co', cd'), we'⟩ ⟨ck, (ho, hd), cw, (bo, bd), (co, cd), we⟩ = q := ⟨_, rfl⟩
        rw [hcc] at HCC HSA
        have HCY := Lib.hid hcy
        clear hcr hlx hly hjl hcc hcy
        have hwj : IntKind.i64.wrap (j : Int) = (j : Int) := IntWalk.i64_in _ ⟨by omega, by omega⟩
        go_wp2_with ((first
              | ((with_reducible refine wl_alloc ?_ (fun K hK => ?_)); rfl; refine owp_alloc (o := ⟨some 4, _, _, _, _, _⟩) rfl st ?_; apply Exists.intro; apply Exists.intro; refine ⟨?_, ?_⟩; (focus (first | (go_simp; done) | (go_simp; rfl))); (clear st; intro b4 w hb st; clear hb))
              | ((with_reducible refine wl_store ?_ (fun K hK => ?_)); rfl; refine owp_store rfl st ?_; apply Exists.intro; apply Exists.intro; refine ⟨?_, ?_, ?_⟩; (focus (go_simp; try rfl)); (focus (go_simp; try rfl)); (with_reducible refine ⟨1, _, _, _, _, get1, rfl, rfl, ?_, ?_, ?_, ?_⟩); (kernel_rfl); (simp [Value.cells]); (rfl); (clear st; intro w st))); (try simp only [nsl, Value.cells, unB] at st); (try clear hc); have hc := st.facts; (try simp only [nfl, nft, Nat.reduceAdd] at hc))
        clear r0 r1 r2 r3 r4 r5 r6 r7 r8 r9
        cases cr with
        | false =>
          have HF : Hid (r = false) := Lib.hid (HBD.out (by rw [HSA.out]; simp only [Bool.false_and]; (try simp)))
          refine Rg4.wp_region4_eq #[0, 1, 3, 7, 15, 31, 63, 127, 255, 511, 1023, 2047, 4095, 8191, 16383, 16383, 49151, 131071, 262143, 524287, 16383, 1064959, 4194303, 8388607, 16777215, 33554431] [2, 22] [1, 6, 19, 21] (fun _ => True) [0, 1, 2, 3, 4, 5, 6, 7, 8, 9, 10, 11, 12, 13, 14, 15, 16, 17, 18, 19, 20, 21, 22, 23, 24, 25] (by kernel_rfl) (by kernel_rfl) (by kernel_rfl) (by kernel_rfl) (show Rg4.PB _ by repeat (first | with_reducible exact Rg4.pb_body | with_reducible exact Rg4.pb_bodyD rfl | with_reducible refine Rg4.pb_then ?_ | with_reducible refine Rg4.pb_inBlock ?_ | with_reducible refine Rg4.pb_noGoto ?_ | with_reducible assumption)) (trivial) ?_
          replace st := st.drew
          change Rg4.wp4 _ _ _ _ _ _ _ _ _ (World.drew _) _ _
          generalize World.drew _ = w at st ⊢
          (try clear hc); have hc := st.facts; (try simp only [nfl, nft, Nat.reduceAdd] at hc)
          (refine Rg4.w4_any (Rg4.want_none rfl) rfl ?_; apply Exists.intro; refine ⟨fun w' => ?_, ?_⟩; (focus (first | (go_simp; done) | (go_simp; first | rfl | (rw [if_neg] <;> first | rfl | omega) | (rw [if_pos] <;> first | rfl | omega)))); (try simp only [Rg4.nrm]))
          (refine Rg4.w4_read (Rg4.want_none rfl) rfl rfl ?_; apply Exists.intro; refine ⟨fun w' hw' hcl' => ?_, ?_⟩; focus (subst hw'; (focus (first | (go_simp; done) | (go_simp; first | rfl | (rw [if_neg] <;> first | rfl | omega) | (rw [if_pos] <;> first | rfl | omega))))); (try simp only [Rg4.nrm]))
          refine Rg4.w4_bar (Rg4.want_none rfl) rfl (fun w' hw' hcl _ K hK => ?_)
          subst hw'
          go_wp2_with fail
          refine (HCR.out _).mono ?_
          rintro en w ⟨rfl, hx⟩
          replace st := st.ext hx
          clear hx
          (try clear hc); have hc := st.facts; (try simp only [nfl, nft, Nat.reduceAdd] at hc)
          refine hK _ _ ⟨trivial, ?_⟩
          clear hK
          (try simp only [Rg4.nrm])
          iterate 2 (refine Rg4.w4_any (Rg4.want_none rfl) rfl ?_; apply Exists.intro; refine ⟨fun w' => ?_, ?_⟩; (focus (first | (go_simp; done) | (go_simp; first | rfl | (rw [if_neg] <;> first | rfl | omega) | (rw [if_pos] <;> first | rfl | omega)))); (try simp only [Rg4.nrm]))
          (first | (refine Rg4.w4_any (Rg4.wt rfl rfl rfl) rfl ?_; apply Exists.intro; refine ⟨fun w' => ?_, ?_⟩; (focus (first | (go_simp; done) | (go_simp; first | rfl | (rw [if_neg] <;> first | rfl | omega) | (rw [if_pos] <;> first | rfl | omega)))); (try simp only [Rg4.nrm])) | (refine Rg4.w4_skip (Rg4.uw rfl rfl rfl) ?_; (try simp only [Rg4.nrm])) | (refine Rg4.w4_skip (Rg4.un rfl rfl rfl) ?_; (try simp only [Rg4.nrm])))
          (first | (refine Rg4.w4_read (Rg4.wt rfl rfl rfl) rfl rfl ?_; apply Exists.intro; refine ⟨fun w' hw' hcl' => ?_, ?_⟩; focus (subst hw'; (focus (first | (go_simp; done) | (go_simp; first | rfl | (rw [if_neg] <;> first | rfl | omega) | (rw [if_pos] <;> first | rfl | omega))))); (try simp only [Rg4.nrm])) | (refine Rg4.w4_skip (Rg4.uw rfl rfl rfl) ?_; (try simp only [Rg4.nrm])) | (refine Rg4.w4_skip (Rg4.un rfl rfl rfl) ?_; (try simp only [Rg4.nrm])))
          iterate 2 (first | (refine Rg4.w4_any (Rg4.wt rfl rfl rfl) rfl ?_; apply Exists.intro; refine ⟨fun w' => ?_, ?_⟩; (focus (first | (go_simp; done) | (go_simp; first | rfl | (rw [if_neg] <;> first | rfl | omega) | (rw [if_pos] <;> first | rfl | omega)))); (try simp only [Rg4.nrm])) | (refine Rg4.w4_skip (Rg4.uw rfl rfl rfl) ?_; (try simp only [Rg4.nrm])) | (refine Rg4.w4_skip (Rg4.un rfl rfl rfl) ?_; (try simp only [Rg4.nrm])))
          iterate 2 (refine Rg4.w4_any (Rg4.want_none rfl) rfl ?_; apply Exists.intro; refine ⟨fun w' => ?_, ?_⟩; (focus (first | (go_simp; done) | (go_simp; first | rfl | (rw [if_neg] <;> first | rfl | omega) | (rw [if_pos] <;> first | rfl | omega)))); (try simp only [Rg4.nrm]))
          iterate 8 (first | (refine Rg4.w4_any (Rg4.wt rfl rfl rfl) rfl ?_; apply Exists.intro; refine ⟨fun w' => ?_, ?_⟩; (focus (first | (go_simp; done) | (go_simp; first | rfl | (rw [if_neg] <;> first | rfl | omega) | (rw [if_pos] <;> first | rfl | omega)))); (try simp only [Rg4.nrm])) | (refine Rg4.w4_skip (Rg4.uw rfl rfl rfl) ?_; (try simp only [Rg4.nrm])) | (refine Rg4.w4_skip (Rg4.un rfl rfl rfl) ?_; (try simp only [Rg4.nrm])))
          (first | (refine Rg4.w4_read (Rg4.wt rfl rfl rfl) rfl rfl ?_; apply Exists.intro; refine ⟨fun w' hw' hcl' => ?_, ?_⟩; focus (subst hw'; (focus (first | (go_simp; done) | (go_simp; first | rfl | (rw [if_neg] <;> first | rfl | omega) | (rw [if_pos] <;> first | rfl | omega))))); (try simp only [Rg4.nrm])) | (refine Rg4.w4_skip (Rg4.uw rfl rfl rfl) ?_; (try simp only [Rg4.nrm])) | (refine Rg4.w4_skip (Rg4.un rfl rfl rfl) ?_; (try simp only [Rg4.nrm])))
          (first | (refine Rg4.w4_any (Rg4.wt rfl rfl rfl) rfl ?_; apply Exists.intro; refine ⟨fun w' => ?_, ?_⟩; (focus (first | (go_simp; done) | (go_simp; first | rfl | (rw [if_neg] <;> first | rfl | omega) | (rw [if_pos] <;> first | rfl | omega)))); (try simp only [Rg4.nrm])) | (refine Rg4.w4_skip (Rg4.uw rfl rfl rfl) ?_; (try simp only [Rg4.nrm])) | (refine Rg4.w4_skip (Rg4.un rfl rfl rfl) ?_; (try simp only [Rg4.nrm])))
          (first | (refine Rg4.w4_read (Rg4.wt rfl rfl rfl) rfl rfl ?_; apply Exists.intro; refine ⟨fun w' hw' hcl' => ?_, ?_⟩; focus (subst hw'; (focus (first | (go_simp; done) | (go_simp; first | rfl | (rw [if_neg] <;> first | rfl | omega) | (rw [if_pos] <;> first | rfl | omega))))); (try simp only [Rg4.nrm])) | (refine Rg4.w4_skip (Rg4.uw rfl rfl rfl) ?_; (try simp only [Rg4.nrm])) | (refine Rg4.w4_skip (Rg4.un rfl rfl rfl) ?_; (try simp only [Rg4.nrm])))
          first | refine Rg4.w4_skip (Rg4.uw rfl rfl rfl) ?_ | refine Rg4.w4_skip (Rg4.un rfl rfl rfl) ?_
          (try simp only [Rg4.nrm])
          iterate 2 (first | (refine Rg4.w4_any (Rg4.wt rfl rfl rfl) rfl ?_; apply Exists.intro; refine ⟨fun w' => ?_, ?_⟩; (focus (first | (go_simp; done) | (go_simp; first | rfl | (rw [if_neg] <;> first | rfl | omega) | (rw [if_pos] <;> first | rfl | omega)))); (try simp only [Rg4.nrm])) | (refine Rg4.w4_skip (Rg4.uw rfl rfl rfl) ?_; (try simp only [Rg4.nrm])) | (refine Rg4.w4_skip (Rg4.un rfl rfl rfl) ?_; (try simp only [Rg4.nrm])))
          (refine Rg4.w4_any (Rg4.want_none rfl) rfl ?_; apply Exists.intro; refine ⟨fun w' => ?_, ?_⟩; (focus (first | (go_simp; done) | (go_simp; first | rfl | (rw [if_neg] <;> first | rfl | omega) | (rw [if_pos] <;> first | rfl | omega)))); (try simp only [Rg4.nrm]))
          refine Rg4.w4_nil (fun w' hw' hcl' _ => ?_); subst hw'; clear hcl'
          go_wp2_with fail
          go_ret
          exact ⟨by rw [HF.out]; rfl, st.ext0⟩
        | true =>
          by_cases h8 : n1 = 8
          · subst h8
            by_cases hlt : cc < 0
            · have HCL := Lib.hid hlt
              have hge : decide (cc ≥ 0) = false := by simpa using hlt
              clear hlt
              refine Rg4.wp_region4_eq #[0, 1, 3, 7, 15, 31, 63, 127, 255, 511, 1023, 2047, 4095, 8191, 16383, 16383, 49151, 131071, 262143, 524287, 16383, 1064959, 4194303, 8388607, 16777215, 33554431] [2, 22] [1, 6, 19, 21] (fun _ => True) [0, 1, 2, 3, 4, 5, 6, 7, 8, 9, 10, 11, 12, 13, 14, 15, 16, 17, 18, 19, 20, 21, 22, 23, 24, 25] (by kernel_rfl) (by kernel_rfl) (by kernel_rfl) (by kernel_rfl) (show Rg4.PB _ by repeat (first | with_reducible exact Rg4.pb_body | with_reducible exact Rg4.pb_bodyD rfl | with_reducible refine Rg4.pb_then ?_ | with_reducible refine Rg4.pb_inBlock ?_ | with_reducible refine Rg4.pb_noGoto ?_ | with_reducible assumption)) (trivial) ?_
              replace st := st.drew
              change Rg4.wp4 _ _ _ _ _ _ _ _ _ (World.drew _) _ _
              generalize World.drew _ = w at st ⊢
              (try clear hc); have hc := st.facts; (try simp only [nfl, nft, Nat.reduceAdd] at hc)
              (refine Rg4.w4_any (Rg4.want_none rfl) rfl ?_; apply Exists.intro; refine ⟨fun w' => ?_, ?_⟩; (focus (first | (go_simp; done) | (go_simp; first | rfl | (rw [if_neg] <;> first | rfl | omega) | (rw [if_pos] <;> first | rfl | omega)))); (try simp only [Rg4.nrm]))
              (refine Rg4.w4_read (Rg4.want_none rfl) rfl rfl ?_; apply Exists.intro; refine ⟨fun w' hw' hcl' => ?_, ?_⟩; focus (subst hw'; obtain ⟨p0, p1, p2, p3, p4, p5, p6, p7, p8, p9⟩ := HCY.out; replace p0 := st.oldCell (i := 0) get0 p0; replace p1 := st.oldCell (i := 0) get0 p1; replace p2 := st.oldCell (i := 0) get0 p2; replace p3 := st.oldCell (i := 0) get0 p3; replace p4 := st.oldCell (i := 0) get0 p4; replace p5 := st.oldCell (i := 0) get0 p5; replace p6 := st.oldCell (i := 0) get0 p6; replace p7 := st.oldCell (i := 0) get0 p7; replace p8 := st.oldCell (i := 0) get0 p8; (focus (first | (go_simp; done) | (go_simp; first | rfl | (rw [if_neg] <;> first | rfl | omega) | (rw [if_pos] <;> first | rfl | omega))))); (try simp only [Rg4.nrm]))
              refine Rg4.w4_bar (Rg4.want_none rfl) rfl (fun w' hw' hcl _ K hK => ?_)
              subst hw'
              go_wp2_with fail
              refine (HCR.out _).mono ?_
              rintro en w ⟨rfl, hx⟩
              replace st := st.ext hx
              clear hx
              (try clear hc); have hc := st.facts; (try simp only [nfl, nft, Nat.reduceAdd] at hc)
              refine hK _ _ ⟨trivial, ?_⟩
              clear hK
              (try simp only [Rg4.nrm])
              iterate 2 (refine Rg4.w4_any (Rg4.want_none rfl) rfl ?_; apply Exists.intro; refine ⟨fun w' => ?_, ?_⟩; (focus (first | (go_simp; done) | (go_simp; first | rfl | (rw [if_neg] <;> first | rfl | omega) | (rw [if_pos] <;> first | rfl | omega)))); (try simp only [Rg4.nrm]))
              (first | (refine Rg4.w4_any (Rg4.wt rfl rfl rfl) rfl ?_; apply Exists.intro; refine ⟨fun w' => ?_, ?_⟩; (focus (first | (go_simp; done) | (go_simp; first | rfl | (rw [if_neg] <;> first | rfl | omega) | (rw [if_pos] <;> first | rfl | omega)))); (try simp only [Rg4.nrm])) | (refine Rg4.w4_skip (Rg4.uw rfl rfl rfl) ?_; (try simp only [Rg4.nrm])) | (refine Rg4.w4_skip (Rg4.un rfl rfl rfl) ?_; (try simp only [Rg4.nrm])))
              (first | (refine Rg4.w4_read (Rg4.wt rfl rfl rfl) rfl rfl ?_; apply Exists.intro; refine ⟨fun w' hw' hcl' => ?_, ?_⟩; focus (subst hw'; obtain ⟨p0, p1, p2, p3, p4, p5, p6, p7, p8, p9⟩ := HCY.out; replace p0 := st.oldCell (i := 0) get0 p0; replace p1 := st.oldCell (i := 0) get0 p1; replace p2 := st.oldCell (i := 0) get0 p2; replace p3 := st.oldCell (i := 0) get0 p3; replace p4 := st.oldCell (i := 0) get0 p4; replace p5 := st.oldCell (i := 0) get0 p5; replace p6 := st.oldCell (i := 0) get0 p6; replace p7 := st.oldCell (i := 0) get0 p7; replace p8 := st.oldCell (i := 0) get0 p8; (focus (first | (go_simp; done) | (go_simp; first | rfl | (rw [if_neg] <;> first | rfl | omega) | (rw [if_pos] <;> first | rfl | omega))))); (try simp only [Rg4.nrm])) | (refine Rg4.w4_skip (Rg4.uw rfl rfl rfl) ?_; (try simp only [Rg4.nrm])) | (refine Rg4.w4_skip (Rg4.un rfl rfl rfl) ?_; (try simp only [Rg4.nrm])))
              iterate 2 (first | (refine Rg4.w4_any (Rg4.wt rfl rfl rfl) rfl ?_; apply Exists.intro; refine ⟨fun w' => ?_, ?_⟩; (focus (first | (go_simp; done) | (go_simp; first | rfl | (rw [if_neg] <;> first | rfl | omega) | (rw [if_pos] <;> first | rfl | omega)))); (try simp only [Rg4.nrm])) | (refine Rg4.w4_skip (Rg4.uw rfl rfl rfl) ?_; (try simp only [Rg4.nrm])) | (refine Rg4.w4_skip (Rg4.un rfl rfl rfl) ?_; (try simp only [Rg4.nrm])))
              iterate 2 (refine Rg4.w4_any (Rg4.want_none rfl) rfl ?_; apply Exists.intro; refine ⟨fun w' => ?_, ?_⟩; (focus (first | (go_simp; done) | (go_simp; first | rfl | (rw [if_neg] <;> first | rfl | omega) | (rw [if_pos] <;> first | rfl | omega)))); (try simp only [Rg4.nrm]))
              iterate 8 (first | (refine Rg4.w4_any (Rg4.wt rfl rfl rfl) rfl ?_; apply Exists.intro; refine ⟨fun w' => ?_, ?_⟩; (focus (first | (go_simp; done) | (go_simp; first | rfl | (rw [if_neg] <;> first | rfl | omega) | (rw [if_pos] <;> first | rfl | omega)))); (try simp only [Rg4.nrm])) | (refine Rg4.w4_skip (Rg4.uw rfl rfl rfl) ?_; (try simp only [Rg4.nrm])) | (refine Rg4.w4_skip (Rg4.un rfl rfl rfl) ?_; (try simp only [Rg4.nrm])))
              (first | (refine Rg4.w4_read (Rg4.wt rfl rfl rfl) rfl rfl ?_; apply Exists.intro; refine ⟨fun w' hw' hcl' => ?_, ?_⟩; focus (subst hw'; obtain ⟨p0, p1, p2, p3, p4, p5, p6, p7, p8, p9⟩ := HCY.out; replace p0 := st.oldCell (i := 0) get0 p0; replace p1 := st.oldCell (i := 0) get0 p1; replace p2 := st.oldCell (i := 0) get0 p2; replace p3 := st.oldCell (i := 0) get0 p3; replace p4 := st.oldCell (i := 0) get0 p4; replace p5 := st.oldCell (i := 0) get0 p5; replace p6 := st.oldCell (i := 0) get0 p6; replace p7 := st.oldCell (i := 0) get0 p7; replace p8 := st.oldCell (i := 0) get0 p8; (focus (first | (go_simp; done) | (go_simp; first | rfl | (rw [if_neg] <;> first | rfl | omega) | (rw [if_pos] <;> first | rfl | omega))))); (try simp only [Rg4.nrm])) | (refine Rg4.w4_skip (Rg4.uw rfl rfl rfl) ?_; (try simp only [Rg4.nrm])) | (refine Rg4.w4_skip (Rg4.un rfl rfl rfl) ?_; (try simp only [Rg4.nrm])))
              (first | (refine Rg4.w4_any (Rg4.wt rfl rfl rfl) rfl ?_; apply Exists.intro; refine ⟨fun w' => ?_, ?_⟩; (focus (first | (go_simp; done) | (go_simp; first | rfl | (rw [if_neg] <;> first | rfl | omega) | (rw [if_pos] <;> first | rfl | omega)))); (try simp only [Rg4.nrm])) | (refine Rg4.w4_skip (Rg4.uw rfl rfl rfl) ?_; (try simp only [Rg4.nrm])) | (refine Rg4.w4_skip (Rg4.un rfl rfl rfl) ?_; (try simp only [Rg4.nrm])))
              (first | (refine Rg4.w4_read (Rg4.wt rfl rfl rfl) rfl rfl ?_; apply Exists.intro; refine ⟨fun w' hw' hcl' => ?_, ?_⟩; focus (subst hw'; obtain ⟨p0, p1, p2, p3, p4, p5, p6, p7, p8, p9⟩ := HCY.out; replace p0 := st.oldCell (i := 0) get0 p0; replace p1 := st.oldCell (i := 0) get0 p1; replace p2 := st.oldCell (i := 0) get0 p2; replace p3 := st.oldCell (i := 0) get0 p3; replace p4 := st.oldCell (i := 0) get0 p4; replace p5 := st.oldCell (i := 0) get0 p5; replace p6 := st.oldCell (i := 0) get0 p6; replace p7 := st.oldCell (i := 0) get0 p7; replace p8 := st.oldCell (i := 0) get0 p8; (focus (first | (go_simp; done) | (go_simp; first | rfl | (rw [if_neg] <;> first | rfl | omega) | (rw [if_pos] <;> first | rfl | omega))))); (try simp only [Rg4.nrm])) | (refine Rg4.w4_skip (Rg4.uw rfl rfl rfl) ?_; (try simp only [Rg4.nrm])) | (refine Rg4.w4_skip (Rg4.un rfl rfl rfl) ?_; (try simp only [Rg4.nrm])))
              refine Rg4.w4_bar (Rg4.want_of 13 25 true rfl rfl rfl) rfl (fun w' hw' hcl _ K hK => ?_)
              subst hw'
              go_wp2_with fail
              refine (HCC.out _).mono ?_
              rintro en w ⟨rfl, hx⟩
              replace st := st.ext hx
              clear hx
              (try clear hc); have hc := st.facts; (try simp only [nfl, nft, Nat.reduceAdd] at hc)
              refine hK _ _ ⟨trivial, ?_⟩
              clear hK
              (try simp only [Rg4.nrm])
              iterate 2 (first | (refine Rg4.w4_any (Rg4.wt rfl rfl rfl) rfl ?_; apply Exists.intro; refine ⟨fun w' => ?_, ?_⟩; (focus (first | (go_simp; done) | (go_simp; first | rfl | (rw [if_neg] <;> first | rfl | omega) | (rw [if_pos] <;> first | rfl | omega)))); (try simp only [Rg4.nrm])) | (refine Rg4.w4_skip (Rg4.uw rfl rfl rfl) ?_; (try simp only [Rg4.nrm])) | (refine Rg4.w4_skip (Rg4.un rfl rfl rfl) ?_; (try simp only [Rg4.nrm])))
              (refine Rg4.w4_any (Rg4.want_none rfl) rfl ?_; apply Exists.intro; refine ⟨fun w' => ?_, ?_⟩; (focus (first | (go_simp; done) | (go_simp; first | rfl | (rw [if_neg] <;> first | rfl | omega) | (rw [if_pos] <;> first | rfl | omega)))); (try simp only [Rg4.nrm]))
              refine Rg4.w4_nil (fun w' hw' hcl' _ => ?_); subst hw'; clear hcl'
              have HF : Hid (∀ i, i < (j + 1) + 1 → shAt l i = true) := Lib.hid (fun i hi => by
                rcases Nat.lt_succ_iff_lt_or_eq.1 hi with z | z
                · exact HT.out i z
                · rw [z, HSA.out]; (try simp only [HCL.out]); (try simp))
              go_wp2_with fail
              have st' := st.keep [0] (by decide) (by simp)
              go_roundg (n - ((j + 1) + 1))
              case measure => omega
              case rel => exact ⟨(j + 1) + 1, by omega, by omega, by go_num, HF, by simpa [pick] using st'⟩
            · have HCL := Lib.hid hlt
              have hge : decide (cc ≥ 0) = true := by simp; omega
              clear hlt
              have HF : Hid (r = false) := Lib.hid (HBD.out (by rw [HSA.out]; simp only [HCL.out]; (try simp)))
              refine Rg4.wp_region4_eq #[0, 1, 3, 7, 15, 31, 63, 127, 255, 511, 1023, 2047, 4095, 8191, 16383, 16383, 49151, 131071, 262143, 524287, 16383, 1064959, 4194303, 8388607, 16777215, 33554431] [2, 22] [1, 6, 19, 21] (fun _ => True) [0, 1, 2, 3, 4, 5, 6, 7, 8, 9, 10, 11, 12, 13, 14, 15, 16, 17, 18, 19, 20, 21, 22, 23, 24, 25] (by kernel_rfl) (by kernel_rfl) (by kernel_rfl) (by kernel_rfl) (show Rg4.PB _ by repeat (first | with_reducible exact Rg4.pb_body | with_reducible exact Rg4.pb_bodyD rfl | with_reducible refine Rg4.pb_then ?_ | with_reducible refine Rg4.pb_inBlock ?_ | with_reducible refine Rg4.pb_noGoto ?_ | with_reducible assumption)) (trivial) ?_
              replace st := st.drew
              change Rg4.wp4 _ _ _ _ _ _ _ _ _ (World.drew _) _ _
              generalize World.drew _ = w at st ⊢
              (try clear hc); have hc := st.facts; (try simp only [nfl, nft, Nat.reduceAdd] at hc)
              (refine Rg4.w4_any (Rg4.want_none rfl) rfl ?_; apply Exists.intro; refine ⟨fun w' => ?_, ?_⟩; (focus (first | (go_simp; done) | (go_simp; first | rfl | (rw [if_neg] <;> first | rfl | omega) | (rw [if_pos] <;> first | rfl | omega)))); (try simp only [Rg4.nrm]))
              (refine Rg4.w4_read (Rg4.want_none rfl) rfl rfl ?_; apply Exists.intro; refine ⟨fun w' hw' hcl' => ?_, ?_⟩; focus (subst hw'; obtain ⟨p0, p1, p2, p3, p4, p5, p6, p7, p8, p9⟩ := HCY.out; replace p0 := st.oldCell (i := 0) get0 p0; replace p1 := st.oldCell (i := 0) get0 p1; replace p2 := st.oldCell (i := 0) get0 p2; replace p3 := st.oldCell (i := 0) get0 p3; replace p4 := st.oldCell (i := 0) get0 p4; replace p5 := st.oldCell (i := 0) get0 p5; replace p6 := st.oldCell (i := 0) get0 p6; replace p7 := st.oldCell (i := 0) get0 p7; replace p8 := st.oldCell (i := 0) get0 p8; (focus (first | (go_simp; done) | (go_simp; first | rfl | (rw [if_neg] <;> first | rfl | omega) | (rw [if_pos] <;> first | rfl | omega))))); (try simp only [Rg4.nrm]))
              refine Rg4.w4_bar (Rg4.want_none rfl) rfl (fun w' hw' hcl _ K hK => ?_)
              subst hw'
              go_wp2_with fail
              refine (HCR.out _).mono ?_
              rintro en w ⟨rfl, hx⟩
              replace st := st.ext hx
              clear hx
              (try clear hc); have hc := st.facts; (try simp only [nfl, nft, Nat.reduceAdd] at hc)
              refine hK _ _ ⟨trivial, ?_⟩
              clear hK
              (try simp only [Rg4.nrm])
              iterate 2 (refine Rg4.w4_any (Rg4.want_none rfl) rfl ?_; apply Exists.intro; refine ⟨fun w' => ?_, ?_⟩; (focus (first | (go_simp; done) | (go_simp; first | rfl | (rw [if_neg] <;> first | rfl | omega) | (rw [if_pos] <;> first | rfl | omega)))); (try simp only [Rg4.nrm]))
              (first | (refine Rg4.w4_any (Rg4.wt rfl rfl rfl) rfl ?_; apply Exists.intro; refine ⟨fun w' => ?_, ?_⟩; (focus (first | (go_simp; done) | (go_simp; first | rfl | (rw [if_neg] <;> first | rfl | omega) | (rw [if_pos] <;> first | rfl | omega)))); (try simp only [Rg4.nrm])) | (refine Rg4.w4_skip (Rg4.uw rfl rfl rfl) ?_; (try simp only [Rg4.nrm])) | (refine Rg4.w4_skip (Rg4.un rfl rfl rfl) ?_; (try simp only [Rg4.nrm])))
              (first | (refine Rg4.w4_read (Rg4.wt rfl rfl rfl) rfl rfl ?_; apply Exists.intro; refine ⟨fun w' hw' hcl' => ?_, ?_⟩; focus (subst hw'; obtain ⟨p0, p1, p2, p3, p4, p5, p6, p7, p8, p9⟩ := HCY.out; replace p0 := st.oldCell (i := 0) get0 p0; replace p1 := st.oldCell (i := 0) get0 p1; replace p2 := st.oldCell (i := 0) get0 p2; replace p3 := st.oldCell (i := 0) get0 p3; replace p4 := st.oldCell (i := 0) get0 p4; replace p5 := st.oldCell (i := 0) get0 p5; replace p6 := st.oldCell (i := 0) get0 p6; replace p7 := st.oldCell (i := 0) get0 p7; replace p8 := st.oldCell (i := 0) get0 p8; (focus (first | (go_simp; done) | (go_simp; first | rfl | (rw [if_neg] <;> first | rfl | omega) | (rw [if_pos] <;> first | rfl | omega))))); (try simp only [Rg4.nrm])) | (refine Rg4.w4_skip (Rg4.uw rfl rfl rfl) ?_; (try simp only [Rg4.nrm])) | (refine Rg4.w4_skip (Rg4.un rfl rfl rfl) ?_; (try simp only [Rg4.nrm])))
              iterate 2 (first | (refine Rg4.w4_any (Rg4.wt rfl rfl rfl) rfl ?_; apply Exists.intro; refine ⟨fun w' => ?_, ?_⟩; (focus (first | (go_simp; done) | (go_simp; first | rfl | (rw [if_neg] <;> first | rfl | omega) | (rw [if_pos] <;> first | rfl | omega)))); (try simp only [Rg4.nrm])) | (refine Rg4.w4_skip (Rg4.uw rfl rfl rfl) ?_; (try simp only [Rg4.nrm])) | (refine Rg4.w4_skip (Rg4.un rfl rfl rfl) ?_; (try simp only [Rg4.nrm])))
              iterate 2 (refine Rg4.w4_any (Rg4.want_none rfl) rfl ?_; apply Exists.intro; refine ⟨fun w' => ?_, ?_⟩; (focus (first | (go_simp; done) | (go_simp; first | rfl | (rw [if_neg] <;> first | rfl | omega) | (rw [if_pos] <;> first | rfl | omega)))); (try simp only [Rg4.nrm]))
              iterate 8 (first | (refine Rg4.w4_any (Rg4.wt rfl rfl rfl) rfl ?_; apply Exists.intro; refine ⟨fun w' => ?_, ?_⟩; (focus (first | (go_simp; done) | (go_simp; first | rfl | (rw [if_neg] <;> first | rfl | omega) | (rw [if_pos] <;> first | rfl | omega)))); (try simp only [Rg4.nrm])) | (refine Rg4.w4_skip (Rg4.uw rfl rfl rfl) ?_; (try simp only [Rg4.nrm])) | (refine Rg4.w4_skip (Rg4.un rfl rfl rfl) ?_; (try simp only [Rg4.nrm])))
              (first | (refine Rg4.w4_read (Rg4.wt rfl rfl rfl) rfl rfl ?_; apply Exists.intro; refine ⟨fun w' hw' hcl' => ?_, ?_⟩; focus (subst hw'; obtain ⟨p0, p1, p2, p3, p4, p5, p6, p7, p8, p9⟩ := HCY.out; replace p0 := st.oldCell (i := 0) get0 p0; replace p1 := st.oldCell (i := 0) get0 p1; replace p2 := st.oldCell (i := 0) get0 p2; replace p3 := st.oldCell (i := 0) get0 p3; replace p4 := st.oldCell (i := 0) get0 p4; replace p5 := st.oldCell (i := 0) get0 p5; replace p6 := st.oldCell (i := 0) get0 p6; replace p7 := st.oldCell (i := 0) get0 p7; replace p8 := st.oldCell (i := 0) get0 p8; (focus (first | (go_simp; done) | (go_simp; first | rfl | (rw [if_neg] <;> first | rfl | omega) | (rw [if_pos] <;> first | rfl | omega))))); (try simp only [Rg4.nrm])) | (refine Rg4.w4_skip (Rg4.uw rfl rfl rfl) ?_; (try simp only [Rg4.nrm])) | (refine Rg4.w4_skip (Rg4.un rfl rfl rfl) ?_; (try simp only [Rg4.nrm])))
              (first | (refine Rg4.w4_any (Rg4.wt rfl rfl rfl) rfl ?_; apply Exists.intro; refine ⟨fun w' => ?_, ?_⟩; (focus (first | (go_simp; done) | (go_simp; first | rfl | (rw [if_neg] <;> first | rfl | omega) | (rw [if_pos] <;> first | rfl | omega)))); (try simp only [Rg4.nrm])) | (refine Rg4.w4_skip (Rg4.uw rfl rfl rfl) ?_; (try simp only [Rg4.nrm])) | (refine Rg4.w4_skip (Rg4.un rfl rfl rfl) ?_; (try simp only [Rg4.nrm])))
              (first | (refine Rg4.w4_read (Rg4.wt rfl rfl rfl) rfl rfl ?_; apply Exists.intro; refine ⟨fun w' hw' hcl' => ?_, ?_⟩; focus (subst hw'; obtain ⟨p0, p1, p2, p3, p4, p5, p6, p7, p8, p9⟩ := HCY.out; replace p0 := st.oldCell (i := 0) get0 p0; replace p1 := st.oldCell (i := 0) get0 p1; replace p2 := st.oldCell (i := 0) get0 p2; replace p3 := st.oldCell (i := 0) get0 p3; replace p4 := st.oldCell (i := 0) get0 p4; replace p5 := st.oldCell (i := 0) get0 p5; replace p6 := st.oldCell (i := 0) get0 p6; replace p7 := st.oldCell (i := 0) get0 p7; replace p8 := st.oldCell (i := 0) get0 p8; (focus (first | (go_simp; done) | (go_simp; first | rfl | (rw [if_neg] <;> first | rfl | omega) | (rw [if_pos] <;> first | rfl | omega))))); (try simp only [Rg4.nrm])) | (refine Rg4.w4_skip (Rg4.uw rfl rfl rfl) ?_; (try simp only [Rg4.nrm])) | (refine Rg4.w4_skip (Rg4.un rfl rfl rfl) ?_; (try simp only [Rg4.nrm])))
              refine Rg4.w4_bar (Rg4.want_of 13 25 true rfl rfl rfl) rfl (fun w' hw' hcl _ K hK => ?_)
              subst hw'
              go_wp2_with fail
              refine (HCC.out _).mono ?_
              rintro en w ⟨rfl, hx⟩
              replace st := st.ext hx
              clear hx
              (try clear hc); have hc := st.facts; (try simp only [nfl, nft, Nat.reduceAdd] at hc)
              refine hK _ _ ⟨trivial, ?_⟩
              clear hK
              (try simp only [Rg4.nrm])
              iterate 2 (first | (refine Rg4.w4_any (Rg4.wt rfl rfl rfl) rfl ?_; apply Exists.intro; refine ⟨fun w' => ?_, ?_⟩; (focus (first | (go_simp; done) | (go_simp; first | rfl | (rw [if_neg] <;> first | rfl | omega) | (rw [if_pos] <;> first | rfl | omega)))); (try simp only [Rg4.nrm])) | (refine Rg4.w4_skip (Rg4.uw rfl rfl rfl) ?_; (try simp only [Rg4.nrm])) | (refine Rg4.w4_skip (Rg4.un rfl rfl rfl) ?_; (try simp only [Rg4.nrm])))
              (refine Rg4.w4_any (Rg4.want_none rfl) rfl ?_; apply Exists.intro; refine ⟨fun w' => ?_, ?_⟩; (focus (first | (go_simp; done) | (go_simp; first | rfl | (rw [if_neg] <;> first | rfl | omega) | (rw [if_pos] <;> first | rfl | omega)))); (try simp only [Rg4.nrm]))
              refine Rg4.w4_nil (fun w' hw' hcl' _ => ?_); subst hw'; clear hcl'
              go_wp2_with fail
              go_ret
              exact ⟨by rw [HF.out]; rfl, st.ext0⟩
          · have h8b : ((n1 : Int) != 8) = true := by simpa using (by omega : (n1 : Int) ≠ 8)
            have h8c : (n1 == 8) = false := by simpa using h8
            have H8 := Lib.hid h8c
            clear h8 h8c
            have HF : Hid (r = false) := Lib.hid (HBD.out (by rw [HSA.out]; simp only [H8.out]; (try simp)))
            refine Rg4.wp_region4_eq #[0, 1, 3, 7, 15, 31, 63, 127, 255, 511, 1023, 2047, 4095, 8191, 16383, 16383, 49151, 131071, 262143, 524287, 16383, 1064959, 4194303, 8388607, 16777215, 33554431] [2, 22] [1, 6, 19, 21] (fun _ => True) [0, 1, 2, 3, 4, 5, 6, 7, 8, 9, 10, 11, 12, 13, 14, 15, 16, 17, 18, 19, 20, 21, 22, 23, 24, 25] (by kernel_rfl) (by kernel_rfl) (by kernel_rfl) (by kernel_rfl) (show Rg4.PB _ by repeat (first | with_reducible exact Rg4.pb_body | with_reducible exact Rg4.pb_bodyD rfl | with_reducible refine Rg4.pb_then ?_ | with_reducible refine Rg4.pb_inBlock ?_ | with_reducible refine Rg4.pb_noGoto ?_ | with_reducible assumption)) (trivial) ?_
            replace st := st.drew
            change Rg4.wp4 _ _ _ _ _ _ _ _ _ (World.drew _) _ _
            generalize World.drew _ = w at st ⊢
            (try clear hc); have hc := st.facts; (try simp only [nfl, nft, Nat.reduceAdd] at hc)
            (refine Rg4.w4_any (Rg4.want_none rfl) rfl ?_; apply Exists.intro; refine ⟨fun w' => ?_, ?_⟩; (focus (first | (go_simp; done) | (go_simp; first | rfl | (rw [if_neg] <;> first | rfl | omega) | (rw [if_pos] <;> first | rfl | omega)))); (try simp only [Rg4.nrm]))
            (refine Rg4.w4_read (Rg4.want_none rfl) rfl rfl ?_; apply Exists.intro; refine ⟨fun w' hw' hcl' => ?_, ?_⟩; focus (subst hw'; (focus (first | (go_simp; done) | (go_simp; first | rfl | (rw [if_neg] <;> first | rfl | omega) | (rw [if_pos] <;> first | rfl | omega))))); (try simp only [Rg4.nrm]))
            refine Rg4.w4_bar (Rg4.want_none rfl) rfl (fun w' hw' hcl _ K hK => ?_)
            subst hw'
            go_wp2_with fail
            refine (HCR.out _).mono ?_
            rintro en w ⟨rfl, hx⟩
            replace st := st.ext hx
            clear hx
            (try clear hc); have hc := st.facts; (try simp only [nfl, nft, Nat.reduceAdd] at hc)
            refine hK _ _ ⟨trivial, ?_⟩
            clear hK
            (try simp only [Rg4.nrm])
            iterate 2 (refine Rg4.w4_any (Rg4.want_none rfl) rfl ?_; apply Exists.intro; refine ⟨fun w' => ?_, ?_⟩; (focus (first | (go_simp; done) | (go_simp; first | rfl | (rw [if_neg] <;> first | rfl | omega) | (rw [if_pos] <;> first | rfl | omega)))); (try simp only [Rg4.nrm]))
            (first | (refine Rg4.w4_any (Rg4.wt rfl rfl rfl) rfl ?_; apply Exists.intro; refine ⟨fun w' => ?_, ?_⟩; (focus (first | (go_simp; done) | (go_simp; first | rfl | (rw [if_neg] <;> first | rfl | omega) | (rw [if_pos] <;> first | rfl | omega)))); (try simp only [Rg4.nrm])) | (refine Rg4.w4_skip (Rg4.uw rfl rfl rfl) ?_; (try simp only [Rg4.nrm])) | (refine Rg4.w4_skip (Rg4.un rfl rfl rfl) ?_; (try simp only [Rg4.nrm])))
            (first | (refine Rg4.w4_read (Rg4.wt rfl rfl rfl) rfl rfl ?_; apply Exists.intro; refine ⟨fun w' hw' hcl' => ?_, ?_⟩; focus (subst hw'; (focus (first | (go_simp; done) | (go_simp; first | rfl | (rw [if_neg] <;> first | rfl | omega) | (rw [if_pos] <;> first | rfl | omega))))); (try simp only [Rg4.nrm])) | (refine Rg4.w4_skip (Rg4.uw rfl rfl rfl) ?_; (try simp only [Rg4.nrm])) | (refine Rg4.w4_skip (Rg4.un rfl rfl rfl) ?_; (try simp only [Rg4.nrm])))
            iterate 2 (first | (refine Rg4.w4_any (Rg4.wt rfl rfl rfl) rfl ?_; apply Exists.intro; refine ⟨fun w' => ?_, ?_⟩; (focus (first | (go_simp; done) | (go_simp; first | rfl | (rw [if_neg] <;> first | rfl | omega) | (rw [if_pos] <;> first | rfl | omega)))); (try simp only [Rg4.nrm])) | (refine Rg4.w4_skip (Rg4.uw rfl rfl rfl) ?_; (try simp only [Rg4.nrm])) | (refine Rg4.w4_skip (Rg4.un rfl rfl rfl) ?_; (try simp only [Rg4.nrm])))
            iterate 2 (refine Rg4.w4_any (Rg4.want_none rfl) rfl ?_; apply Exists.intro; refine ⟨fun w' => ?_, ?_⟩; (focus (first | (go_simp; done) | (go_simp; first | rfl | (rw [if_neg] <;> first | rfl | omega) | (rw [if_pos] <;> first | rfl | omega)))); (try simp only [Rg4.nrm]))
            iterate 8 (first | (refine Rg4.w4_any (Rg4.wt rfl rfl rfl) rfl ?_; apply Exists.intro; refine ⟨fun w' => ?_, ?_⟩; (focus (first | (go_simp; done) | (go_simp; first | rfl | (rw [if_neg] <;> first | rfl | omega) | (rw [if_pos] <;> first | rfl | omega)))); (try simp only [Rg4.nrm])) | (refine Rg4.w4_skip (Rg4.uw rfl rfl rfl) ?_; (try simp only [Rg4.nrm])) | (refine Rg4.w4_skip (Rg4.un rfl rfl rfl) ?_; (try simp only [Rg4.nrm])))
            (first | (refine Rg4.w4_read (Rg4.wt rfl rfl rfl) rfl rfl ?_; apply Exists.intro; refine ⟨fun w' hw' hcl' => ?_, ?_⟩; focus (subst hw'; (focus (first | (go_simp; done) | (go_simp; first | rfl | (rw [if_neg] <;> first | rfl | omega) | (rw [if_pos] <;> first | rfl | omega))))); (try simp only [Rg4.nrm])) | (refine Rg4.w4_skip (Rg4.uw rfl rfl rfl) ?_; (try simp only [Rg4.nrm])) | (refine Rg4.w4_skip (Rg4.un rfl rfl rfl) ?_; (try simp only [Rg4.nrm])))
            (first | (refine Rg4.w4_any (Rg4.wt rfl rfl rfl) rfl ?_; apply Exists.intro; refine ⟨fun w' => ?_, ?_⟩; (focus (first | (go_simp; done) | (go_simp; first | rfl | (rw [if_neg] <;> first | rfl | omega) | (rw [if_pos] <;> first | rfl | omega)))); (try simp only [Rg4.nrm])) | (refine Rg4.w4_skip (Rg4.uw rfl rfl rfl) ?_; (try simp only [Rg4.nrm])) | (refine Rg4.w4_skip (Rg4.un rfl rfl rfl) ?_; (try simp only [Rg4.nrm])))
            (first | (refine Rg4.w4_read (Rg4.wt rfl rfl rfl) rfl rfl ?_; apply Exists.intro; refine ⟨fun w' hw' hcl' => ?_, ?_⟩; focus (subst hw'; (focus (first | (go_simp; done) | (go_simp; first | rfl | (rw [if_neg] <;> first | rfl | omega) | (rw [if_pos] <;> first | rfl | omega))))); (try simp only [Rg4.nrm])) | (refine Rg4.w4_skip (Rg4.uw rfl rfl rfl) ?_; (try simp only [Rg4.nrm])) | (refine Rg4.w4_skip (Rg4.un rfl rfl rfl) ?_; (try simp only [Rg4.nrm])))
            first | refine Rg4.w4_skip (Rg4.uw rfl rfl rfl) ?_ | refine Rg4.w4_skip (Rg4.un rfl rfl rfl) ?_
            (try simp only [Rg4.nrm])
            iterate 2 (first | (refine Rg4.w4_any (Rg4.wt rfl rfl rfl) rfl ?_; apply Exists.intro; refine ⟨fun w' => ?_, ?_⟩; (focus (first | (go_simp; done) | (go_simp; first | rfl | (rw [if_neg] <;> first | rfl | omega) | (rw [if_pos] <;> first | rfl | omega)))); (try simp only [Rg4.nrm])) | (refine Rg4.w4_skip (Rg4.uw rfl rfl rfl) ?_; (try simp only [Rg4.nrm])) | (refine Rg4.w4_skip (Rg4.un rfl rfl rfl) ?_; (try simp only [Rg4.nrm])))
            (refine Rg4.w4_any (Rg4.want_none rfl) rfl ?_; apply Exists.intro; refine ⟨fun w' => ?_, ?_⟩; (focus (first | (go_simp; done) | (go_simp; first | rfl | (rw [if_neg] <;> first | rfl | omega) | (rw [if_pos] <;> first | rfl | omega)))); (try simp only [Rg4.nrm]))
            refine Rg4.w4_nil (fun w' hw' hcl' _ => ?_); subst hw'; clear hcl'
            go_wp2_with fail
            go_ret
            exact ⟨by rw [HF.out]; rfl, st.ext0⟩
    · obtain rfl : j = n := by omega
      have HF : Hid (r = decide (l.length ≤ 8)) := Lib.hid (by rw [← HR.out]; exact showsR_all fun i hi => HT.out i (by have := HNL.out; omega))
      by_cases h8 : j ≤ 8
      · have HG : Hid (r = true) := Lib.hid (by rw [HF.out]; exact decide_eq_true (by have := HNL.out; omega))
        go_wp2_with fail
        go_ret
        exact ⟨by rw [HG.out]; show Ending.returned (Value.bool (decide ((j : Int) ≤ 8))) = _; rw [decide_eq_true (by omega)], st.ext0⟩
      · have HG : Hid (r = false) := Lib.hid (by rw [HF.out]; exact decide_eq_false (by have := HNL.out; omega))
        go_wp2_with fail
        go_ret
        exact ⟨by rw [HG.out]; show Ending.returned (Value.bool (decide ((j : Int) ≤ 8))) = _; rw [decide_eq_false (by omega)], st.ext0⟩
end Go.Proofs.Ytmlhilgdjedeoaa

namespace Go.Proofs.Ytmlhilgdjedeoaa
set_option linter.unusedSimpArgs false
set_option linter.unusedVariables false
open Go Go.RowKit
def kindR (x : MsgT) : Bool :=
  if x.k = 1 then nameR x.nm && (decide (x.p = 1) || decide (x.p = 2))
  else if x.k = 2 then wantsR x.ws && showsR x.ss
  else if x.k = 5 then decide (1 ≤ x.e) && decide (x.e ≤ 99)
  else decide (x.k = 3) || decide (x.k = 4)
/-- Which messages are right. -/
def mgR (x : MsgT) : Bool := sameMg (bareMg x) x && kindR x
set_option maxRecDepth 100000 in
set_option maxHeartbeats 8000000 in
theorem msgRight_any (x : MsgT) (W : World) (hx : MgOk W x) (lx : MgL x) : Calls Try.prog 13 #[mgV x] W fun e w' => e = .returned (.bool (mgR x)) ∧ Ext W w' := by
  have HX := Lib.hid hx
  have HB := Lib.hid (fun W' => bare_any x W')
  have HS := Lib.hid (fun W' (hw : Ext W W') => msgSame_any (bareMg x) x W' (bareMg_ok (hx.ext hw)) (hx.ext hw) (bareMg_L lx) lx)
  have HN := Lib.hid (fun W' => right_any x.nm W' lx.2.2.1)
  have HW := Lib.hid (fun W' h => wants_any x.wa x.wn x.wc x.ws W' h lx.1 lx.2.2.2.1)
  have HH := Lib.hid (fun W' h => shows_any x.sa x.sn x.sc x.ss W' h lx.2.1 lx.2.2.2.2)
  obtain ⟨r, hr⟩ : ∃ r, mgR x = r := ⟨_, rfl⟩
  obtain ⟨bv, hbv⟩ : ∃ b, mgV (bareMg x) = b := ⟨_, rfl⟩
  obtain ⟨sm, hsm⟩ : ∃ b, sameMg (bareMg x) x = b := ⟨_, rfl⟩
  obtain ⟨nr, hnr⟩ : ∃ b, nameR x.nm = b := ⟨_, rfl⟩
  obtain ⟨wr, hwr⟩ : ∃ b, wantsR x.ws = b := ⟨_, rfl⟩
  obtain ⟨sr, hsr⟩ : ∃ b, showsR x.ss = b := ⟨_, rfl⟩
  have HR : Hid (r = (sm && (if x.k = 1 then nr && (decide (x.p = 1) || decide (x.p = 2)) else if x.k = 2 then wr && sr else if x.k = 5 then decide (1 ≤ x.e) && decide (x.e ≤ 99) else decide (x.k = 3) || decide (x.k = 4)))) := Lib.hid (by rw [← hr, ← hsm, ← hnr, ← hwr, ← hsr]; rfl)
  rw [hbv] at HB HS
  rw [hsm] at HS
  rw [hnr] at HN
  rw [hwr] at HW
  rw [hsr] at HH
  rw [hr]
  clear hr hbv hsm hnr hwr hsr lx hx
  obtain ⟨k, p, e, nm, wa, wn, wc, ws, sa, sn, sc, ss⟩ := x
  simp only at HR HN HW HH HX
  have st := Own.startOld W
  unfold mgV S at HS
  unfold S at HN
  unfold mgV S
  (try simp only [nsl, Value.cells, unB] at st)
  (try clear hc); have hc := st.facts; (try simp only [nfl, nft, Nat.reduceAdd] at hc)
  cases sm with
  | false =>
    have H1 : Hid (r = false) := Lib.hid (by rw [HR.out]; rfl)
    go_enter Try.func13, Try.ntmps13
    go_wp2_with ((((with_reducible refine wl_box ?_ (fun K hK => ?_)); rfl; refine owp_box (o := ⟨some 1, _, _, _, _, _⟩) rfl st ?_; apply Exists.intro; refine ⟨?_, ?_⟩; (focus (go_simp; try rfl)); (clear st; intro b1 w hb st; clear hb))); (try simp only [nsl, Value.cells, unB] at st); (try clear hc); have hc := st.facts; (try simp only [nfl, nft, Nat.reduceAdd] at hc))
    refine Rg4.wp_region4 (Rel := Ext) #[0, 1, 0, 7, 15]
      [(1, .val (bv))] [3] [0, 2] (fun _ => True) [0, 1, 2, 3, 4] (by kernel_rfl) (by kernel_rfl) (by kernel_rfl) (by kernel_rfl) Ext.refl (fun _ _ _ => Ext.trans) (show Rg4.PB _ by repeat (first | with_reducible exact Rg4.pb_body | with_reducible exact Rg4.pb_bodyD rfl | with_reducible refine Rg4.pb_then ?_ | with_reducible refine Rg4.pb_inBlock ?_ | with_reducible refine Rg4.pb_noGoto ?_ | with_reducible assumption)) (trivial) ?_
    replace st := st.drew
    change Rg4.wp4 _ _ _ _ _ _ _ _ _ (World.drew _) _ _
    generalize World.drew _ = w at st ⊢
    (try clear hc); have hc := st.facts; (try simp only [nfl, nft, Nat.reduceAdd] at hc)
    (refine Rg4.w4_read (Rg4.want_none rfl) rfl rfl ?_; apply Exists.intro; refine ⟨fun w' hw' hcl' => ?_, ?_⟩; focus (have st' := st.ext hw'; have hc' := st'.facts; (try simp only [nfl, nft, Nat.reduceAdd] at hc'); (focus (first | (go_simp; done) | (go_simp; first | rfl | (rw [if_neg] <;> first | rfl | omega) | (rw [if_pos] <;> first | rfl | omega))))); (try simp only [Rg4.nrm]))
    refine Rg4.w4_some (Rg4.want_none rfl) rfl (fun w' hw' hcl' _ => ?_) ?_
    · refine Rg.relAt_call (by go_simp; exact ⟨rfl, rfl⟩) ?_
      refine (HB.out _).mono ?_
      rintro en w'' ⟨rfl, hx⟩
      exact ⟨_, rfl, hx, trivial, rfl⟩
    rintro v ⟨_, _, _, rfl⟩
    (try simp only [Rg4.nrm])
    (refine Rg4.w4_read (Rg4.want_none rfl) rfl rfl ?_; apply Exists.intro; refine ⟨fun w' hw' hcl' => ?_, ?_⟩; focus (have st' := st.ext hw'; have hc' := st'.facts; (try simp only [nfl, nft, Nat.reduceAdd] at hc'); (focus (first | (go_simp; done) | (go_simp; first | rfl | (rw [if_neg] <;> first | rfl | omega) | (rw [if_pos] <;> first | rfl | omega))))); (try simp only [Rg4.nrm]))
    refine Rg4.w4_bar (Rg4.want_none rfl) rfl (fun w' hw' hcl _ K hK => ?_)
    replace st := st.ext hw'
    clear hw'
    (try clear hc); have hc := st.facts; (try simp only [nfl, nft, Nat.reduceAdd] at hc)
    go_wp2_with fail
    refine (HS.out _ st.ext0).mono ?_
    rintro en w ⟨rfl, hx⟩
    replace st := st.ext hx
    clear hx
    (try clear hc); have hc := st.facts; (try simp only [nfl, nft, Nat.reduceAdd] at hc)
    refine hK _ _ ⟨trivial, ?_⟩
    clear hK
    (try simp only [Rg4.nrm])
    (refine Rg4.w4_any (Rg4.want_none rfl) rfl ?_; apply Exists.intro; refine ⟨fun w' => ?_, ?_⟩; (focus (first | (go_simp; done) | (go_simp; first | rfl | (rw [if_neg] <;> first | rfl | omega) | (rw [if_pos] <;> first | rfl | omega)))); (try simp only [Rg4.nrm]))
    refine Rg4.w4_nil (fun w' hw' hcl' _ => ?_); replace st := st.ext hw'; clear hw' hcl'; (try clear hc); have hc := st.facts; (try simp only [nfl, nft, Nat.reduceAdd] at hc)
    go_wp2_with fail
    go_ret
    exact ⟨by rw [H1.out]; rfl, st.ext0⟩
  | true =>
    by_cases k1 : k = 1
    · subst k1
      cases nr with
      | false =>
        have H1 : Hid (r = false) := Lib.hid (by rw [HR.out]; rfl)
        go_enter Try.func13, Try.ntmps13
        go_wp2_with ((((with_reducible refine wl_box ?_ (fun K hK => ?_)); rfl; refine owp_box (o := ⟨some 1, _, _, _, _, _⟩) rfl st ?_; apply Exists.intro; refine ⟨?_, ?_⟩; (focus (go_simp; try rfl)); (clear st; intro b1 w hb st; clear hb))); (try simp only [nsl, Value.cells, unB] at st); (try clear hc); have hc := st.facts; (try simp only [nfl, nft, Nat.reduceAdd] at hc))
        refine Rg4.wp_region4 (Rel := Ext) #[0, 1, 0, 7, 15]
          [(1, .val (bv))] [3] [0, 2] (fun _ => True) [0, 1, 2, 3, 4] (by kernel_rfl) (by kernel_rfl) (by kernel_rfl) (by kernel_rfl) Ext.refl (fun _ _ _ => Ext.trans) (show Rg4.PB _ by repeat (first | with_reducible exact Rg4.pb_body | with_reducible exact Rg4.pb_bodyD rfl | with_reducible refine Rg4.pb_then ?_ | with_reducible refine Rg4.pb_inBlock ?_ | with_reducible refine Rg4.pb_noGoto ?_ | with_reducible assumption)) (trivial) ?_
        replace st := st.drew
        change Rg4.wp4 _ _ _ _ _ _ _ _ _ (World.drew _) _ _
        generalize World.drew _ = w at st ⊢
        (try clear hc); have hc := st.facts; (try simp only [nfl, nft, Nat.reduceAdd] at hc)
        (refine Rg4.w4_read (Rg4.want_none rfl) rfl rfl ?_; apply Exists.intro; refine ⟨fun w' hw' hcl' => ?_, ?_⟩; focus (have st' := st.ext hw'; have hc' := st'.facts; (try simp only [nfl, nft, Nat.reduceAdd] at hc'); (focus (first | (go_simp; done) | (go_simp; first | rfl | (rw [if_neg] <;> first | rfl | omega) | (rw [if_pos] <;> first | rfl | omega))))); (try simp only [Rg4.nrm]))
        refine Rg4.w4_some (Rg4.want_none rfl) rfl (fun w' hw' hcl' _ => ?_) ?_
        · refine Rg.relAt_call (by go_simp; exact ⟨rfl, rfl⟩) ?_
          refine (HB.out _).mono ?_
          rintro en w'' ⟨rfl, hx⟩
          exact ⟨_, rfl, hx, trivial, rfl⟩
        rintro v ⟨_, _, _, rfl⟩
        (try simp only [Rg4.nrm])
        (refine Rg4.w4_read (Rg4.want_none rfl) rfl rfl ?_; apply Exists.intro; refine ⟨fun w' hw' hcl' => ?_, ?_⟩; focus (have st' := st.ext hw'; have hc' := st'.facts; (try simp only [nfl, nft, Nat.reduceAdd] at hc'); (focus (first | (go_simp; done) | (go_simp; first | rfl | (rw [if_neg] <;> first | rfl | omega) | (rw [if_pos] <;> first | rfl | omega))))); (try simp only [Rg4.nrm]))
        refine Rg4.w4_bar (Rg4.want_none rfl) rfl (fun w' hw' hcl _ K hK => ?_)
        replace st := st.ext hw'
        clear hw'
        (try clear hc); have hc := st.facts; (try simp only [nfl, nft, Nat.reduceAdd] at hc)
        go_wp2_with fail
        refine (HS.out _ st.ext0).mono ?_
        rintro en w ⟨rfl, hx⟩
        replace st := st.ext hx
        clear hx
        (try clear hc); have hc := st.facts; (try simp only [nfl, nft, Nat.reduceAdd] at hc)
        refine hK _ _ ⟨trivial, ?_⟩
        clear hK
        (try simp only [Rg4.nrm])
        (refine Rg4.w4_any (Rg4.want_none rfl) rfl ?_; apply Exists.intro; refine ⟨fun w' => ?_, ?_⟩; (focus (first | (go_simp; done) | (go_simp; first | rfl | (rw [if_neg] <;> first | rfl | omega) | (rw [if_pos] <;> first | rfl | omega)))); (try simp only [Rg4.nrm]))
        refine Rg4.w4_nil (fun w' hw' hcl' _ => ?_); replace st := st.ext hw'; clear hw' hcl'; (try clear hc); have hc := st.facts; (try simp only [nfl, nft, Nat.reduceAdd] at hc)
        go_wp2_with fail
        refine (HN.out _).mono ?_
        rintro en w ⟨rfl, hx⟩
        replace st := st.ext hx
        clear hx
        (try clear hc); have hc := st.facts; (try simp only [nfl, nft, Nat.reduceAdd] at hc)
        go_wp2_with fail
        go_ret
        exact ⟨by rw [H1.out]; rfl, st.ext0⟩
      | true =>
        by_cases p1 : p = 1
        · subst p1
          have H1 : Hid (r = true) := Lib.hid (by rw [HR.out]; rfl)
          go_enter Try.func13, Try.ntmps13
          go_wp2_with ((((with_reducible refine wl_box ?_ (fun K hK => ?_)); rfl; refine owp_box (o := ⟨some 1, _, _, _, _, _⟩) rfl st ?_; apply Exists.intro; refine ⟨?_, ?_⟩; (focus (go_simp; try rfl)); (clear st; intro b1 w hb st; clear hb))); (try simp only [nsl, Value.cells, unB] at st); (try clear hc); have hc := st.facts; (try simp only [nfl, nft, Nat.reduceAdd] at hc))
          refine Rg4.wp_region4 (Rel := Ext) #[0, 1, 0, 7, 15]
            [(1, .val (bv))] [3] [0, 2] (fun _ => True) [0, 1, 2, 3, 4] (by kernel_rfl) (by kernel_rfl) (by kernel_rfl) (by kernel_rfl) Ext.refl (fun _ _ _ => Ext.trans) (show Rg4.PB _ by repeat (first | with_reducible exact Rg4.pb_body | with_reducible exact Rg4.pb_bodyD rfl | with_reducible refine Rg4.pb_then ?_ | with_reducible refine Rg4.pb_inBlock ?_ | with_reducible refine Rg4.pb_noGoto ?_ | with_reducible assumption)) (trivial) ?_
          replace st := st.drew
          change Rg4.wp4 _ _ _ _ _ _ _ _ _ (World.drew _) _ _
          generalize World.drew _ = w at st ⊢
          (try clear hc); have hc := st.facts; (try simp only [nfl, nft, Nat.reduceAdd] at hc)
          (refine Rg4.w4_read (Rg4.want_none rfl) rfl rfl ?_; apply Exists.intro; refine ⟨fun w' hw' hcl' => ?_, ?_⟩; focus (have st' := st.ext hw'; have hc' := st'.facts; (try simp only [nfl, nft, Nat.reduceAdd] at hc'); (focus (first | (go_simp; done) | (go_simp; first | rfl | (rw [if_neg] <;> first | rfl | omega) | (rw [if_pos] <;> first | rfl | omega))))); (try simp only [Rg4.nrm]))
          refine Rg4.w4_some (Rg4.want_none rfl) rfl (fun w' hw' hcl' _ => ?_) ?_
          · refine Rg.relAt_call (by go_simp; exact ⟨rfl, rfl⟩) ?_
            refine (HB.out _).mono ?_
            rintro en w'' ⟨rfl, hx⟩
            exact ⟨_, rfl, hx, trivial, rfl⟩
          rintro v ⟨_, _, _, rfl⟩
          (try simp only [Rg4.nrm])
          (refine Rg4.w4_read (Rg4.want_none rfl) rfl rfl ?_; apply Exists.intro; refine ⟨fun w' hw' hcl' => ?_, ?_⟩; focus (have st' := st.ext hw'; have hc' := st'.facts; (try simp only [nfl, nft, Nat.reduceAdd] at hc'); (focus (first | (go_simp; done) | (go_simp; first | rfl | (rw [if_neg] <;> first | rfl | omega) | (rw [if_pos] <;> first | rfl | omega))))); (try simp only [Rg4.nrm]))
          refine Rg4.w4_bar (Rg4.want_none rfl) rfl (fun w' hw' hcl _ K hK => ?_)
          replace st := st.ext hw'
          clear hw'
          (try clear hc); have hc := st.facts; (try simp only [nfl, nft, Nat.reduceAdd] at hc)
          go_wp2_with fail
          refine (HS.out _ st.ext0).mono ?_
          rintro en w ⟨rfl, hx⟩
          replace st := st.ext hx
          clear hx
          (try clear hc); have hc := st.facts; (try simp only [nfl, nft, Nat.reduceAdd] at hc)
          refine hK _ _ ⟨trivial, ?_⟩
          clear hK
          (try simp only [Rg4.nrm])
          (refine Rg4.w4_any (Rg4.want_none rfl) rfl ?_; apply Exists.intro; refine ⟨fun w' => ?_, ?_⟩; (focus (first | (go_simp; done) | (go_simp; first | rfl | (rw [if_neg] <;> first | rfl | omega) | (rw [if_pos] <;> first | rfl | omega)))); (try simp only [Rg4.nrm]))
          refine Rg4.w4_nil (fun w' hw' hcl' _ => ?_); replace st := st.ext hw'; clear hw' hcl'; (try clear hc); have hc := st.facts; (try simp only [nfl, nft, Nat.reduceAdd] at hc)
          go_wp2_with fail
          refine (HN.out _).mono ?_
          rintro en w ⟨rfl, hx⟩
          replace st := st.ext hx
          clear hx
          (try clear hc); have hc := st.facts; (try simp only [nfl, nft, Nat.reduceAdd] at hc)
          go_wp2_with fail
          go_ret
          exact ⟨by rw [H1.out]; rfl, st.ext0⟩
        have p1b : (p == 1) = false := by simpa using p1
        by_cases p2 : p = 2
        · subst p2
          have H1 : Hid (r = true) := Lib.hid (by rw [HR.out]; rfl)
          clear p1
          go_enter Try.func13, Try.ntmps13
          go_wp2_with ((((with_reducible refine wl_box ?_ (fun K hK => ?_)); rfl; refine owp_box (o := ⟨some 1, _, _, _, _, _⟩) rfl st ?_; apply Exists.intro; refine ⟨?_, ?_⟩; (focus (go_simp; try rfl)); (clear st; intro b1 w hb st; clear hb))); (try simp only [nsl, Value.cells, unB] at st); (try clear hc); have hc := st.facts; (try simp only [nfl, nft, Nat.reduceAdd] at hc))
          refine Rg4.wp_region4 (Rel := Ext) #[0, 1, 0, 7, 15]
            [(1, .val (bv))] [3] [0, 2] (fun _ => True) [0, 1, 2, 3, 4] (by kernel_rfl) (by kernel_rfl) (by kernel_rfl) (by kernel_rfl) Ext.refl (fun _ _ _ => Ext.trans) (show Rg4.PB _ by repeat (first | with_reducible exact Rg4.pb_body | with_reducible exact Rg4.pb_bodyD rfl | with_reducible refine Rg4.pb_then ?_ | with_reducible refine Rg4.pb_inBlock ?_ | with_reducible refine Rg4.pb_noGoto ?_ | with_reducible assumption)) (trivial) ?_
          replace st := st.drew
          change Rg4.wp4 _ _ _ _ _ _ _ _ _ (World.drew _) _ _
          generalize World.drew _ = w at st ⊢
          (try clear hc); have hc := st.facts; (try simp only [nfl, nft, Nat.reduceAdd] at hc)
          (refine Rg4.w4_read (Rg4.want_none rfl) rfl rfl ?_; apply Exists.intro; refine ⟨fun w' hw' hcl' => ?_, ?_⟩; focus (have st' := st.ext hw'; have hc' := st'.facts; (try simp only [nfl, nft, Nat.reduceAdd] at hc'); (focus (first | (go_simp; done) | (go_simp; first | rfl | (rw [if_neg] <;> first | rfl | omega) | (rw [if_pos] <;> first | rfl | omega))))); (try simp only [Rg4.nrm]))
          refine Rg4.w4_some (Rg4.want_none rfl) rfl (fun w' hw' hcl' _ => ?_) ?_
          · refine Rg.relAt_call (by go_simp; exact ⟨rfl, rfl⟩) ?_
            refine (HB.out _).mono ?_
            rintro en w'' ⟨rfl, hx⟩
            exact ⟨_, rfl, hx, trivial, rfl⟩
          rintro v ⟨_, _, _, rfl⟩
          (try simp only [Rg4.nrm])
          (refine Rg4.w4_read (Rg4.want_none rfl) rfl rfl ?_; apply Exists.intro; refine ⟨fun w' hw' hcl' => ?_, ?_⟩; focus (have st' := st.ext hw'; have hc' := st'.facts; (try simp only [nfl, nft, Nat.reduceAdd] at hc'); (focus (first | (go_simp; done) | (go_simp; first | rfl | (rw [if_neg] <;> first | rfl | omega) | (rw [if_pos] <;> first | rfl | omega))))); (try simp only [Rg4.nrm]))
          refine Rg4.w4_bar (Rg4.want_none rfl) rfl (fun w' hw' hcl _ K hK => ?_)
          replace st := st.ext hw'
          clear hw'
          (try clear hc); have hc := st.facts; (try simp only [nfl, nft, Nat.reduceAdd] at hc)
          go_wp2_with fail
          refine (HS.out _ st.ext0).mono ?_
          rintro en w ⟨rfl, hx⟩
          replace st := st.ext hx
          clear hx
          (try clear hc); have hc := st.facts; (try simp only [nfl, nft, Nat.reduceAdd] at hc)
          refine hK _ _ ⟨trivial, ?_⟩
          clear hK
          (try simp only [Rg4.nrm])
          (refine Rg4.w4_any (Rg4.want_none rfl) rfl ?_; apply Exists.intro; refine ⟨fun w' => ?_, ?_⟩; (focus (first | (go_simp; done) | (go_simp; first | rfl | (rw [if_neg] <;> first | rfl | omega) | (rw [if_pos] <;> first | rfl | omega)))); (try simp only [Rg4.nrm]))
          refine Rg4.w4_nil (fun w' hw' hcl' _ => ?_); replace st := st.ext hw'; clear hw' hcl'; (try clear hc); have hc := st.facts; (try simp only [nfl, nft, Nat.reduceAdd] at hc)
          go_wp2_with fail
          refine (HN.out _).mono ?_
          rintro en w ⟨rfl, hx⟩
          replace st := st.ext hx
          clear hx
          (try clear hc); have hc := st.facts; (try simp only [nfl, nft, Nat.reduceAdd] at hc)
          go_wp2_with fail
          go_ret
          exact ⟨by rw [H1.out]; rfl, st.ext0⟩
        have p2b : (p == 2) = false := by simpa using p2
        have H1 : Hid (r = false) := Lib.hid (by rw [HR.out, if_pos rfl, decide_eq_false p1, decide_eq_false p2]; rfl)
        clear p1 p2
        go_enter Try.func13, Try.ntmps13
        go_wp2_with ((((with_reducible refine wl_box ?_ (fun K hK => ?_)); rfl; refine owp_box (o := ⟨some 1, _, _, _, _, _⟩) rfl st ?_; apply Exists.intro; refine ⟨?_, ?_⟩; (focus (go_simp; try rfl)); (clear st; intro b1 w hb st; clear hb))); (try simp only [nsl, Value.cells, unB] at st); (try clear hc); have hc := st.facts; (try simp only [nfl, nft, Nat.reduceAdd] at hc))
        refine Rg4.wp_region4 (Rel := Ext) #[0, 1, 0, 7, 15]
          [(1, .val (bv))] [3] [0, 2] (fun _ => True) [0, 1, 2, 3, 4] (by kernel_rfl) (by kernel_rfl) (by kernel_rfl) (by kernel_rfl) Ext.refl (fun _ _ _ => Ext.trans) (show Rg4.PB _ by repeat (first | with_reducible exact Rg4.pb_body | with_reducible exact Rg4.pb_bodyD rfl | with_reducible refine Rg4.pb_then ?_ | with_reducible refine Rg4.pb_inBlock ?_ | with_reducible refine Rg4.pb_noGoto ?_ | with_reducible assumption)) (trivial) ?_
        replace st := st.drew
        change Rg4.wp4 _ _ _ _ _ _ _ _ _ (World.drew _) _ _
        generalize World.drew _ = w at st ⊢
        (try clear hc); have hc := st.facts; (try simp only [nfl, nft, Nat.reduceAdd] at hc)
        (refine Rg4.w4_read (Rg4.want_none rfl) rfl rfl ?_; apply Exists.intro; refine ⟨fun w' hw' hcl' => ?_, ?_⟩; focus (have st' := st.ext hw'; have hc' := st'.facts; (try simp only [nfl, nft, Nat.reduceAdd] at hc'); (focus (first | (go_simp; done) | (go_simp; first | rfl | (rw [if_neg] <;> first | rfl | omega) | (rw [if_pos] <;> first | rfl | omega))))); (try simp only [Rg4.nrm]))
        refine Rg4.w4_some (Rg4.want_none rfl) rfl (fun w' hw' hcl' _ => ?_) ?_
        · refine Rg.relAt_call (by go_simp; exact ⟨rfl, rfl⟩) ?_
          refine (HB.out _).mono ?_
          rintro en w'' ⟨rfl, hx⟩
          exact ⟨_, rfl, hx, trivial, rfl⟩
        rintro v ⟨_, _, _, rfl⟩
        (try simp only [Rg4.nrm])
        (refine Rg4.w4_read (Rg4.want_none rfl) rfl rfl ?_; apply Exists.intro; refine ⟨fun w' hw' hcl' => ?_, ?_⟩; focus (have st' := st.ext hw'; have hc' := st'.facts; (try simp only [nfl, nft, Nat.reduceAdd] at hc'); (focus (first | (go_simp; done) | (go_simp; first | rfl | (rw [if_neg] <;> first | rfl | omega) | (rw [if_pos] <;> first | rfl | omega))))); (try simp only [Rg4.nrm]))
        refine Rg4.w4_bar (Rg4.want_none rfl) rfl (fun w' hw' hcl _ K hK => ?_)
        replace st := st.ext hw'
        clear hw'
        (try clear hc); have hc := st.facts; (try simp only [nfl, nft, Nat.reduceAdd] at hc)
        go_wp2_with fail
        refine (HS.out _ st.ext0).mono ?_
        rintro en w ⟨rfl, hx⟩
        replace st := st.ext hx
        clear hx
        (try clear hc); have hc := st.facts; (try simp only [nfl, nft, Nat.reduceAdd] at hc)
        refine hK _ _ ⟨trivial, ?_⟩
        clear hK
        (try simp only [Rg4.nrm])
        (refine Rg4.w4_any (Rg4.want_none rfl) rfl ?_; apply Exists.intro; refine ⟨fun w' => ?_, ?_⟩; (focus (first | (go_simp; done) | (go_simp; first | rfl | (rw [if_neg] <;> first | rfl | omega) | (rw [if_pos] <;> first | rfl | omega)))); (try simp only [Rg4.nrm]))
        refine Rg4.w4_nil (fun w' hw' hcl' _ => ?_); replace st := st.ext hw'; clear hw' hcl'; (try clear hc); have hc := st.facts; (try simp only [nfl, nft, Nat.reduceAdd] at hc)
        go_wp2_with fail
        refine (HN.out _).mono ?_
        rintro en w ⟨rfl, hx⟩
        replace st := st.ext hx
        clear hx
        (try clear hc); have hc := st.facts; (try simp only [nfl, nft, Nat.reduceAdd] at hc)
        go_wp2_with fail
        go_ret
        exact ⟨by rw [H1.out]; rfl, st.ext0⟩
    have k1b : (k == 1) = false := by simpa using k1
    by_cases k2 : k = 2
    · subst k2
      clear k1
      cases wr with
      | false =>
        have H1 : Hid (r = false) := Lib.hid (by rw [HR.out]; rfl)
        go_enter Try.func13, Try.ntmps13
        go_wp2_with ((((with_reducible refine wl_box ?_ (fun K hK => ?_)); rfl; refine owp_box (o := ⟨some 1, _, _, _, _, _⟩) rfl st ?_; apply Exists.intro; refine ⟨?_, ?_⟩; (focus (go_simp; try rfl)); (clear st; intro b1 w hb st; clear hb))); (try simp only [nsl, Value.cells, unB] at st); (try clear hc); have hc := st.facts; (try simp only [nfl, nft, Nat.reduceAdd] at hc))
        refine Rg4.wp_region4 (Rel := Ext) #[0, 1, 0, 7, 15]
          [(1, .val (bv))] [3] [0, 2] (fun _ => True) [0, 1, 2, 3, 4] (by kernel_rfl) (by kernel_rfl) (by kernel_rfl) (by kernel_rfl) Ext.refl (fun _ _ _ => Ext.trans) (show Rg4.PB _ by repeat (first | with_reducible exact Rg4.pb_body | with_reducible exact Rg4.pb_bodyD rfl | with_reducible refine Rg4.pb_then ?_ | with_reducible refine Rg4.pb_inBlock ?_ | with_reducible refine Rg4.pb_noGoto ?_ | with_reducible assumption)) (trivial) ?_
        replace st := st.drew
        change Rg4.wp4 _ _ _ _ _ _ _ _ _ (World.drew _) _ _
        generalize World.drew _ = w at st ⊢
        (try clear hc); have hc := st.facts; (try simp only [nfl, nft, Nat.reduceAdd] at hc)
        (refine Rg4.w4_read (Rg4.want_none rfl) rfl rfl ?_; apply Exists.intro; refine ⟨fun w' hw' hcl' => ?_, ?_⟩; focus (have st' := st.ext hw'; have hc' := st'.facts; (try simp only [nfl, nft, Nat.reduceAdd] at hc'); (focus (first | (go_simp; done) | (go_simp; first | rfl | (rw [if_neg] <;> first | rfl | omega) | (rw [if_pos] <;> first | rfl | omega))))); (try simp only [Rg4.nrm]))
        refine Rg4.w4_some (Rg4.want_none rfl) rfl (fun w' hw' hcl' _ => ?_) ?_
        · refine Rg.relAt_call (by go_simp; exact ⟨rfl, rfl⟩) ?_
          refine (HB.out _).mono ?_
          rintro en w'' ⟨rfl, hx⟩
          exact ⟨_, rfl, hx, trivial, rfl⟩
        rintro v ⟨_, _, _, rfl⟩
        (try simp only [Rg4.nrm])
        (refine Rg4.w4_read (Rg4.want_none rfl) rfl rfl ?_; apply Exists.intro; refine ⟨fun w' hw' hcl' => ?_, ?_⟩; focus (have st' := st.ext hw'; have hc' := st'.facts; (try simp only [nfl, nft, Nat.reduceAdd] at hc'); (focus (first | (go_simp; done) | (go_simp; first | rfl | (rw [if_neg] <;> first | rfl | omega) | (rw [if_pos] <;> first | rfl | omega))))); (try simp only [Rg4.nrm]))
        refine Rg4.w4_bar (Rg4.want_none rfl) rfl (fun w' hw' hcl _ K hK => ?_)
        replace st := st.ext hw'
        clear hw'
        (try clear hc); have hc := st.facts; (try simp only [nfl, nft, Nat.reduceAdd] at hc)
        go_wp2_with fail
        refine (HS.out _ st.ext0).mono ?_
        rintro en w ⟨rfl, hx⟩
        replace st := st.ext hx
        clear hx
        (try clear hc); have hc := st.facts; (try simp only [nfl, nft, Nat.reduceAdd] at hc)
        refine hK _ _ ⟨trivial, ?_⟩
        clear hK
        (try simp only [Rg4.nrm])
        (refine Rg4.w4_any (Rg4.want_none rfl) rfl ?_; apply Exists.intro; refine ⟨fun w' => ?_, ?_⟩; (focus (first | (go_simp; done) | (go_simp; first | rfl | (rw [if_neg] <;> first | rfl | omega) | (rw [if_pos] <;> first | rfl | omega)))); (try simp only [Rg4.nrm]))
        refine Rg4.w4_nil (fun w' hw' hcl' _ => ?_); replace st := st.ext hw'; clear hw' hcl'; (try clear hc); have hc := st.facts; (try simp only [nfl, nft, Nat.reduceAdd] at hc)
        go_wp2_with fail
        refine (HW.out _ (st.oldFl (i := 0) get0 HX.out.1.2)).mono ?_
        rintro en w ⟨rfl, hx⟩
        replace st := st.ext hx
        clear hx
        (try clear hc); have hc := st.facts; (try simp only [nfl, nft, Nat.reduceAdd] at hc)
        go_wp2_with fail
        go_ret
        exact ⟨by rw [H1.out]; rfl, st.ext0⟩
      | true =>
        have H1 : Hid (r = sr) := Lib.hid (by rw [HR.out]; rfl)
        go_enter Try.func13, Try.ntmps13
        go_wp2_with ((((with_reducible refine wl_box ?_ (fun K hK => ?_)); rfl; refine owp_box (o := ⟨some 1, _, _, _, _, _⟩) rfl st ?_; apply Exists.intro; refine ⟨?_, ?_⟩; (focus (go_simp; try rfl)); (clear st; intro b1 w hb st; clear hb))); (try simp only [nsl, Value.cells, unB] at st); (try clear hc); have hc := st.facts; (try simp only [nfl, nft, Nat.reduceAdd] at hc))
        refine Rg4.wp_region4 (Rel := Ext) #[0, 1, 0, 7, 15]
          [(1, .val (bv))] [3] [0, 2] (fun _ => True) [0, 1, 2, 3, 4] (by kernel_rfl) (by kernel_rfl) (by kernel_rfl) (by kernel_rfl) Ext.refl (fun _ _ _ => Ext.trans) (show Rg4.PB _ by repeat (first | with_reducible exact Rg4.pb_body | with_reducible exact Rg4.pb_bodyD rfl | with_reducible refine Rg4.pb_then ?_ | with_reducible refine Rg4.pb_inBlock ?_ | with_reducible refine Rg4.pb_noGoto ?_ | with_reducible assumption)) (trivial) ?_
        replace st := st.drew
        change Rg4.wp4 _ _ _ _ _ _ _ _ _ (World.drew _) _ _
        generalize World.drew _ = w at st ⊢
        (try clear hc); have hc := st.facts; (try simp only [nfl, nft, Nat.reduceAdd] at hc)
        (refine Rg4.w4_read (Rg4.want_none rfl) rfl rfl ?_; apply Exists.intro; refine ⟨fun w' hw' hcl' => ?_, ?_⟩; focus (have st' := st.ext hw'; have hc' := st'.facts; (try simp only [nfl, nft, Nat.reduceAdd] at hc'); (focus (first | (go_simp; done) | (go_simp; first | rfl | (rw [if_neg] <;> first | rfl | omega) | (rw [if_pos] <;> first | rfl | omega))))); (try simp only [Rg4.nrm]))
        refine Rg4.w4_some (Rg4.want_none rfl) rfl (fun w' hw' hcl' _ => ?_) ?_
        · refine Rg.relAt_call (by go_simp; exact ⟨rfl, rfl⟩) ?_
          refine (HB.out _).mono ?_
          rintro en w'' ⟨rfl, hx⟩
          exact ⟨_, rfl, hx, trivial, rfl⟩
        rintro v ⟨_, _, _, rfl⟩
        (try simp only [Rg4.nrm])
        (refine Rg4.w4_read (Rg4.want_none rfl) rfl rfl ?_; apply Exists.intro; refine ⟨fun w' hw' hcl' => ?_, ?_⟩; focus (have st' := st.ext hw'; have hc' := st'.facts; (try simp only [nfl, nft, Nat.reduceAdd] at hc'); (focus (first | (go_simp; done) | (go_simp; first | rfl | (rw [if_neg] <;> first | rfl | omega) | (rw [if_pos] <;> first | rfl | omega))))); (try simp only [Rg4.nrm]))
        refine Rg4.w4_bar (Rg4.want_none rfl) rfl (fun w' hw' hcl _ K hK => ?_)
        replace st := st.ext hw'
        clear hw'
        (try clear hc); have hc := st.facts; (try simp only [nfl, nft, Nat.reduceAdd] at hc)
        go_wp2_with fail
        refine (HS.out _ st.ext0).mono ?_
        rintro en w ⟨rfl, hx⟩
        replace st := st.ext hx
        clear hx
        (try clear hc); have hc := st.facts; (try simp only [nfl, nft, Nat.reduceAdd] at hc)
        refine hK _ _ ⟨trivial, ?_⟩
        clear hK
        (try simp only [Rg4.nrm])
        (refine Rg4.w4_any (Rg4.want_none rfl) rfl ?_; apply Exists.intro; refine ⟨fun w' => ?_, ?_⟩; (focus (first | (go_simp; done) | (go_simp; first | rfl | (rw [if_neg] <;> first | rfl | omega) | (rw [if_pos] <;> first | rfl | omega)))); (try simp only [Rg4.nrm]))
        refine Rg4.w4_nil (fun w' hw' hcl' _ => ?_); replace st := st.ext hw'; clear hw' hcl'; (try clear hc); have hc := st.facts; (try simp only [nfl, nft, Nat.reduceAdd] at hc)
        go_wp2_with fail
        refine (HW.out _ (st.oldFl (i := 0) get0 HX.out.1.2)).mono ?_
        rintro en w ⟨rfl, hx⟩
        replace st := st.ext hx
        clear hx
        (try clear hc); have hc := st.facts; (try simp only [nfl, nft, Nat.reduceAdd] at hc)
        go_wp2_with fail
        refine (HH.out _ (st.oldFl (i := 0) get0 HX.out.2.1.2)).mono ?_
        rintro en w ⟨rfl, hx⟩
        replace st := st.ext hx
        clear hx
        (try clear hc); have hc := st.facts; (try simp only [nfl, nft, Nat.reduceAdd] at hc)
        go_wp2_with fail
        go_ret
        exact ⟨by rw [H1.out]; rfl, st.ext0⟩
    have k2b : (k == 2) = false := by simpa using k2
    by_cases k5 : k = 5
    · subst k5
      clear k1 k2
      by_cases e1 : 1 ≤ e
      · have H1 : Hid (r = decide (e ≤ 99)) := Lib.hid (by rw [HR.out, if_neg (by decide), if_neg (by decide), if_pos rfl, decide_eq_true e1]; rfl)
        go_enter Try.func13, Try.ntmps13
        go_wp2_with ((((with_reducible refine wl_box ?_ (fun K hK => ?_)); rfl; refine owp_box (o := ⟨some 1, _, _, _, _, _⟩) rfl st ?_; apply Exists.intro; refine ⟨?_, ?_⟩; (focus (go_simp; try rfl)); (clear st; intro b1 w hb st; clear hb))); (try simp only [nsl, Value.cells, unB] at st); (try clear hc); have hc := st.facts; (try simp only [nfl, nft, Nat.reduceAdd] at hc))
        refine Rg4.wp_region4 (Rel := Ext) #[0, 1, 0, 7, 15]
          [(1, .val (bv))] [3] [0, 2] (fun _ => True) [0, 1, 2, 3, 4] (by kernel_rfl) (by kernel_rfl) (by kernel_rfl) (by kernel_rfl) Ext.refl (fun _ _ _ => Ext.trans) (show Rg4.PB _ by repeat (first | with_reducible exact Rg4.pb_body | with_reducible exact Rg4.pb_bodyD rfl | with_reducible refine Rg4.pb_then ?_ | with_reducible refine Rg4.pb_inBlock ?_ | with_reducible refine Rg4.pb_noGoto ?_ | with_reducible assumption)) (trivial) ?_
        replace st := st.drew
        change Rg4.wp4 _ _ _ _ _ _ _ _ _ (World.drew _) _ _
        generalize World.drew _ = w at st ⊢
        (try clear hc); have hc := st.facts; (try simp only [nfl, nft, Nat.reduceAdd] at hc)
        (refine Rg4.w4_read (Rg4.want_none rfl) rfl rfl ?_; apply Exists.intro; refine ⟨fun w' hw' hcl' => ?_, ?_⟩; focus (have st' := st.ext hw'; have hc' := st'.facts; (try simp only [nfl, nft, Nat.reduceAdd] at hc'); (focus (first | (go_simp; done) | (go_simp; first | rfl | (rw [if_neg] <;> first | rfl | omega) | (rw [if_pos] <;> first | rfl | omega))))); (try simp only [Rg4.nrm]))
        refine Rg4.w4_some (Rg4.want_none rfl) rfl (fun w' hw' hcl' _ => ?_) ?_
        · refine Rg.relAt_call (by go_simp; exact ⟨rfl, rfl⟩) ?_
          refine (HB.out _).mono ?_
          rintro en w'' ⟨rfl, hx⟩
          exact ⟨_, rfl, hx, trivial, rfl⟩
        rintro v ⟨_, _, _, rfl⟩
        (try simp only [Rg4.nrm])
        (refine Rg4.w4_read (Rg4.want_none rfl) rfl rfl ?_; apply Exists.intro; refine ⟨fun w' hw' hcl' => ?_, ?_⟩; focus (have st' := st.ext hw'; have hc' := st'.facts; (try simp only [nfl, nft, Nat.reduceAdd] at hc'); (focus (first | (go_simp; done) | (go_simp; first | rfl | (rw [if_neg] <;> first | rfl | omega) | (rw [if_pos] <;> first | rfl | omega))))); (try simp only [Rg4.nrm]))
        refine Rg4.w4_bar (Rg4.want_none rfl) rfl (fun w' hw' hcl _ K hK => ?_)
        replace st := st.ext hw'
        clear hw'
        (try clear hc); have hc := st.facts; (try simp only [nfl, nft, Nat.reduceAdd] at hc)
        go_wp2_with fail
        refine (HS.out _ st.ext0).mono ?_
        rintro en w ⟨rfl, hx⟩
        replace st := st.ext hx
        clear hx
        (try clear hc); have hc := st.facts; (try simp only [nfl, nft, Nat.reduceAdd] at hc)
        refine hK _ _ ⟨trivial, ?_⟩
        clear hK
        (try simp only [Rg4.nrm])
        (refine Rg4.w4_any (Rg4.want_none rfl) rfl ?_; apply Exists.intro; refine ⟨fun w' => ?_, ?_⟩; (focus (first | (go_simp; done) | (go_simp; first | rfl | (rw [if_neg] <;> first | rfl | omega) | (rw [if_pos] <;> first | rfl | omega)))); (try simp only [Rg4.nrm]))
        refine Rg4.w4_nil (fun w' hw' hcl' _ => ?_); replace st := st.ext hw'; clear hw' hcl'; (try clear hc); have hc := st.facts; (try simp only [nfl, nft, Nat.reduceAdd] at hc)
        go_wp2_with fail
        go_ret
        exact ⟨by rw [H1.out]; rfl, st.ext0⟩
      · have H1 : Hid (r = false) := Lib.hid (by rw [HR.out, if_neg (by decide), if_neg (by decide), if_pos rfl, decide_eq_false e1]; rfl)
        go_enter Try.func13, Try.ntmps13
        go_wp2_with ((((with_reducible refine wl_box ?_ (fun K hK => ?_)); rfl; refine owp_box (o := ⟨some 1, _, _, _, _, _⟩) rfl st ?_; apply Exists.intro; refine ⟨?_, ?_⟩; (focus (go_simp; try rfl)); (clear st; intro b1 w hb st; clear hb))); (try simp only [nsl, Value.cells, unB] at st); (try clear hc); have hc := st.facts; (try simp only [nfl, nft, Nat.reduceAdd] at hc))
        refine Rg4.wp_region4 (Rel := Ext) #[0, 1, 0, 7, 15]
          [(1, .val (bv))] [3] [0, 2] (fun _ => True) [0, 1, 2, 3, 4] (by kernel_rfl) (by kernel_rfl) (by kernel_rfl) (by kernel_rfl) Ext.refl (fun _ _ _ => Ext.trans) (show Rg4.PB _ by repeat (first | with_reducible exact Rg4.pb_body | with_reducible exact Rg4.pb_bodyD rfl | with_reducible refine Rg4.pb_then ?_ | with_reducible refine Rg4.pb_inBlock ?_ | with_reducible refine Rg4.pb_noGoto ?_ | with_reducible assumption)) (trivial) ?_
        replace st := st.drew
        change Rg4.wp4 _ _ _ _ _ _ _ _ _ (World.drew _) _ _
        generalize World.drew _ = w at st ⊢
        (try clear hc); have hc := st.facts; (try simp only [nfl, nft, Nat.reduceAdd] at hc)
        (refine Rg4.w4_read (Rg4.want_none rfl) rfl rfl ?_; apply Exists.intro; refine ⟨fun w' hw' hcl' => ?_, ?_⟩; focus (have st' := st.ext hw'; have hc' := st'.facts; (try simp only [nfl, nft, Nat.reduceAdd] at hc'); (focus (first | (go_simp; done) | (go_simp; first | rfl | (rw [if_neg] <;> first | rfl | omega) | (rw [if_pos] <;> first | rfl | omega))))); (try simp only [Rg4.nrm]))
        refine Rg4.w4_some (Rg4.want_none rfl) rfl (fun w' hw' hcl' _ => ?_) ?_
        · refine Rg.relAt_call (by go_simp; exact ⟨rfl, rfl⟩) ?_
          refine (HB.out _).mono ?_
          rintro en w'' ⟨rfl, hx⟩
          exact ⟨_, rfl, hx, trivial, rfl⟩
        rintro v ⟨_, _, _, rfl⟩
        (try simp only [Rg4.nrm])
        (refine Rg4.w4_read (Rg4.want_none rfl) rfl rfl ?_; apply Exists.intro; refine ⟨fun w' hw' hcl' => ?_, ?_⟩; focus (have st' := st.ext hw'; have hc' := st'.facts; (try simp only [nfl, nft, Nat.reduceAdd] at hc'); (focus (first | (go_simp; done) | (go_simp; first | rfl | (rw [if_neg] <;> first | rfl | omega) | (rw [if_pos] <;> first | rfl | omega))))); (try simp only [Rg4.nrm]))
        refine Rg4.w4_bar (Rg4.want_none rfl) rfl (fun w' hw' hcl _ K hK => ?_)
        replace st := st.ext hw'
        clear hw'
        (try clear hc); have hc := st.facts; (try simp only [nfl, nft, Nat.reduceAdd] at hc)
        go_wp2_with fail
        refine (HS.out _ st.ext0).mono ?_
        rintro en w ⟨rfl, hx⟩
        replace st := st.ext hx
        clear hx
        (try clear hc); have hc := st.facts; (try simp only [nfl, nft, Nat.reduceAdd] at hc)
        refine hK _ _ ⟨trivial, ?_⟩
        clear hK
        (try simp only [Rg4.nrm])
        (refine Rg4.w4_any (Rg4.want_none rfl) rfl ?_; apply Exists.intro; refine ⟨fun w' => ?_, ?_⟩; (focus (first | (go_simp; done) | (go_simp; first | rfl | (rw [if_neg] <;> first | rfl | omega) | (rw [if_pos] <;> first | rfl | omega)))); (try simp only [Rg4.nrm]))
        refine Rg4.w4_nil (fun w' hw' hcl' _ => ?_); replace st := st.ext hw'; clear hw' hcl'; (try clear hc); have hc := st.facts; (try simp only [nfl, nft, Nat.reduceAdd] at hc)
        go_wp2_with fail
        go_ret
        exact ⟨by rw [H1.out]; rfl, st.ext0⟩
    have k5b : (k == 5) = false := by simpa using k5
    by_cases k3 : k = 3
    · subst k3
      have H1 : Hid (r = true) := Lib.hid (by rw [HR.out]; rfl)
      clear k1 k2 k5
      go_enter Try.func13, Try.ntmps13
      go_wp2_with ((((with_reducible refine wl_box ?_ (fun K hK => ?_)); rfl; refine owp_box (o := ⟨some 1, _, _, _, _, _⟩) rfl st ?_; apply Exists.intro; refine ⟨?_, ?_⟩; (focus (go_simp; try rfl)); (clear st; intro b1 w hb st; clear hb))); (try simp only [nsl, Value.cells, unB] at st); (try clear hc); have hc := st.facts; (try simp only [nfl, nft, Nat.reduceAdd] at hc))
      refine Rg4.wp_region4 (Rel := Ext) #[0, 1, 0, 7, 15]
        [(1, .val (bv))] [3] [0, 2] (fun _ => True) [0, 1, 2, 3, 4] (by kernel_rfl) (by kernel_rfl) (by kernel_rfl) (by kernel_rfl) Ext.refl (fun _ _ _ => Ext.trans) (show Rg4.PB _ by repeat (first | with_reducible exact Rg4.pb_body | with_reducible exact Rg4.pb_bodyD rfl | with_reducible refine Rg4.pb_then ?_ | with_reducible refine Rg4.pb_inBlock ?_ | with_reducible refine Rg4.pb_noGoto ?_ | with_reducible assumption)) (trivial) ?_
      replace st := st.drew
      change Rg4.wp4 _ _ _ _ _ _ _ _ _ (World.drew _) _ _
      generalize World.drew _ = w at st ⊢
      (try clear hc); have hc := st.facts; (try simp only [nfl, nft, Nat.reduceAdd] at hc)
      (refine Rg4.w4_read (Rg4.want_none rfl) rfl rfl ?_; apply Exists.intro; refine ⟨fun w' hw' hcl' => ?_, ?_⟩; focus (have st' := st.ext hw'; have hc' := st'.facts; (try simp only [nfl, nft, Nat.reduceAdd] at hc'); (focus (first | (go_simp; done) | (go_simp; first | rfl | (rw [if_neg] <;> first | rfl | omega) | (rw [if_pos] <;> first | rfl | omega))))); (try simp only [Rg4.nrm]))
      refine Rg4.w4_some (Rg4.want_none rfl) rfl (fun w' hw' hcl' _ => ?_) ?_
      · refine Rg.relAt_call (by go_simp; exact ⟨rfl, rfl⟩) ?_
        refine (HB.out _).mono ?_
        rintro en w'' ⟨rfl, hx⟩
        exact ⟨_, rfl, hx, trivial, rfl⟩
      rintro v ⟨_, _, _, rfl⟩
      (try simp only [Rg4.nrm])
      (refine Rg4.w4_read (Rg4.want_none rfl) rfl rfl ?_; apply Exists.intro; refine ⟨fun w' hw' hcl' => ?_, ?_⟩; focus (have st' := st.ext hw'; have hc' := st'.facts; (try simp only [nfl, nft, Nat.reduceAdd] at hc'); (focus (first | (go_simp; done) | (go_simp; first | rfl | (rw [if_neg] <;> first | rfl | omega) | (rw [if_pos] <;> first | rfl | omega))))); (try simp only [Rg4.nrm]))
      refine Rg4.w4_bar (Rg4.want_none rfl) rfl (fun w' hw' hcl _ K hK => ?_)
      replace st := st.ext hw'
      clear hw'
      (try clear hc); have hc := st.facts; (try simp only [nfl, nft, Nat.reduceAdd] at hc)
      go_wp2_with fail
      refine (HS.out _ st.ext0).mono ?_
      rintro en w ⟨rfl, hx⟩
      replace st := st.ext hx
      clear hx
      (try clear hc); have hc := st.facts; (try simp only [nfl, nft, Nat.reduceAdd] at hc)
      refine hK _ _ ⟨trivial, ?_⟩
      clear hK
      (try simp only [Rg4.nrm])
      (refine Rg4.w4_any (Rg4.want_none rfl) rfl ?_; apply Exists.intro; refine ⟨fun w' => ?_, ?_⟩; (focus (first | (go_simp; done) | (go_simp; first | rfl | (rw [if_neg] <;> first | rfl | omega) | (rw [if_pos] <;> first | rfl | omega)))); (try simp only [Rg4.nrm]))
      refine Rg4.w4_nil (fun w' hw' hcl' _ => ?_); replace st := st.ext hw'; clear hw' hcl'; (try clear hc); have hc := st.facts; (try simp only [nfl, nft, Nat.reduceAdd] at hc)
      go_wp2_with fail
      go_ret
      exact ⟨by rw [H1.out]; rfl, st.ext0⟩
    have k3b : (k == 3) = false := by simpa using k3
    by_cases k4 : k = 4
    · subst k4
      have H1 : Hid (r = true) := Lib.hid (by rw [HR.out]; rfl)
      clear k1 k2 k5 k3
      go_enter Try.func13, Try.ntmps13
      go_wp2_with ((((with_reducible refine wl_box ?_ (fun K hK => ?_)); rfl; refine owp_box (o := ⟨some 1, _, _, _, _, _⟩) rfl st ?_; apply Exists.intro; refine ⟨?_, ?_⟩; (focus (go_simp; try rfl)); (clear st; intro b1 w hb st; clear hb))); (try simp only [nsl, Value.cells, unB] at st); (try clear hc); have hc := st.facts; (try simp only [nfl, nft, Nat.reduceAdd] at hc))
      refine Rg4.wp_region4 (Rel := Ext) #[0, 1, 0, 7, 15]
        [(1, .val (bv))] [3] [0, 2] (fun _ => True) [0, 1, 2, 3, 4] (by kernel_rfl) (by kernel_rfl) (by kernel_rfl) (by kernel_rfl) Ext.refl (fun _ _ _ => Ext.trans) (show Rg4.PB _ by repeat (first | with_reducible exact Rg4.pb_body | with_reducible exact Rg4.pb_bodyD rfl | with_reducible refine Rg4.pb_then ?_ | with_reducible refine Rg4.pb_inBlock ?_ | with_reducible refine Rg4.pb_noGoto ?_ | with_reducible assumption)) (trivial) ?_
      replace st := st.drew
      change Rg4.wp4 _ _ _ _ _ _ _ _ _ (World.drew _) _ _
      generalize World.drew _ = w at st ⊢
      (try clear hc); have hc := st.facts; (try simp only [nfl, nft, Nat.reduceAdd] at hc)
      (refine Rg4.w4_read (Rg4.want_none rfl) rfl rfl ?_; apply Exists.intro; refine ⟨fun w' hw' hcl' => ?_, ?_⟩; focus (have st' := st.ext hw'; have hc' := st'.facts; (try simp only [nfl, nft, Nat.reduceAdd] at hc'); (focus (first | (go_simp; done) | (go_simp; first | rfl | (rw [if_neg] <;> first | rfl | omega) | (rw [if_pos] <;> first | rfl | omega))))); (try simp only [Rg4.nrm]))
      refine Rg4.w4_some (Rg4.want_none rfl) rfl (fun w' hw' hcl' _ => ?_) ?_
      · refine Rg.relAt_call (by go_simp; exact ⟨rfl, rfl⟩) ?_
        refine (HB.out _).mono ?_
        rintro en w'' ⟨rfl, hx⟩
        exact ⟨_, rfl, hx, trivial, rfl⟩
      rintro v ⟨_, _, _, rfl⟩
      (try simp only [Rg4.nrm])
      (refine Rg4.w4_read (Rg4.want_none rfl) rfl rfl ?_; apply Exists.intro; refine ⟨fun w' hw' hcl' => ?_, ?_⟩; focus (have st' := st.ext hw'; have hc' := st'.facts; (try simp only [nfl, nft, Nat.reduceAdd] at hc'); (focus (first | (go_simp; done) | (go_simp; first | rfl | (rw [if_neg] <;> first | rfl | omega) | (rw [if_pos] <;> first | rfl | omega))))); (try simp only [Rg4.nrm]))
      refine Rg4.w4_bar (Rg4.want_none rfl) rfl (fun w' hw' hcl _ K hK => ?_)
      replace st := st.ext hw'
      clear hw'
      (try clear hc); have hc := st.facts; (try simp only [nfl, nft, Nat.reduceAdd] at hc)
      go_wp2_with fail
      refine (HS.out _ st.ext0).mono ?_
      rintro en w ⟨rfl, hx⟩
      replace st := st.ext hx
      clear hx
      (try clear hc); have hc := st.facts; (try simp only [nfl, nft, Nat.reduceAdd] at hc)
      refine hK _ _ ⟨trivial, ?_⟩
      clear hK
      (try simp only [Rg4.nrm])
      (refine Rg4.w4_any (Rg4.want_none rfl) rfl ?_; apply Exists.intro; refine ⟨fun w' => ?_, ?_⟩; (focus (first | (go_simp; done) | (go_simp; first | rfl | (rw [if_neg] <;> first | rfl | omega) | (rw [if_pos] <;> first | rfl | omega)))); (try simp only [Rg4.nrm]))
      refine Rg4.w4_nil (fun w' hw' hcl' _ => ?_); replace st := st.ext hw'; clear hw' hcl'; (try clear hc); have hc := st.facts; (try simp only [nfl, nft, Nat.reduceAdd] at hc)
      go_wp2_with fail
      go_ret
      exact ⟨by rw [H1.out]; rfl, st.ext0⟩
    have k4b : (k == 4) = false := by simpa using k4
    have H1 : Hid (r = false) := Lib.hid (by rw [HR.out, if_neg k1, if_neg k2, if_neg k5, decide_eq_false k3, decide_eq_false k4]; rfl)
    clear k1 k2 k5 k3 k4
    go_enter Try.func13, Try.ntmps13
    go_wp2_with ((((with_reducible refine wl_box ?_ (fun K hK => ?_)); rfl; refine owp_box (o := ⟨some 1, _, _, _, _, _⟩) rfl st ?_; apply Exists.intro; refine ⟨?_, ?_⟩; (focus (go_simp; try rfl)); (clear st; intro b1 w hb st; clear hb))); (try simp only [nsl, Value.cells, unB] at st); (try clear hc); have hc := st.facts; (try simp only [nfl, nft, Nat.reduceAdd] at hc))
    refine Rg4.wp_region4 (Rel := Ext) #[0, 1, 0, 7, 15]
      [(1, .val (bv))] [3] [0, 2] (fun _ => True) [0, 1, 2, 3, 4] (by kernel_rfl) (by kernel_rfl) (by kernel_rfl) (by kernel_rfl) Ext.refl (fun _ _ _ => Ext.trans) (show Rg4.PB _ by repeat (first | with_reducible exact Rg4.pb_body | with_reducible exact Rg4.pb_bodyD rfl | with_reducible refine Rg4.pb_then ?_ | with_reducible refine Rg4.pb_inBlock ?_ | with_reducible refine Rg4.pb_noGoto ?_ | with_reducible assumption)) (trivial) ?_
    replace st := st.drew
    change Rg4.wp4 _ _ _ _ _ _ _ _ _ (World.drew _) _ _
    generalize World.drew _ = w at st ⊢
    (try clear hc); have hc := st.facts; (try simp only [nfl, nft, Nat.reduceAdd] at hc)
    (refine Rg4.w4_read (Rg4.want_none rfl) rfl rfl ?_; apply Exists.intro; refine ⟨fun w' hw' hcl' => ?_, ?_⟩; focus (have st' := st.ext hw'; have hc' := st'.facts; (try simp only [nfl, nft, Nat.reduceAdd] at hc'); (focus (first | (go_simp; done) | (go_simp; first | rfl | (rw [if_neg] <;> first | rfl | omega) | (rw [if_pos] <;> first | rfl | omega))))); (try simp only [Rg4.nrm]))
    refine Rg4.w4_some (Rg4.want_none rfl) rfl (fun w' hw' hcl' _ => ?_) ?_
    · refine Rg.relAt_call (by go_simp; exact ⟨rfl, rfl⟩) ?_
      refine (HB.out _).mono ?_
      rintro en w'' ⟨rfl, hx⟩
      exact ⟨_, rfl, hx, trivial, rfl⟩
    rintro v ⟨_, _, _, rfl⟩
    (try simp only [Rg4.nrm])
    (refine Rg4.w4_read (Rg4.want_none rfl) rfl rfl ?_; apply Exists.intro; refine ⟨fun w' hw' hcl' => ?_, ?_⟩; focus (have st' := st.ext hw'; have hc' := st'.facts; (try simp only [nfl, nft, Nat.reduceAdd] at hc'); (focus (first | (go_simp; done) | (go_simp; first | rfl | (rw [if_neg] <;> first | rfl | omega) | (rw [if_pos] <;> first | rfl | omega))))); (try simp only [Rg4.nrm]))
    refine Rg4.w4_bar (Rg4.want_none rfl) rfl (fun w' hw' hcl _ K hK => ?_)
    replace st := st.ext hw'
    clear hw'
    (try clear hc); have hc := st.facts; (try simp only [nfl, nft, Nat.reduceAdd] at hc)
    go_wp2_with fail
    refine (HS.out _ st.ext0).mono ?_
    rintro en w ⟨rfl, hx⟩
    replace st := st.ext hx
    clear hx
    (try clear hc); have hc := st.facts; (try simp only [nfl, nft, Nat.reduceAdd] at hc)
    refine hK _ _ ⟨trivial, ?_⟩
    clear hK
    (try simp only [Rg4.nrm])
    (refine Rg4.w4_any (Rg4.want_none rfl) rfl ?_; apply Exists.intro; refine ⟨fun w' => ?_, ?_⟩; (focus (first | (go_simp; done) | (go_simp; first | rfl | (rw [if_neg] <;> first | rfl | omega) | (rw [if_pos] <;> first | rfl | omega)))); (try simp only [Rg4.nrm]))
    refine Rg4.w4_nil (fun w' hw' hcl' _ => ?_); replace st := st.ext hw'; clear hw' hcl'; (try clear hc); have hc := st.facts; (try simp only [nfl, nft, Nat.reduceAdd] at hc)
    go_wp2_with fail
    go_ret
    exact ⟨by rw [H1.out]; rfl, st.ext0⟩
end Go.Proofs.Ytmlhilgdjedeoaa

namespace Go.Proofs.Ytmlhilgdjedeoaa
set_option linter.unusedSimpArgs false
set_option linter.unusedVariables false
open Go Go.RowKit
theorem penBytesRow_c {fr al : Nat → Prop} {w : World} {p : Nat} {xs : List UInt8} (st : Own fr al w [penI p xs] w) (hl : xs.length ≤ 100000000000000) :
    Calls Try.prog 39 #[.pointer (some ⟨p, 0, none⟩)] w fun e w' => ∃ a c, e = .returned (.slice a xs.length c) ∧ (xs.length ≤ c ∧ c ≤ maxLen) ∧ Own fr al w [penI p xs, rowI 5 1 (.slice a xs.length c) xs.length (xs.map B)] w' := by
  obtain ⟨g, hp⟩ := st.pen (i := 0) rfl
  refine (penBytes_own p g xs w hp hl).mono ?_
  rintro e w' ⟨v, rfl, h, hx⟩
  obtain ⟨a, m, c, rfl, h1, h2, h3⟩ := own_by h
  obtain rfl : m = xs.length := h3.1
  refine ⟨a, c, rfl, ⟨h1, h2⟩, ?_⟩
  have := st.new (I := rowI 5 1 (.slice a xs.length c) xs.length (xs.map B)) hx (e' := fun b => (Value.slice a xs.length c).ownBlock = some b) (s' := fun _ => False) ⟨h.mono (Nat.zero_le _), fun k hk => hk⟩ (fun b hb => ⟨(h.lt b hb).2, (h.lt b hb).1⟩) (fun _ q => q.elim) (fun _ _ q => q)
  simpa using this
theorem FreshI.by {w w' : World} {a : Option Addr} {n c : Nat} {xs : List UInt8} (h : FreshI w w' (rowI 5 1 (.slice a n c) n (xs.map B))) : (n ≤ c ∧ c ≤ maxLen) ∧ By w' a n xs := by
  obtain ⟨_, e, ⟨h1, _⟩, _⟩ := h
  obtain ⟨a', m, c', hv, h2, h3, h4⟩ := own_by h1
  injection hv with q1 q2 q3
  subst q1 q2 q3
  exact ⟨⟨h2, h3⟩, h4⟩
set_option maxRecDepth 100000 in
set_option maxHeartbeats 1000000 in
theorem credBytes_f (x : CredT) (W : World) (hl : CredL 100000 x) :
    Calls Try.prog 59 #[cV x] W fun e w' => ∃ a n c, e = .returned (.slice a n c) ∧ FreshI W w' (rowI 5 1 (.slice a n c) n ((credBy x).map B)) := by
  have HR := Lib.hid (fun W => credRight_any x W (by unfold CredL at hl; omega))
  have HE := Lib.hid (show credBy x = if credR x = true then credB x else [] from rfl)
  generalize credBy x = r at *
  cases hr : credR x with
  | false =>
    have H := Lib.hid hr
    obtain ⟨k, ⟨ho, hd⟩, nw, ⟨bo, bd⟩, ⟨co, cd⟩, we⟩ := x
    clear hl hr
    have st := Own.startOld W
    unfold cV S at *
    simp only at HR
    (try simp only [nsl, Value.cells, unB] at st)
    (try clear hc); have hc := st.facts; (try simp only [nfl, nft, Nat.reduceAdd] at hc)
    go_enter Try.func59, Try.ntmps59
    go_wp2_with ((((with_reducible refine wl_box ?_ (fun K hK => ?_)); rfl; refine owp_box (o := ⟨some 1, _, _, _, _, _⟩) rfl st ?_; apply Exists.intro; refine ⟨?_, ?_⟩; (focus (go_simp; try rfl)); (clear st; intro b1 w hb st; clear hb))); (try simp only [nsl, Value.cells, unB] at st); (try clear hc); have hc := st.facts; (try simp only [nfl, nft, Nat.reduceAdd] at hc))
    refine (HR.out _).mono ?_
    rintro en w ⟨rfl, hx⟩
    replace st := st.ext hx
    clear hx
    (try clear hc); have hc := st.facts; (try simp only [nfl, nft, Nat.reduceAdd] at hc)
    rw [H.out]
    go_wp2_with fail
    go_ret
    exact ⟨none, 0, 0, rfl, by rw [HE.out, H.out]; exact (st.row_nil 5 1).toFresh (i := 2) get2⟩
  | true =>
    obtain ⟨hh, hcs⟩ := credR_cases hr
    have H := Lib.hid hr
    obtain ⟨k, ⟨ho, hd⟩, nw, ⟨bo, bd⟩, ⟨co, cd⟩, we⟩ := x
    simp only at hh hcs
    have hb1 := roleB_len hh
    have HH := Lib.hid hh
    clear hl hr hh
    have st := Own.startOld W
    unfold cV S at *
    simp only at HR
    (try simp only [nsl, Value.cells, unB] at st)
    (try clear hc); have hc := st.facts; (try simp only [nfl, nft, Nat.reduceAdd] at hc)
    rcases hcs with ⟨rfl, hw, -, -, -⟩ | ⟨-, hbr, ⟨rfl, -, -⟩ | ⟨rfl, -, -, he⟩ | ⟨rfl, -, hcr, -⟩⟩
    · have hl2 := (nameR_len hw).2
      have hb2 : (numB nw.length).length ≤ 10 := numF_len 10 nw.length
      have hnk : (numB 1).length = 1 := by decide +kernel
      have HW := Lib.hid hw
      clear hw
      go_enter Try.func59, Try.ntmps59
      go_wp2_with ((((with_reducible refine wl_box ?_ (fun K hK => ?_)); rfl; refine owp_box (o := ⟨some 1, _, _, _, _, _⟩) rfl st ?_; apply Exists.intro; refine ⟨?_, ?_⟩; (focus (go_simp; try rfl)); (clear st; intro b1 w hb st; clear hb))); (try simp only [nsl, Value.cells, unB] at st); (try clear hc); have hc := st.facts; (try simp only [nfl, nft, Nat.reduceAdd] at hc))
      refine (HR.out _).mono ?_
      rintro en w ⟨rfl, hx⟩
      replace st := st.ext hx
      clear hx
      (try clear hc); have hc := st.facts; (try simp only [nfl, nft, Nat.reduceAdd] at hc)
      rw [H.out]
      go_wp2_with ((((with_reducible refine wl_box ?_ (fun K hK => ?_)); rfl; refine owp_box (o := ⟨some 8, _, _, _, _, _⟩) rfl st ?_; apply Exists.intro; refine ⟨?_, ?_⟩; (focus (go_simp; try rfl)); (clear st; intro b8 w hb st; clear hb))); (try simp only [nsl, Value.cells, unB] at st); (try clear hc); have hc := st.facts; (try simp only [nfl, nft, Nat.reduceAdd] at hc))
      replace st := st.newPen (i := 2) get2
      (try simp only [nsl, Value.cells, unB] at st)
      (try clear hc); have hc := st.facts; (try simp only [nfl, nft, Nat.reduceAdd] at hc)
      obtain ⟨fr', al', st', back⟩ := st.sub [2] (by decide) (by simp)
      (try simp only [nsl, Value.cells, unB] at st')
      refine (penNumber_c st' 1 (by decide) (by simp)).mono ?_
      clear st'
      rintro en w ⟨rfl, st'⟩
      replace st := back _ _ (by simp) st'
      clear back st'
      (try simp only [nsl, Value.cells, unB] at st)
      (try clear hc); have hc := st.facts; (try simp only [nfl, nft, Nat.reduceAdd] at hc)
      go_wp2_with fail
      (try rw [List.nil_append] at st)
      obtain ⟨fr', al', st', back⟩ := st.sub [2] (by decide) (by simp)
      (try simp only [nsl, Value.cells, unB] at st')
      refine (rolePut_yes st' (ho, hd) HH.out (by omega)).mono ?_
      clear st'
      rintro en w ⟨rfl, st'⟩
      replace st := back _ _ (by simp) st'
      clear back st'
      (try simp only [nsl, Value.cells, unB] at st)
      (try clear hc); have hc := st.facts; (try simp only [nfl, nft, Nat.reduceAdd] at hc)
      go_wp2_with fail
      obtain ⟨fr', al', st', back⟩ := st.sub [2] (by decide) (by simp)
      (try simp only [nsl, Value.cells, unB] at st')
      refine (namePut_yes st' nw HW.out (by simp; omega)).mono ?_
      clear st'
      rintro en w ⟨rfl, st'⟩
      replace st := back _ _ (by simp) st'
      clear back st'
      (try simp only [nsl, Value.cells, unB] at st)
      (try clear hc); have hc := st.facts; (try simp only [nfl, nft, Nat.reduceAdd] at hc)
      obtain ⟨u, hu⟩ : ∃ u, (numB 1 ++ roleB (ho, hd) ++ (numB nw.length ++ nw)) = u := ⟨_, rfl⟩
      rw [hu] at st
      have HU : Hid (r = u) := Lib.hid (by rw [HE.out, if_pos H.out, ← hu]; simp [credB])
      have hul : u.length ≤ 300 := by rw [← hu]; simp; omega
      clear hu
      go_wp2_with fail
      obtain ⟨fr', al', st', back⟩ := st.sub [2] (by decide) (by simp)
      (try simp only [nsl, Value.cells, unB] at st')
      refine (penBytesRow_c st' (by omega)).mono ?_
      clear st'
      rintro en w ⟨pa, pc, rfl, hpc, st'⟩
      replace st := back _ _ (by simp) st'
      clear back st'
      (try simp only [nsl, Value.cells, unB] at st)
      (try clear hc); have hc := st.facts; (try simp only [nfl, nft, Nat.reduceAdd] at hc)
      go_wp2_with fail
      go_ret
      exact ⟨_, _, _, rfl, by rw [HU.out]; exact st.toFresh (i := 3) get3⟩
    · have hb2 := roleB_len hbr
      have HW := Lib.hid hbr
      have hnk : (numB 2).length = 1 := by decide +kernel
      clear hbr
      go_enter Try.func59, Try.ntmps59
      go_wp2_with ((((with_reducible refine wl_box ?_ (fun K hK => ?_)); rfl; refine owp_box (o := ⟨some 1, _, _, _, _, _⟩) rfl st ?_; apply Exists.intro; refine ⟨?_, ?_⟩; (focus (go_simp; try rfl)); (clear st; intro b1 w hb st; clear hb))); (try simp only [nsl, Value.cells, unB] at st); (try clear hc); have hc := st.facts; (try simp only [nfl, nft, Nat.reduceAdd] at hc))
      refine (HR.out _).mono ?_
      rintro en w ⟨rfl, hx⟩
      replace st := st.ext hx
      clear hx
      (try clear hc); have hc := st.facts; (try simp only [nfl, nft, Nat.reduceAdd] at hc)
      rw [H.out]
      go_wp2_with ((((with_reducible refine wl_box ?_ (fun K hK => ?_)); rfl; refine owp_box (o := ⟨some 8, _, _, _, _, _⟩) rfl st ?_; apply Exists.intro; refine ⟨?_, ?_⟩; (focus (go_simp; try rfl)); (clear st; intro b8 w hb st; clear hb))); (try simp only [nsl, Value.cells, unB] at st); (try clear hc); have hc := st.facts; (try simp only [nfl, nft, Nat.reduceAdd] at hc))
      replace st := st.newPen (i := 2) get2
      (try simp only [nsl, Value.cells, unB] at st)
      (try clear hc); have hc := st.facts; (try simp only [nfl, nft, Nat.reduceAdd] at hc)
      obtain ⟨fr', al', st', back⟩ := st.sub [2] (by decide) (by simp)
      (try simp only [nsl, Value.cells, unB] at st')
      refine (penNumber_c st' 2 (by decide) (by simp)).mono ?_
      clear st'
      rintro en w ⟨rfl, st'⟩
      replace st := back _ _ (by simp) st'
      clear back st'
      (try simp only [nsl, Value.cells, unB] at st)
      (try clear hc); have hc := st.facts; (try simp only [nfl, nft, Nat.reduceAdd] at hc)
      go_wp2_with fail
      (try rw [List.nil_append] at st)
      obtain ⟨fr', al', st', back⟩ := st.sub [2] (by decide) (by simp)
      (try simp only [nsl, Value.cells, unB] at st')
      refine (rolePut_yes st' (ho, hd) HH.out (by omega)).mono ?_
      clear st'
      rintro en w ⟨rfl, st'⟩
      replace st := back _ _ (by simp) st'
      clear back st'
      (try simp only [nsl, Value.cells, unB] at st)
      (try clear hc); have hc := st.facts; (try simp only [nfl, nft, Nat.reduceAdd] at hc)
      go_wp2_with fail
      obtain ⟨fr', al', st', back⟩ := st.sub [2] (by decide) (by simp)
      (try simp only [nsl, Value.cells, unB] at st')
      refine (rolePut_yes st' (bo, bd) HW.out (by simp; omega)).mono ?_
      clear st'
      rintro en w ⟨rfl, st'⟩
      replace st := back _ _ (by simp) st'
      clear back st'
      (try simp only [nsl, Value.cells, unB] at st)
      (try clear hc); have hc := st.facts; (try simp only [nfl, nft, Nat.reduceAdd] at hc)
      obtain ⟨u, hu⟩ : ∃ u, (numB 2 ++ roleB (ho, hd) ++ roleB (bo, bd)) = u := ⟨_, rfl⟩
      rw [hu] at st
      have HU : Hid (r = u) := Lib.hid (by rw [HE.out, if_pos H.out, ← hu]; simp [credB])
      have hul : u.length ≤ 300 := by rw [← hu]; simp; omega
      clear hu
      go_wp2_with fail
      obtain ⟨fr', al', st', back⟩ := st.sub [2] (by decide) (by simp)
      (try simp only [nsl, Value.cells, unB] at st')
      refine (penBytesRow_c st' (by omega)).mono ?_
      clear st'
      rintro en w ⟨pa, pc, rfl, hpc, st'⟩
      replace st := back _ _ (by simp) st'
      clear back st'
      (try simp only [nsl, Value.cells, unB] at st)
      (try clear hc); have hc := st.facts; (try simp only [nfl, nft, Nat.reduceAdd] at hc)
      go_wp2_with fail
      go_ret
      exact ⟨_, _, _, rfl, by rw [HU.out]; exact st.toFresh (i := 3) get3⟩
    · have hb2 := roleB_len hbr
      have HW := Lib.hid hbr
      have HN := Lib.hid he
      have hl2 := (nameR_len he).2
      have hb3 : (numB we.length).length ≤ 10 := numF_len 10 we.length
      have hnk : (numB 3).length = 1 := by decide +kernel
      clear hbr he
      go_enter Try.func59, Try.ntmps59
      go_wp2_with ((((with_reducible refine wl_box ?_ (fun K hK => ?_)); rfl; refine owp_box (o := ⟨some 1, _, _, _, _, _⟩) rfl st ?_; apply Exists.intro; refine ⟨?_, ?_⟩; (focus (go_simp; try rfl)); (clear st; intro b1 w hb st; clear hb))); (try simp only [nsl, Value.cells, unB] at st); (try clear hc); have hc := st.facts; (try simp only [nfl, nft, Nat.reduceAdd] at hc))
      refine (HR.out _).mono ?_
      rintro en w ⟨rfl, hx⟩
      replace st := st.ext hx
      clear hx
      (try clear hc); have hc := st.facts; (try simp only [nfl, nft, Nat.reduceAdd] at hc)
      rw [H.out]
      go_wp2_with ((((with_reducible refine wl_box ?_ (fun K hK => ?_)); rfl; refine owp_box (o := ⟨some 8, _, _, _, _, _⟩) rfl st ?_; apply Exists.intro; refine ⟨?_, ?_⟩; (focus (go_simp; try rfl)); (clear st; intro b8 w hb st; clear hb))); (try simp only [nsl, Value.cells, unB] at st); (try clear hc); have hc := st.facts; (try simp only [nfl, nft, Nat.reduceAdd] at hc))
      replace st := st.newPen (i := 2) get2
      (try simp only [nsl, Value.cells, unB] at st)
      (try clear hc); have hc := st.facts; (try simp only [nfl, nft, Nat.reduceAdd] at hc)
      obtain ⟨fr', al', st', back⟩ := st.sub [2] (by decide) (by simp)
      (try simp only [nsl, Value.cells, unB] at st')
      refine (penNumber_c st' 3 (by decide) (by simp)).mono ?_
      clear st'
      rintro en w ⟨rfl, st'⟩
      replace st := back _ _ (by simp) st'
      clear back st'
      (try simp only [nsl, Value.cells, unB] at st)
      (try clear hc); have hc := st.facts; (try simp only [nfl, nft, Nat.reduceAdd] at hc)
      go_wp2_with fail
      (try rw [List.nil_append] at st)
      obtain ⟨fr', al', st', back⟩ := st.sub [2] (by decide) (by simp)
      (try simp only [nsl, Value.cells, unB] at st')
      refine (rolePut_yes st' (ho, hd) HH.out (by omega)).mono ?_
      clear st'
      rintro en w ⟨rfl, st'⟩
      replace st := back _ _ (by simp) st'
      clear back st'
      (try simp only [nsl, Value.cells, unB] at st)
      (try clear hc); have hc := st.facts; (try simp only [nfl, nft, Nat.reduceAdd] at hc)
      go_wp2_with fail
      obtain ⟨fr', al', st', back⟩ := st.sub [2] (by decide) (by simp)
      (try simp only [nsl, Value.cells, unB] at st')
      refine (rolePut_yes st' (bo, bd) HW.out (by simp; omega)).mono ?_
      clear st'
      rintro en w ⟨rfl, st'⟩
      replace st := back _ _ (by simp) st'
      clear back st'
      (try simp only [nsl, Value.cells, unB] at st)
      (try clear hc); have hc := st.facts; (try simp only [nfl, nft, Nat.reduceAdd] at hc)
      go_wp2_with fail
      obtain ⟨fr', al', st', back⟩ := st.sub [2] (by decide) (by simp)
      (try simp only [nsl, Value.cells, unB] at st')
      refine (namePut_yes st' we HN.out (by simp; omega)).mono ?_
      clear st'
      rintro en w ⟨rfl, st'⟩
      replace st := back _ _ (by simp) st'
      clear back st'
      (try simp only [nsl, Value.cells, unB] at st)
      (try clear hc); have hc := st.facts; (try simp only [nfl, nft, Nat.reduceAdd] at hc)
      obtain ⟨u, hu⟩ : ∃ u, (numB 3 ++ roleB (ho, hd) ++ roleB (bo, bd) ++ (numB we.length ++ we)) = u := ⟨_, rfl⟩
      rw [hu] at st
      have HU : Hid (r = u) := Lib.hid (by rw [HE.out, if_pos H.out, ← hu]; simp [credB])
      have hul : u.length ≤ 300 := by rw [← hu]; simp; omega
      clear hu
      go_wp2_with fail
      obtain ⟨fr', al', st', back⟩ := st.sub [2] (by decide) (by simp)
      (try simp only [nsl, Value.cells, unB] at st')
      refine (penBytesRow_c st' (by omega)).mono ?_
      clear st'
      rintro en w ⟨pa, pc, rfl, hpc, st'⟩
      replace st := back _ _ (by simp) st'
      clear back st'
      (try simp only [nsl, Value.cells, unB] at st)
      (try clear hc); have hc := st.facts; (try simp only [nfl, nft, Nat.reduceAdd] at hc)
      go_wp2_with fail
      go_ret
      exact ⟨_, _, _, rfl, by rw [HU.out]; exact st.toFresh (i := 3) get3⟩
    · have hb2 := roleB_len hbr
      have hb3 := roleB_len hcr
      have HW := Lib.hid hbr
      have HN := Lib.hid hcr
      have hnk : (numB 4).length = 1 := by decide +kernel
      clear hbr hcr
      go_enter Try.func59, Try.ntmps59
      go_wp2_with ((((with_reducible refine wl_box ?_ (fun K hK => ?_)); rfl; refine owp_box (o := ⟨some 1, _, _, _, _, _⟩) rfl st ?_; apply Exists.intro; refine ⟨?_, ?_⟩; (focus (go_simp; try rfl)); (clear st; intro b1 w hb st; clear hb))); (try simp only [nsl, Value.cells, unB] at st); (try clear hc); have hc := st.facts; (try simp only [nfl, nft, Nat.reduceAdd] at hc))
      refine (HR.out _).mono ?_
      rintro en w ⟨rfl, hx⟩
      replace st := st.ext hx
      clear hx
      (try clear hc); have hc := st.facts; (try simp only [nfl, nft, Nat.reduceAdd] at hc)
      rw [H.out]
      go_wp2_with ((((with_reducible refine wl_box ?_ (fun K hK => ?_)); rfl; refine owp_box (o := ⟨some 8, _, _, _, _, _⟩) rfl st ?_; apply Exists.intro; refine ⟨?_, ?_⟩; (focus (go_simp; try rfl)); (clear st; intro b8 w hb st; clear hb))); (try simp only [nsl, Value.cells, unB] at st); (try clear hc); have hc := st.facts; (try simp only [nfl, nft, Nat.reduceAdd] at hc))
      replace st := st.newPen (i := 2) get2
      (try simp only [nsl, Value.cells, unB] at st)
      (try clear hc); have hc := st.facts; (try simp only [nfl, nft, Nat.reduceAdd] at hc)
      obtain ⟨fr', al', st', back⟩ := st.sub [2] (by decide) (by simp)
      (try simp only [nsl, Value.cells, unB] at st')
      refine (penNumber_c st' 4 (by decide) (by simp)).mono ?_
      clear st'
      rintro en w ⟨rfl, st'⟩
      replace st := back _ _ (by simp) st'
      clear back st'
      (try simp only [nsl, Value.cells, unB] at st)
      (try clear hc); have hc := st.facts; (try simp only [nfl, nft, Nat.reduceAdd] at hc)
      go_wp2_with fail
      (try rw [List.nil_append] at st)
      obtain ⟨fr', al', st', back⟩ := st.sub [2] (by decide) (by simp)
      (try simp only [nsl, Value.cells, unB] at st')
      refine (rolePut_yes st' (ho, hd) HH.out (by omega)).mono ?_
      clear st'
      rintro en w ⟨rfl, st'⟩
      replace st := back _ _ (by simp) st'
      clear back st'
      (try simp only [nsl, Value.cells, unB] at st)
      (try clear hc); have hc := st.facts; (try simp only [nfl, nft, Nat.reduceAdd] at hc)
      go_wp2_with fail
      obtain ⟨fr', al', st', back⟩ := st.sub [2] (by decide) (by simp)
      (try simp only [nsl, Value.cells, unB] at st')
      refine (rolePut_yes st' (bo, bd) HW.out (by simp; omega)).mono ?_
      clear st'
      rintro en w ⟨rfl, st'⟩
      replace st := back _ _ (by simp) st'
      clear back st'
      (try simp only [nsl, Value.cells, unB] at st)
      (try clear hc); have hc := st.facts; (try simp only [nfl, nft, Nat.reduceAdd] at hc)
      go_wp2_with fail
      obtain ⟨fr', al', st', back⟩ := st.sub [2] (by decide) (by simp)
      (try simp only [nsl, Value.cells, unB] at st')
      refine (rolePut_yes st' (co, cd) HN.out (by simp; omega)).mono ?_
      clear st'
      rintro en w ⟨rfl, st'⟩
      replace st := back _ _ (by simp) st'
      clear back st'
      (try simp only [nsl, Value.cells, unB] at st)
      (try clear hc); have hc := st.facts; (try simp only [nfl, nft, Nat.reduceAdd] at hc)
      obtain ⟨u, hu⟩ : ∃ u, (numB 4 ++ roleB (ho, hd) ++ roleB (bo, bd) ++ roleB (co, cd)) = u := ⟨_, rfl⟩
      rw [hu] at st
      have HU : Hid (r = u) := Lib.hid (by rw [HE.out, if_pos H.out, ← hu]; simp [credB])
      have hul : u.length ≤ 300 := by rw [← hu]; simp; omega
      clear hu
      go_wp2_with fail
      obtain ⟨fr', al', st', back⟩ := st.sub [2] (by decide) (by simp)
      (try simp only [nsl, Value.cells, unB] at st')
      refine (penBytesRow_c st' (by omega)).mono ?_
      clear st'
      rintro en w ⟨pa, pc, rfl, hpc, st'⟩
      replace st := back _ _ (by simp) st'
      clear back st'
      (try simp only [nsl, Value.cells, unB] at st)
      (try clear hc); have hc := st.facts; (try simp only [nfl, nft, Nat.reduceAdd] at hc)
      go_wp2_with fail
      go_ret
      exact ⟨_, _, _, rfl, by rw [HU.out]; exact st.toFresh (i := 3) get3⟩
end Go.Proofs.Ytmlhilgdjedeoaa

namespace Go.Proofs.Ytmlhilgdjedeoaa
set_option linter.unusedSimpArgs false
set_option linter.unusedVariables false
open Go Go.RowKit
def sgB (x : SgnT) : List UInt8 := credB x.c ++ (numB x.n ++ x.xs)
def mgB (x : MsgT) : List UInt8 := numB x.k.toNat ++
  (if x.k = 1 then (numB x.nm.length ++ x.nm) ++ numB x.p.toNat else if x.k = 2 then numB x.wn ++ x.ws.flatMap roleB ++ numB x.sn ++ x.ss.flatMap sgB else if x.k = 5 then numB x.e.toNat else [])
/-- The bytes of any message. -/
def mgBy (x : MsgT) : List UInt8 := if mgR x = true then mgB x else []
theorem sgB_len {x : SgnT} (h : credR x.c = true) (hn : x.n = 8) (hx : x.n = x.xs.length) : (sgB x).length ≤ 400 := by
  have h1 := credB_len2 h
  have h2 : (numB x.n).length ≤ 10 := numF_len 10 x.n
  unfold sgB
  simp only [List.length_append]
  omega
theorem showsR_is {l : List SgnT} (h : showsR l = true) : l.length ≤ 8 ∧ ∀ x ∈ l, credR x.c = true ∧ x.n = 8 := by
  unfold showsR at h
  rw [Bool.and_eq_true, decide_eq_true_eq, List.all_eq_true] at h
  refine ⟨h.2, fun x hx => ?_⟩
  obtain ⟨j, hj, rfl⟩ := List.mem_iff_getElem.1 hx
  have := h.1 j (by simpa using hj)
  unfold shAt at this
  rw [List.getElem?_eq_getElem hj] at this
  simp only [Bool.and_eq_true, beq_iff_eq] at this
  exact ⟨this.1.1, this.1.2⟩
theorem wantsR_is {l : List Role} (h : wantsR l = true) : l.length ≤ 16 ∧ ∀ x ∈ l, roleR x = true := by
  unfold wantsR at h
  rw [Bool.and_eq_true, decide_eq_true_eq, decide_eq_true_eq] at h
  refine ⟨h.1, fun x hx => ?_⟩
  rw [← h.2] at hx
  exact ((roleSet_set l).2 x).1 hx |>.2
theorem mgR_k {x : MsgT} (h : mgR x = true) : kindR x = true ∧ (x.k = 1 ∨ x.k = 2 ∨ x.k = 3 ∨ x.k = 4 ∨ x.k = 5) := by
  unfold mgR at h
  rw [Bool.and_eq_true] at h
  refine ⟨h.2, ?_⟩
  have h2 := h.2
  unfold kindR at h2
  split at h2
  · exact .inl (by assumption)
  · split at h2
    · exact .inr (.inl (by assumption))
    · split at h2
      · exact .inr (.inr (.inr (.inr (by assumption))))
      · simp at h2
        rcases h2 with q | q
        · exact .inr (.inr (.inl q))
        · exact .inr (.inr (.inr (.inl q)))
theorem mgR_1 {x : MsgT} (h : mgR x = true) (k : x.k = 1) : nameR x.nm = true ∧ (x.p = 1 ∨ x.p = 2) := by
  have := (mgR_k h).1
  unfold kindR at this
  rw [if_pos k] at this
  simpa using this
theorem mgR_2 {x : MsgT} (h : mgR x = true) (k : x.k = 2) : wantsR x.ws = true ∧ showsR x.ss = true := by
  have := (mgR_k h).1
  unfold kindR at this
  rw [if_neg (by omega), if_pos k] at this
  simpa using this
theorem mgR_5 {x : MsgT} (h : mgR x = true) (k : x.k = 5) : 1 ≤ x.e ∧ x.e ≤ 99 := by
  have := (mgR_k h).1
  unfold kindR at this
  rw [if_neg (by omega), if_neg (by omega), if_pos k] at this
  simpa using this
theorem flatLen {α : Type} (f : α → List UInt8) (n : Nat) : ∀ l : List α, (∀ x ∈ l, (f x).length ≤ n) → (l.flatMap f).length ≤ n * l.length
  | [], _ => by simp
  | x :: l, h => by
    have h1 := h x (by simp)
    have h2 := flatLen f n l fun y hy => h y (by simp [hy])
    simp only [List.flatMap_cons, List.length_append, List.length_cons, Nat.mul_add, Nat.mul_one]
    omega
set_option maxRecDepth 100000 in
set_option maxHeartbeats 2000000 in
theorem keysPut_yes {fr al : Nat → Prop} {W : World} {p : Nat} {xs : List UInt8} (x : SgnT) (st : Own fr al W [penI p xs, byI x.a x.n x.xs] W) (hr : credR x.c = true) (hn : x.n = 8) (hl : xs.length ≤ 1000000) :
    Calls Try.prog 62 #[.pointer (some ⟨p, 0, none⟩), sgV x] W fun e w' => e = .returned (.bool true) ∧ Own fr al W [penI p (xs ++ sgB x), byI x.a x.n x.xs] w' := by
  have hb1 := credB_len2 hr
  have HC1 : Hid (credBy x.c = credB x.c) := Lib.hid (by unfold credBy; rw [if_pos hr])
  have HQ := Lib.hid (fun W => credBytes_f x.c W (credR_L hr))
  rw [HC1.out] at HQ
  have HCR := Lib.hid (fun W => credRight_any x.c W (credR_S hr))
  rw [hr] at HCR
  obtain ⟨u, hu⟩ : ∃ u, credB x.c = u := ⟨_, rfl⟩
  have HX : Hid (sgB x = u ++ (numB x.n ++ x.xs)) := Lib.hid (by rw [← hu]; rfl)
  rw [hu] at HQ hb1
  clear hu HC1 hr
  obtain ⟨⟨ck, ⟨ho, hd⟩, cw, ⟨bo, bd⟩, ⟨co, cd⟩, we⟩, a1, n1, m1, tg⟩ := x
  simp only at st hn HX
  subst hn
  unfold cV S at HQ HCR
  unfold sgV S
  simp only at HQ HCR ⊢
  (try simp only [nsl, Value.cells, unB] at st)
  (try clear hc); have hc := st.facts; (try simp only [nfl, nft, Nat.reduceAdd] at hc)
  go_enter Try.func62, Try.ntmps62
  go_wp2_with ((((with_reducible refine wl_box ?_ (fun K hK => ?_)); rfl; refine owp_box (o := ⟨some 3, _, _, _, _, _⟩) rfl st ?_; apply Exists.intro; refine ⟨?_, ?_⟩; (focus (go_simp; try rfl)); (clear st; intro b3 w hb st; clear hb))); (try simp only [nsl, Value.cells, unB] at st); (try clear hc); have hc := st.facts; (try simp only [nfl, nft, Nat.reduceAdd] at hc))
  refine (HCR.out _).mono ?_
  rintro en w ⟨rfl, hx⟩
  replace st := st.ext hx
  clear hx
  (try clear hc); have hc := st.facts; (try simp only [nfl, nft, Nat.reduceAdd] at hc)
  go_wp2_with fail
  refine (HQ.out _).mono ?_
  rintro en w ⟨pa, pn, pc, rfl, hfr⟩
  have hpn : pn = u.length := (hfr.by).2.1
  subst hpn
  replace st := st.fresh hfr
  clear hfr
  (try simp only [nsl, Value.cells, unB] at st)
  (try clear hc); have hc := st.facts; (try simp only [nfl, nft, Nat.reduceAdd] at hc)
  replace st := st.freezeRow (i := 3) get3
  (try simp only [nsl, Value.cells, unB] at st)
  (try clear hc); have hc := st.facts; (try simp only [nfl, nft, Nat.reduceAdd] at hc)
  go_wp2_with fail
  obtain ⟨fr', al', st', back⟩ := st.sub [0, 3] (by decide) (by simp)
  (try simp only [nsl, Value.cells, unB] at st')
  refine (penRaw_c st' (by omega)).mono ?_
  clear st'
  rintro en w ⟨rfl, st'⟩
  replace st := back _ _ (by simp) st'
  clear back st'
  (try simp only [nsl, Value.cells, unB] at st)
  (try clear hc); have hc := st.facts; (try simp only [nfl, nft, Nat.reduceAdd] at hc)
  go_wp2_with fail
  obtain ⟨fr', al', st', back⟩ := st.sub [0, 1] (by decide) (by simp)
  (try simp only [nsl, Value.cells, unB] at st')
  refine (penText_c st' (by omega) (by simp; omega)).mono ?_
  clear st'
  rintro en w ⟨rfl, st'⟩
  replace st := back _ _ (by simp) st'
  clear back st'
  (try simp only [nsl, Value.cells, unB] at st)
  (try clear hc); have hc := st.facts; (try simp only [nfl, nft, Nat.reduceAdd] at hc)
  go_wp2_with fail
  go_ret
  have st' := st.keep [0, 1] (by decide) (by simp)
  exact ⟨rfl, by rw [HX.out]; simpa [pick] using st'⟩
theorem Own.oldMg {fr al : Nat → Prop} {w0 w W0 : World} {L : List It} (st : Own fr al w0 L w) {i : Nat} (hi : L[i]? = some (oldI W0)) {x : MsgT} (h : MgOk W0 x) : MgOk w x :=
  ⟨⟨h.1.1, st.oldFl hi h.1.2⟩, ⟨h.2.1.1, st.oldFl hi h.2.1.2⟩, fun y hy => ⟨(h.2.2 y hy).1, st.oldBy hi (h.2.2 y hy).2⟩⟩
set_option maxRecDepth 100000 in
set_option maxHeartbeats 8000000 in
theorem msgPut_yes {fr al : Nat → Prop} {W W0 : World} {p : Nat} {xs : List UInt8} (x : MsgT) (st : Own fr al W [penI p xs, oldI W0] W) (hx0 : MgOk W0 x) (lx : MgL x) (hr : mgR x = true) (hl : xs.length ≤ 100000) :
    Calls Try.prog 40 #[.pointer (some ⟨p, 0, none⟩), mgV x] W fun e w' => e = .returned (.bool true) ∧ Own fr al W [penI p (xs ++ mgB x), oldI W0] w' := by
  have HMR := Lib.hid (fun W' (h : MgOk W' x) => msgRight_any x W' h lx)
  rw [hr] at HMR
  have hk := (mgR_k hr).2
  have HX0 := Lib.hid hx0
  have HX := Lib.hid hx0
  have HB : Hid (mgB x = numB x.k.toNat ++
    (if x.k = 1 then (numB x.nm.length ++ x.nm) ++ numB x.p.toNat else if x.k = 2 then numB x.wn ++ x.ws.flatMap roleB ++ numB x.sn ++ x.ss.flatMap sgB else if x.k = 5 then numB x.e.toNat else [])) := Lib.hid rfl
  have H1 := Lib.hid (mgR_1 hr)
  have H2 := Lib.hid (fun q => (And.intro (wantsR_is (mgR_2 hr q).1) (showsR_is (mgR_2 hr q).2)))
  have H5 := Lib.hid (mgR_5 hr)
  have lnm := lx.2.2.1
  clear hx0 lx hr
  obtain ⟨k, pl, e, nm, wa, wn, wc, ws, sa, sn, sc, ss⟩ := x
  simp only at hk HB H1 H2 H5 lnm
  unfold mgV S at HMR
  unfold MgOk at HX
  simp only at HX
  unfold mgV S
  (try simp only [nsl, Value.cells, unB] at st)
  (try clear hc); have hc := st.facts; (try simp only [nfl, nft, Nat.reduceAdd] at hc)
  rcases hk with rfl | rfl | rfl | rfl | rfl
  · obtain ⟨hn1, hp1⟩ := H1.out rfl
    obtain ⟨pn, rfl⟩ : ∃ q : Nat, pl = (q : Int) := ⟨pl.toNat, by omega⟩
    have HN1 := Lib.hid hn1
    have hl3 := (nameR_len hn1).2
    have hb3 : (numB nm.length).length ≤ 10 := numF_len 10 nm.length
    have hb1 : (numB 1).length ≤ 10 := numF_len 10 1
    have HF : Hid (mgB { k := 1, p := (pn : Int), e := e, nm := nm, wa := wa, wn := wn, wc := wc, ws := ws, sa := sa, sn := sn, sc := sc, ss := ss } = numB 1 ++ (numB nm.length ++ nm) ++ numB pn) := Lib.hid (by rw [HB.out, if_pos rfl]; simp)
    have hpn : pn ≤ 2 := by omega
    clear hn1 hp1 HB H1 H2 H5
    go_enter Try.func40, Try.ntmps40
    go_wp2_with ((((with_reducible refine wl_box ?_ (fun K hK => ?_)); rfl; refine owp_box (o := ⟨some 3, _, _, _, _, _⟩) rfl st ?_; apply Exists.intro; refine ⟨?_, ?_⟩; (focus (go_simp; try rfl)); (clear st; intro b3 w hb st; clear hb))); (try simp only [nsl, Value.cells, unB] at st); (try clear hc); have hc := st.facts; (try simp only [nfl, nft, Nat.reduceAdd] at hc))
    refine (HMR.out _ (st.oldMg (i := 1) get1 HX0.out)).mono ?_
    rintro en w ⟨rfl, hx⟩
    replace st := st.ext hx
    clear hx
    (try simp only [nsl, Value.cells, unB] at st)
    (try clear hc); have hc := st.facts; (try simp only [nfl, nft, Nat.reduceAdd] at hc)
    go_wp2_with fail
    obtain ⟨fr', al', st', back⟩ := st.sub [0] (by decide) (by simp)
    (try simp only [nsl, Value.cells, unB] at st')
    refine (penNumber_c st' 1 (by decide) (by omega)).mono ?_
    clear st'
    rintro en w ⟨rfl, st'⟩
    replace st := back _ _ (by simp) st'
    clear back st'
    (try simp only [nsl, Value.cells, unB] at st)
    (try clear hc); have hc := st.facts; (try simp only [nfl, nft, Nat.reduceAdd] at hc)
    go_wp2_with fail
    obtain ⟨fr', al', st', back⟩ := st.sub [0] (by decide) (by simp)
    (try simp only [nsl, Value.cells, unB] at st')
    refine (namePut_yes st' nm HN1.out (by simp; omega)).mono ?_
    clear st'
    rintro en w ⟨rfl, st'⟩
    replace st := back _ _ (by simp) st'
    clear back st'
    (try simp only [nsl, Value.cells, unB] at st)
    (try clear hc); have hc := st.facts; (try simp only [nfl, nft, Nat.reduceAdd] at hc)
    go_wp2_with fail
    obtain ⟨fr', al', st', back⟩ := st.sub [0] (by decide) (by simp)
    (try simp only [nsl, Value.cells, unB] at st')
    refine (penNumber_c st' pn (by omega) (by simp; omega)).mono ?_
    clear st'
    rintro en w ⟨rfl, st'⟩
    replace st := back _ _ (by simp) st'
    clear back st'
    (try simp only [nsl, Value.cells, unB] at st)
    (try clear hc); have hc := st.facts; (try simp only [nfl, nft, Nat.reduceAdd] at hc)
    go_wp2_with fail
    go_ret
    have st' := st.keep [0, 1] (by decide) (by simp)
    exact ⟨rfl, by rw [HF.out]; simpa [pick] using st'⟩
  · obtain ⟨⟨hwl, hwr⟩, hsl, hsr⟩ := H2.out rfl
    have HF : Hid (mgB { k := 2, p := pl, e := e, nm := nm, wa := wa, wn := wn, wc := wc, ws := ws, sa := sa, sn := sn, sc := sc, ss := ss } = numB 2 ++ (numB wn ++ ws.flatMap roleB ++ numB sn ++ ss.flatMap sgB)) := Lib.hid (by rw [HB.out, if_neg (by decide), if_pos rfl]; rfl)
    have hw1 : wn = ws.length := HX.out.1.2.1
    have hs1 : sn = ss.length := HX.out.2.1.2.1
    have HWR := Lib.hid (And.intro hwr hw1)
    have HSR := Lib.hid (And.intro hsr hs1)
    have hwn : wn ≤ 16 := by omega
    have hsn : sn ≤ 8 := by omega
    have hb1 : (numB 2).length ≤ 10 := numF_len 10 2
    have hb2 : (numB wn).length ≤ 10 := numF_len 10 wn
    have hb3 : (numB sn).length ≤ 10 := numF_len 10 sn
    clear hwl hwr hsl hsr HB H1 H2 H5 hw1 hs1
    go_enter Try.func40, Try.ntmps40
    go_wp2_with ((((with_reducible refine wl_box ?_ (fun K hK => ?_)); rfl; refine owp_box (o := ⟨some 3, _, _, _, _, _⟩) rfl st ?_; apply Exists.intro; refine ⟨?_, ?_⟩; (focus (go_simp; try rfl)); (clear st; intro b3 w hb st; clear hb))); (try simp only [nsl, Value.cells, unB] at st); (try clear hc); have hc := st.facts; (try simp only [nfl, nft, Nat.reduceAdd] at hc))
    refine (HMR.out _ (st.oldMg (i := 1) get1 HX0.out)).mono ?_
    rintro en w ⟨rfl, hx⟩
    replace st := st.ext hx
    clear hx
    (try simp only [nsl, Value.cells, unB] at st)
    (try clear hc); have hc := st.facts; (try simp only [nfl, nft, Nat.reduceAdd] at hc)
    go_wp2_with fail
    obtain ⟨fr', al', st', back⟩ := st.sub [0] (by decide) (by simp)
    (try simp only [nsl, Value.cells, unB] at st')
    refine (penNumber_c st' 2 (by decide) (by omega)).mono ?_
    clear st'
    rintro en w ⟨rfl, st'⟩
    replace st := back _ _ (by simp) st'
    clear back st'
    (try simp only [nsl, Value.cells, unB] at st)
    (try clear hc); have hc := st.facts; (try simp only [nfl, nft, Nat.reduceAdd] at hc)
    go_wp2_with fail
    obtain ⟨fr', al', st', back⟩ := st.sub [0] (by decide) (by simp)
    (try simp only [nsl, Value.cells, unB] at st')
    refine (penNumber_c st' wn (by omega) (by simp; omega)).mono ?_
    clear st'
    rintro en w ⟨rfl, st'⟩
    replace st := back _ _ (by simp) st'
    clear back st'
    (try simp only [nsl, Value.cells, unB] at st)
    (try clear hc); have hc := st.facts; (try simp only [nfl, nft, Nat.reduceAdd] at hc)
    go_wp2_with fail
    obtain ⟨y0, hy0⟩ : ∃ y, xs ++ numB 2 ++ numB wn = y := ⟨_, rfl⟩
    have hyl : y0.length ≤ 100020 := by rw [← hy0]; simp; omega
    rw [hy0] at st
    have HY0 := Lib.hid hy0
    clear hy0
    go_loopg [42] wn (fun kk i wr => ∃ (j m : Nat) (ys : List UInt8), j ≤ wn ∧ kk = wn - j ∧ i = .int .i64 (j : Int) ∧ Hid (ys = y0 ++ (ws.take j).flatMap roleB) ∧ Hid (m = ys.length) ∧ m ≤ 100020 + 100 * j ∧ Own fr al W [penI p ys, oldI W0, blkI b3 [.int .i64 2, .int .i64 pl, .int .i64 e, .string ⟨nm.toArray⟩, .slice wa wn wc, .slice sa sn sc]] wr)
    case atStart => exact ⟨0, _, y0, by omega, by omega, rfl, Lib.hid (by simp), Lib.hid rfl, by omega, st⟩
    case round =>
      obtain ⟨j, m, ys, hj, rfl, rfl, HY, HM, hm, st'⟩ := hrel
      clear st hc
      have st := st'
      clear st'
      (try simp only [nsl, Value.cells, unB] at st)
      (try clear hc); have hc := st.facts; (try simp only [nfl, nft, Nat.reduceAdd] at hc)
      by_cases hjn : j < wn
      · obtain ⟨b, off, ha, hcell⟩ := HX.out.1.2.role (by omega)
        have hjl : j < ws.length := by have := HWR.out.2; omega
        obtain ⟨r0, r1⟩ := hcell j ws[j] (List.getElem?_eq_getElem hjl)
        replace r0 := st.oldCell (i := 1) get1 r0
        replace r1 := st.oldCell (i := 1) get1 r1
        have hts : ws.take (j + 1) = ws.take j ++ [ws[j]] := (List.take_append_getElem hjl).symm
        have hR := HWR.out.1 ws[j] (List.getElem_mem hjl)
        have hbl := roleB_len hR
        clear hcell
        generalize ws[j] = x at *
        obtain ⟨ro, rd⟩ := x
        have HX2 := Lib.hid (And.intro hts hR)
        clear hts hR hjl
        subst ha
        simp only at r0 r1
        unfold S at r0 r1
        have hml : ys.length ≤ 100020 + 100 * j := by have := HM.out; omega
        go_wp2_with ((first
              | ((with_reducible refine wl_alloc ?_ (fun K hK => ?_)); rfl; refine owp_alloc (o := ⟨some 6, _, _, _, _, _⟩) rfl st ?_; apply Exists.intro; apply Exists.intro; refine ⟨?_, ?_⟩; (focus (first | (go_simp; done) | (go_simp; rfl))); (clear st; intro b6 w hb st; clear hb))
              | ((with_reducible refine wl_store ?_ (fun K hK => ?_)); rfl; refine owp_store rfl st ?_; apply Exists.intro; apply Exists.intro; refine ⟨?_, ?_, ?_⟩; (focus (go_simp; try rfl)); (focus (go_simp; try rfl)); (with_reducible refine ⟨3, _, _, _, _, get3, rfl, rfl, ?_, ?_, ?_, ?_⟩); (kernel_rfl); (simp [Value.cells]); (rfl); (clear st; intro w st))); (try simp only [nsl, Value.cells, unB] at st); (try clear hc); have hc := st.facts; (try simp only [nfl, nft, Nat.reduceAdd] at hc))
        obtain ⟨fr', al', st', back⟩ := st.sub [0] (by decide) (by simp)
        (try simp only [nsl, Value.cells, unB] at st')
        refine (rolePut_yes st' (ro, rd) HX2.out.2 (by omega)).mono ?_
        clear st'
        rintro en w ⟨rfl, st'⟩
        replace st := back _ _ (by simp) st'
        clear back st'
        (try simp only [nsl, Value.cells, unB] at st)
        (try clear hc); have hc := st.facts; (try simp only [nfl, nft, Nat.reduceAdd] at hc)
        go_wp2_with fail
        have st' := st.keep [0, 1, 2] (by decide) (by simp)
        go_roundg (wn - (j + 1))
        case measure => omega
        case rel => exact ⟨j + 1, _, ys ++ roleB (ro, rd), by omega, by omega, by go_num, Lib.hid (by rw [HX2.out.1, List.flatMap_append, ← List.append_assoc, ← HY.out]; simp), Lib.hid rfl, by simp; omega, by simpa [pick] using st'⟩
      · obtain rfl : j = wn := by omega
        have HF2 : Hid (mgB { k := 2, p := pl, e := e, nm := nm, wa := wa, wn := j, wc := wc, ws := ws, sa := sa, sn := sn, sc := sc, ss := ss } = numB 2 ++ (numB j ++ ws.flatMap roleB ++ numB sn ++ ss.flatMap sgB)) := Lib.hid HF.out
        have HYE : Hid (xs ++ numB 2 ++ numB j ++ ws.flatMap roleB = ys) := Lib.hid (by rw [HY.out, HY0.out, List.take_of_length_le (by have := HWR.out.2; omega)])
        have hml : ys.length ≤ 102000 := by have := HM.out; omega
        clear HY HM hm HY0
        go_wp2_with fail
        obtain ⟨fr', al', st', back⟩ := st.sub [0] (by decide) (by simp)
        (try simp only [nsl, Value.cells, unB] at st')
        refine (penNumber_c st' sn (by omega) (by omega)).mono ?_
        clear st'
        rintro en w ⟨rfl, st'⟩
        replace st := back _ _ (by simp) st'
        clear back st'
        (try simp only [nsl, Value.cells, unB] at st)
        (try clear hc); have hc := st.facts; (try simp only [nfl, nft, Nat.reduceAdd] at hc)
        go_wp2_with fail
        obtain ⟨z0, hz0⟩ : ∃ z, ys ++ numB sn = z := ⟨_, rfl⟩
        have hzl : z0.length ≤ 102010 := by rw [← hz0]; simp; omega
        rw [hz0] at st
        have HZ0 := Lib.hid hz0
        clear hz0
        go_loopg [58] sn (fun kk i wr => ∃ (q m : Nat) (zs : List UInt8), q ≤ sn ∧ kk = sn - q ∧ i = .int .i64 (q : Int) ∧ Hid (zs = z0 ++ (ss.take q).flatMap sgB) ∧ Hid (m = zs.length) ∧ m ≤ 102010 + 400 * q ∧ Own fr al W [penI p zs, oldI W0, blkI b3 [.int .i64 2, .int .i64 pl, .int .i64 e, .string ⟨nm.toArray⟩, .slice wa j wc, .slice sa sn sc]] wr)
        case atStart => exact ⟨0, _, z0, by omega, by omega, rfl, Lib.hid (by simp), Lib.hid rfl, by omega, st⟩
        case round =>
          obtain ⟨q, m, zs, hq, rfl, rfl, HZ, HM, hm, st'⟩ := hrel
          clear st hc
          have st := st'
          clear st'
          (try simp only [nsl, Value.cells, unB] at st)
          (try clear hc); have hc := st.facts; (try simp only [nfl, nft, Nat.reduceAdd] at hc)
          by_cases hqn : q < sn
          · obtain ⟨b, off, ha, hcell⟩ := HX.out.2.1.2.sgn (by omega)
            have hql : q < ss.length := by have := HSR.out.2; omega
            obtain ⟨r0, r1, r2, r3, r4, r5, r6, r7, r8, r9⟩ := hcell q ss[q] (List.getElem?_eq_getElem hql)
            replace r0 := st.oldCell (i := 1) get1 r0
            replace r1 := st.oldCell (i := 1) get1 r1
            replace r2 := st.oldCell (i := 1) get1 r2
            replace r3 := st.oldCell (i := 1) get1 r3
            replace r4 := st.oldCell (i := 1) get1 r4
            replace r5 := st.oldCell (i := 1) get1 r5
            replace r6 := st.oldCell (i := 1) get1 r6
            replace r7 := st.oldCell (i := 1) get1 r7
            replace r8 := st.oldCell (i := 1) get1 r8
            replace r9 := st.oldCell (i := 1) get1 r9
            have hts : ss.take (q + 1) = ss.take q ++ [ss[q]] := (List.take_append_getElem hql).symm
            have hR := HSR.out.1 ss[q] (List.getElem_mem hql)
            have hSO := HX.out.2.2 ss[q] (List.getElem_mem hql)
            have hbl := sgB_len hR.1 hR.2 hSO.2.1
            replace st := st.addOldBy (i := 1) get1 hSO.2
            clear hcell
            generalize ss[q] = x at *
            have HX2 := Lib.hid (And.intro hts hR)
            have HKP := Lib.hid (fun (fr al : Nat → Prop) (W : World) (zs : List UInt8) (st : Own fr al W [penI p zs, byI x.a x.n x.xs] W) hl => keysPut_yes x st hR.1 hR.2 hl)
            obtain ⟨sb, hsb⟩ : ∃ s, sgB x = s := ⟨_, rfl⟩
            rw [hsb] at hbl HKP
            have HSB := Lib.hid hsb
            clear hts hR hql hSO hsb
            obtain ⟨⟨ck, ⟨ho, hd⟩, cw, ⟨bo, bd⟩, ⟨co, cd⟩, we⟩, a1, n1, m1, tg⟩ := x
            subst ha
            simp only at r0 r1 r2 r3 r4 r5 r6 r7 r8 r9
            unfold S at r1 r2 r3 r4 r5 r6 r7 r8
            unfold sgV S at HKP
            simp only at HKP st
            have hml : zs.length ≤ 102010 + 400 * q := by have := HM.out; omega
            (try simp only [nsl, Value.cells, unB] at st)
            (try clear hc); have hc := st.facts; (try simp only [nfl, nft, Nat.reduceAdd] at hc)
            go_wp2_with ((first
                  | ((with_reducible refine wl_store ?_ (fun K hK => ?_)); rfl; refine owp_store rfl st ?_; apply Exists.intro; apply Exists.intro; refine ⟨?_, ?_, ?_⟩; (focus (go_simp; try rfl)); (focus (go_simp; try rfl)); (with_reducible refine ⟨4, _, _, _, _, get4, rfl, rfl, ?_, ?_, ?_, ?_⟩); (kernel_rfl); (simp [Value.cells]); (rfl); (clear st; intro w st))
                  | ((with_reducible refine wl_alloc ?_ (fun K hK => ?_)); rfl; refine owp_alloc (o := ⟨some 8, _, _, _, _, _⟩) rfl st ?_; apply Exists.intro; apply Exists.intro; refine ⟨?_, ?_⟩; (focus (first | (go_simp; done) | (go_simp; rfl))); (clear st; intro b8 w hb st; clear hb))); (try simp only [nsl, Value.cells, unB] at st); (try clear hc); have hc := st.facts; (try simp only [nfl, nft, Nat.reduceAdd] at hc))
            obtain ⟨fr', al', st', back⟩ := st.sub [0, 3] (by decide) (by simp)
            (try simp only [nsl, Value.cells, unB] at st')
            refine (HKP.out _ _ _ _ st' (by omega)).mono ?_
            clear st'
            rintro en w ⟨rfl, st'⟩
            replace st := back _ _ (by simp) st'
            clear back st'
            (try simp only [nsl, Value.cells, unB] at st)
            (try clear hc); have hc := st.facts; (try simp only [nfl, nft, Nat.reduceAdd] at hc)
            go_wp2_with fail
            have st' := st.keep [0, 1, 2] (by decide) (by simp)
            go_roundg (sn - (q + 1))
            case measure => omega
            case rel => exact ⟨q + 1, _, zs ++ sb, by omega, by omega, by go_num, Lib.hid (by rw [HX2.out.1, List.flatMap_append, ← List.append_assoc, ← HZ.out]; simp [HSB.out]), Lib.hid rfl, by simp; omega, by simpa [pick] using st'⟩
          · obtain rfl : q = sn := by omega
            have HFF : Hid (xs ++ mgB { k := 2, p := pl, e := e, nm := nm, wa := wa, wn := j, wc := wc, ws := ws, sa := sa, sn := q, sc := sc, ss := ss } = zs) := Lib.hid (by rw [HF2.out, HZ.out, ← HZ0.out, ← HYE.out, List.take_of_length_le (by have := HSR.out.2; omega)]; simp)
            rw [← HFF.out] at st
            go_wp2_with fail
            go_ret
            have st' := st.keep [0, 1] (by decide) (by simp)
            exact ⟨rfl, by simpa [pick] using st'⟩
  · have HF : Hid (mgB { k := 3, p := pl, e := e, nm := nm, wa := wa, wn := wn, wc := wc, ws := ws, sa := sa, sn := sn, sc := sc, ss := ss } = numB 3) := Lib.hid (by rw [HB.out, if_neg (by decide), if_neg (by decide), if_neg (by decide)]; simp)
    clear HB H1 H2 H5
    go_enter Try.func40, Try.ntmps40
    go_wp2_with ((((with_reducible refine wl_box ?_ (fun K hK => ?_)); rfl; refine owp_box (o := ⟨some 3, _, _, _, _, _⟩) rfl st ?_; apply Exists.intro; refine ⟨?_, ?_⟩; (focus (go_simp; try rfl)); (clear st; intro b3 w hb st; clear hb))); (try simp only [nsl, Value.cells, unB] at st); (try clear hc); have hc := st.facts; (try simp only [nfl, nft, Nat.reduceAdd] at hc))
    refine (HMR.out _ (st.oldMg (i := 1) get1 HX0.out)).mono ?_
    rintro en w ⟨rfl, hx⟩
    replace st := st.ext hx
    clear hx
    (try simp only [nsl, Value.cells, unB] at st)
    (try clear hc); have hc := st.facts; (try simp only [nfl, nft, Nat.reduceAdd] at hc)
    go_wp2_with fail
    obtain ⟨fr', al', st', back⟩ := st.sub [0] (by decide) (by simp)
    (try simp only [nsl, Value.cells, unB] at st')
    refine (penNumber_c st' 3 (by decide) (by omega)).mono ?_
    clear st'
    rintro en w ⟨rfl, st'⟩
    replace st := back _ _ (by simp) st'
    clear back st'
    (try simp only [nsl, Value.cells, unB] at st)
    (try clear hc); have hc := st.facts; (try simp only [nfl, nft, Nat.reduceAdd] at hc)
    go_wp2_with fail
    go_ret
    have st' := st.keep [0, 1] (by decide) (by simp)
    exact ⟨rfl, by rw [HF.out]; simpa [pick] using st'⟩
  · have HF : Hid (mgB { k := 4, p := pl, e := e, nm := nm, wa := wa, wn := wn, wc := wc, ws := ws, sa := sa, sn := sn, sc := sc, ss := ss } = numB 4) := Lib.hid (by rw [HB.out, if_neg (by decide), if_neg (by decide), if_neg (by decide)]; simp)
    clear HB H1 H2 H5
    go_enter Try.func40, Try.ntmps40
    go_wp2_with ((((with_reducible refine wl_box ?_ (fun K hK => ?_)); rfl; refine owp_box (o := ⟨some 3, _, _, _, _, _⟩) rfl st ?_; apply Exists.intro; refine ⟨?_, ?_⟩; (focus (go_simp; try rfl)); (clear st; intro b3 w hb st; clear hb))); (try simp only [nsl, Value.cells, unB] at st); (try clear hc); have hc := st.facts; (try simp only [nfl, nft, Nat.reduceAdd] at hc))
    refine (HMR.out _ (st.oldMg (i := 1) get1 HX0.out)).mono ?_
    rintro en w ⟨rfl, hx⟩
    replace st := st.ext hx
    clear hx
    (try simp only [nsl, Value.cells, unB] at st)
    (try clear hc); have hc := st.facts; (try simp only [nfl, nft, Nat.reduceAdd] at hc)
    go_wp2_with fail
    obtain ⟨fr', al', st', back⟩ := st.sub [0] (by decide) (by simp)
    (try simp only [nsl, Value.cells, unB] at st')
    refine (penNumber_c st' 4 (by decide) (by omega)).mono ?_
    clear st'
    rintro en w ⟨rfl, st'⟩
    replace st := back _ _ (by simp) st'
    clear back st'
    (try simp only [nsl, Value.cells, unB] at st)
    (try clear hc); have hc := st.facts; (try simp only [nfl, nft, Nat.reduceAdd] at hc)
    go_wp2_with fail
    go_ret
    have st' := st.keep [0, 1] (by decide) (by simp)
    exact ⟨rfl, by rw [HF.out]; simpa [pick] using st'⟩
  · obtain ⟨he1, he2⟩ := H5.out rfl
    obtain ⟨en, rfl⟩ : ∃ q : Nat, e = (q : Int) := ⟨e.toNat, by omega⟩
    have HF : Hid (mgB { k := 5, p := pl, e := (en : Int), nm := nm, wa := wa, wn := wn, wc := wc, ws := ws, sa := sa, sn := sn, sc := sc, ss := ss } = numB 5 ++ numB en) := Lib.hid (by rw [HB.out, if_neg (by decide), if_neg (by decide), if_pos rfl]; simp)
    have hb1 : (numB 5).length ≤ 10 := numF_len 10 5
    have hen : en ≤ 99 := by omega
    clear HB H1 H2 H5 he1 he2
    go_enter Try.func40, Try.ntmps40
    go_wp2_with ((((with_reducible refine wl_box ?_ (fun K hK => ?_)); rfl; refine owp_box (o := ⟨some 3, _, _, _, _, _⟩) rfl st ?_; apply Exists.intro; refine ⟨?_, ?_⟩; (focus (go_simp; try rfl)); (clear st; intro b3 w hb st; clear hb))); (try simp only [nsl, Value.cells, unB] at st); (try clear hc); have hc := st.facts; (try simp only [nfl, nft, Nat.reduceAdd] at hc))
    refine (HMR.out _ (st.oldMg (i := 1) get1 HX0.out)).mono ?_
    rintro en w ⟨rfl, hx⟩
    replace st := st.ext hx
    clear hx
    (try simp only [nsl, Value.cells, unB] at st)
    (try clear hc); have hc := st.facts; (try simp only [nfl, nft, Nat.reduceAdd] at hc)
    go_wp2_with fail
    obtain ⟨fr', al', st', back⟩ := st.sub [0] (by decide) (by simp)
    (try simp only [nsl, Value.cells, unB] at st')
    refine (penNumber_c st' 5 (by decide) (by omega)).mono ?_
    clear st'
    rintro en w ⟨rfl, st'⟩
    replace st := back _ _ (by simp) st'
    clear back st'
    (try simp only [nsl, Value.cells, unB] at st)
    (try clear hc); have hc := st.facts; (try simp only [nfl, nft, Nat.reduceAdd] at hc)
    go_wp2_with fail
    obtain ⟨fr', al', st', back⟩ := st.sub [0] (by decide) (by simp)
    (try simp only [nsl, Value.cells, unB] at st')
    refine (penNumber_c st' en (by omega) (by simp; omega)).mono ?_
    clear st'
    rintro en w ⟨rfl, st'⟩
    replace st := back _ _ (by simp) st'
    clear back st'
    (try simp only [nsl, Value.cells, unB] at st)
    (try clear hc); have hc := st.facts; (try simp only [nfl, nft, Nat.reduceAdd] at hc)
    go_wp2_with fail
    go_ret
    have st' := st.keep [0, 1] (by decide) (by simp)
    exact ⟨rfl, by rw [HF.out]; simpa [pick] using st'⟩
set_option maxRecDepth 100000 in
set_option maxHeartbeats 1000000 in
theorem msgPut_no (p : Option Addr) (x : MsgT) (W : World) (hx : MgOk W x) (lx : MgL x) (h : p = none ∨ mgR x = false) :
    Calls Try.prog 40 #[.pointer p, mgV x] W fun e w' => e = .returned (.bool false) ∧ Ext W w' := by
  have HMR := Lib.hid (fun W' (h : Ext W W') => msgRight_any x W' (hx.ext h) lx)
  obtain ⟨r, hr⟩ : ∃ r, mgR x = r := ⟨_, rfl⟩
  rw [hr] at HMR h
  clear hr hx lx
  obtain ⟨k, pl, e, nm, wa, wn, wc, ws, sa, sn, sc, ss⟩ := x
  unfold mgV S at HMR
  unfold mgV S
  have st := Own.startOld W
  (try simp only [nsl, Value.cells, unB] at st)
  (try clear hc); have hc := st.facts; (try simp only [nfl, nft, Nat.reduceAdd] at hc)
  cases p with
  | none =>
    clear h
    go_enter Try.func40, Try.ntmps40
    go_wp2_with ((((with_reducible refine wl_box ?_ (fun K hK => ?_)); rfl; refine owp_box (o := ⟨some 3, _, _, _, _, _⟩) rfl st ?_; apply Exists.intro; refine ⟨?_, ?_⟩; (focus (go_simp; try rfl)); (clear st; intro b3 w hb st; clear hb))); (try simp only [nsl, Value.cells, unB] at st); (try clear hc); have hc := st.facts; (try simp only [nfl, nft, Nat.reduceAdd] at hc))
    go_ret
    exact ⟨rfl, st.ext0⟩
  | some ad =>
    have hb : r = false := by rcases h with h | h; cases h; exact h
    subst hb
    clear h
    go_enter Try.func40, Try.ntmps40
    go_wp2_with ((((with_reducible refine wl_box ?_ (fun K hK => ?_)); rfl; refine owp_box (o := ⟨some 3, _, _, _, _, _⟩) rfl st ?_; apply Exists.intro; refine ⟨?_, ?_⟩; (focus (go_simp; try rfl)); (clear st; intro b3 w hb st; clear hb))); (try simp only [nsl, Value.cells, unB] at st); (try clear hc); have hc := st.facts; (try simp only [nfl, nft, Nat.reduceAdd] at hc))
    refine (HMR.out _ st.ext0).mono ?_
    rintro en w ⟨rfl, hx⟩
    replace st := st.ext hx
    clear hx
    (try clear hc); have hc := st.facts; (try simp only [nfl, nft, Nat.reduceAdd] at hc)
    go_wp2_with fail
    go_ret
    exact ⟨rfl, st.ext0⟩
end Go.Proofs.Ytmlhilgdjedeoaa

namespace Go.Proofs.Ytmlhilgdjedeoaa
set_option linter.unusedSimpArgs false
set_option linter.unusedVariables false
open Go Go.RowKit
end Go.Proofs.Ytmlhilgdjedeoaa

namespace Go.Proofs.Ytmlhilgdjedeoaa
set_option linter.unusedSimpArgs false
set_option linter.unusedVariables false
open Go Go.RowKit
end Go.Proofs.Ytmlhilgdjedeoaa

namespace Go.Proofs.Ytmlhilgdjedeoaa
set_option linter.unusedSimpArgs false
set_option linter.unusedVariables false
open Go Go.RowKit
end Go.Proofs.Ytmlhilgdjedeoaa

namespace Go.Proofs.Ytmlhilgdjedeoaa
set_option linter.unusedSimpArgs false
set_option linter.unusedVariables false
open Go Go.RowKit
end Go.Proofs.Ytmlhilgdjedeoaa

namespace Go.Proofs.Ytmlhilgdjedeoaa
set_option linter.unusedSimpArgs false
set_option linter.unusedVariables false
open Go Go.RowKit
end Go.Proofs.Ytmlhilgdjedeoaa

namespace Go.Proofs.Ytmlhilgdjedeoaa
set_option linter.unusedSimpArgs false
set_option linter.unusedVariables false
open Go Go.RowKit
theorem mgB_len {W : World} {x : MsgT} (hx : MgOk W x) (h : mgR x = true) : (mgB x).length ≤ 10000 := by
  have n1 : (numB x.k.toNat).length ≤ 10 := numF_len 10 _
  have n2 : (numB x.wn).length ≤ 10 := numF_len 10 _
  have n3 : (numB x.sn).length ≤ 10 := numF_len 10 _
  have n4 : (numB x.nm.length).length ≤ 10 := numF_len 10 _
  have n5 : (numB x.p.toNat).length ≤ 10 := numF_len 10 _
  have n6 : (numB x.e.toNat).length ≤ 10 := numF_len 10 _
  unfold mgB
  rw [List.length_append]
  split
  · have := (nameR_len (mgR_1 h (by assumption)).1).2
    simp only [List.length_append]; omega
  · split
    · obtain ⟨h1, h2⟩ := mgR_2 h (by assumption)
      have w1 := wantsR_is h1
      have s1 := showsR_is h2
      have a1 := flatLen roleB 60 x.ws (fun y hy => roleB_len (w1.2 y hy))
      have a2 := flatLen sgB 400 x.ss (fun y hy => sgB_len (s1.2 y hy).1 (s1.2 y hy).2 (hx.2.2 y hy).2.1)
      simp only [List.length_append]; omega
    · split
      · omega
      · simp; omega
set_option maxRecDepth 100000 in
set_option maxHeartbeats 2000000 in
theorem msgBytes_any (x : MsgT) (W : World) (hx : MgOk W x) (lx : MgL x) :
    Calls Try.prog 23 #[mgV x] W fun e w' => ∃ a n c, e = .returned (.slice a n c) ∧ FreshI W w' (rowI 5 1 (.slice a n c) n ((mgBy x).map B)) := by
  have HX := Lib.hid hx
  have HE := Lib.hid (show mgBy x = if mgR x = true then mgB x else [] from rfl)
  have HUL : Hid (mgR x = true → (mgB x).length ≤ 10000) := Lib.hid (mgB_len hx)
  have HPY := Lib.hid (fun (fr al : Nat → Prop) (W' : World) (p : Nat) (st : Own fr al W' [penI p [], oldI W] W') q => msgPut_yes x st hx lx q (by simp))
  have HPN := Lib.hid (fun p W' (h : MgOk W' x) q => msgPut_no p x W' h lx q)
  obtain ⟨r, hr⟩ : ∃ r, mgBy x = r := ⟨_, rfl⟩
  obtain ⟨u, hu⟩ : ∃ u, mgB x = u := ⟨_, rfl⟩
  rw [hu] at HPY HUL HE
  rw [hr] at HE ⊢
  clear hx lx hr hu
  obtain ⟨mr, hmr⟩ : ∃ q, mgR x = q := ⟨_, rfl⟩
  rw [hmr] at HPY HPN HE HUL
  clear hmr
  obtain ⟨k, p, e, nm, wa, wn, wc, ws, sa, sn, sc, ss⟩ := x
  unfold mgV S at *
  have st := Own.startOld W
  (try simp only [nsl, Value.cells, unB] at st)
  (try clear hc); have hc := st.facts; (try simp only [nfl, nft, Nat.reduceAdd] at hc)
  cases mr with
  | true =>
    have hul := HUL.out rfl
    have HF : Hid (r = u) := Lib.hid (by rw [HE.out, if_pos rfl])
    go_enter Try.func23, Try.ntmps23
    go_wp2_with ((first
          | ((with_reducible refine wl_box ?_ (fun K hK => ?_)); rfl; refine owp_box (o := ⟨some 1, _, _, _, _, _⟩) rfl st ?_; apply Exists.intro; refine ⟨?_, ?_⟩; (focus (go_simp; try rfl)); (clear st; intro b1 w hb st; clear hb))
          | ((with_reducible refine wl_box ?_ (fun K hK => ?_)); rfl; refine owp_box (o := ⟨some 5, _, _, _, _, _⟩) rfl st ?_; apply Exists.intro; refine ⟨?_, ?_⟩; (focus (go_simp; try rfl)); (clear st; intro b5 w hb st; clear hb))); (try simp only [nsl, Value.cells, unB] at st); (try clear hc); have hc := st.facts; (try simp only [nfl, nft, Nat.reduceAdd] at hc))
    replace st := st.newPen (i := 2) get2
    (try simp only [nsl, Value.cells, unB] at st)
    (try clear hc); have hc := st.facts; (try simp only [nfl, nft, Nat.reduceAdd] at hc)
    obtain ⟨fr', al', st', back⟩ := st.sub [2, 0] (by decide) (by simp)
    (try simp only [nsl, Value.cells, unB] at st')
    refine (HPY.out _ _ _ _ st' (by trivial)).mono ?_
    clear st'
    rintro en w ⟨rfl, st'⟩
    replace st := back _ _ (by simp) st'
    clear back st'
    (try simp only [nsl, Value.cells, unB] at st)
    (try clear hc); have hc := st.facts; (try simp only [nfl, nft, Nat.reduceAdd] at hc)
    (try simp only [List.nil_append] at st)
    go_wp2_with ((first
          | ((with_reducible refine wl_box ?_ (fun K hK => ?_)); rfl; refine owp_box (o := ⟨some 1, _, _, _, _, _⟩) rfl st ?_; apply Exists.intro; refine ⟨?_, ?_⟩; (focus (go_simp; try rfl)); (clear st; intro b1 w hb st; clear hb))
          | ((with_reducible refine wl_box ?_ (fun K hK => ?_)); rfl; refine owp_box (o := ⟨some 5, _, _, _, _, _⟩) rfl st ?_; apply Exists.intro; refine ⟨?_, ?_⟩; (focus (go_simp; try rfl)); (clear st; intro b5 w hb st; clear hb))); (try simp only [nsl, Value.cells, unB] at st); (try clear hc); have hc := st.facts; (try simp only [nfl, nft, Nat.reduceAdd] at hc))
    obtain ⟨fr', al', st', back⟩ := st.sub [2] (by decide) (by simp)
    (try simp only [nsl, Value.cells, unB] at st')
    refine (penBytesRow_c st' (by omega)).mono ?_
    clear st'
    rintro en w ⟨pa, pc, rfl, hpc, st'⟩
    replace st := back _ _ (by simp) st'
    clear back st'
    (try simp only [nsl, Value.cells, unB] at st)
    (try clear hc); have hc := st.facts; (try simp only [nfl, nft, Nat.reduceAdd] at hc)
    go_wp2_with ((first
          | ((with_reducible refine wl_box ?_ (fun K hK => ?_)); rfl; refine owp_box (o := ⟨some 1, _, _, _, _, _⟩) rfl st ?_; apply Exists.intro; refine ⟨?_, ?_⟩; (focus (go_simp; try rfl)); (clear st; intro b1 w hb st; clear hb))
          | ((with_reducible refine wl_box ?_ (fun K hK => ?_)); rfl; refine owp_box (o := ⟨some 5, _, _, _, _, _⟩) rfl st ?_; apply Exists.intro; refine ⟨?_, ?_⟩; (focus (go_simp; try rfl)); (clear st; intro b5 w hb st; clear hb))); (try simp only [nsl, Value.cells, unB] at st); (try clear hc); have hc := st.facts; (try simp only [nfl, nft, Nat.reduceAdd] at hc))
    go_ret
    exact ⟨_, _, _, rfl, by rw [HF.out]; exact st.toFresh (i := 3) get3⟩
  | false =>
    have HF : Hid (r = []) := Lib.hid (by rw [HE.out, if_neg (by decide)])
    go_enter Try.func23, Try.ntmps23
    go_wp2_with ((first
          | ((with_reducible refine wl_box ?_ (fun K hK => ?_)); rfl; refine owp_box (o := ⟨some 1, _, _, _, _, _⟩) rfl st ?_; apply Exists.intro; refine ⟨?_, ?_⟩; (focus (go_simp; try rfl)); (clear st; intro b1 w hb st; clear hb))
          | ((with_reducible refine wl_box ?_ (fun K hK => ?_)); rfl; refine owp_box (o := ⟨some 5, _, _, _, _, _⟩) rfl st ?_; apply Exists.intro; refine ⟨?_, ?_⟩; (focus (go_simp; try rfl)); (clear st; intro b5 w hb st; clear hb))); (try simp only [nsl, Value.cells, unB] at st); (try clear hc); have hc := st.facts; (try simp only [nfl, nft, Nat.reduceAdd] at hc))
    replace st := st.newPen (i := 2) get2
    (try simp only [nsl, Value.cells, unB] at st)
    (try clear hc); have hc := st.facts; (try simp only [nfl, nft, Nat.reduceAdd] at hc)
    refine (HPN.out _ _ (st.oldMg (i := 0) get0 HX.out) (.inr (by trivial))).mono ?_
    rintro en w ⟨rfl, hx⟩
    replace st := st.ext hx
    clear hx
    (try simp only [nsl, Value.cells, unB] at st)
    (try clear hc); have hc := st.facts; (try simp only [nfl, nft, Nat.reduceAdd] at hc)
    go_wp2_with ((first
          | ((with_reducible refine wl_box ?_ (fun K hK => ?_)); rfl; refine owp_box (o := ⟨some 1, _, _, _, _, _⟩) rfl st ?_; apply Exists.intro; refine ⟨?_, ?_⟩; (focus (go_simp; try rfl)); (clear st; intro b1 w hb st; clear hb))
          | ((with_reducible refine wl_box ?_ (fun K hK => ?_)); rfl; refine owp_box (o := ⟨some 5, _, _, _, _, _⟩) rfl st ?_; apply Exists.intro; refine ⟨?_, ?_⟩; (focus (go_simp; try rfl)); (clear st; intro b5 w hb st; clear hb))); (try simp only [nsl, Value.cells, unB] at st); (try clear hc); have hc := st.facts; (try simp only [nfl, nft, Nat.reduceAdd] at hc))
    obtain ⟨fr', al', st', back⟩ := st.sub [2] (by decide) (by simp)
    (try simp only [nsl, Value.cells, unB] at st')
    refine (penBytesRow_c st' (by simp)).mono ?_
    clear st'
    rintro en w ⟨pa, pc, rfl, hpc, st'⟩
    replace st := back _ _ (by simp) st'
    clear back st'
    (try simp only [nsl, Value.cells, unB] at st)
    (try clear hc); have hc := st.facts; (try simp only [nfl, nft, Nat.reduceAdd] at hc)
    simp only [List.length_nil] at st hpc ⊢
    (try simp only [nsl, Value.cells, unB] at st)
    (try clear hc); have hc := st.facts; (try simp only [nfl, nft, Nat.reduceAdd] at hc)
    go_wp2_with ((first
          | ((with_reducible refine wl_box ?_ (fun K hK => ?_)); rfl; refine owp_box (o := ⟨some 1, _, _, _, _, _⟩) rfl st ?_; apply Exists.intro; refine ⟨?_, ?_⟩; (focus (go_simp; try rfl)); (clear st; intro b1 w hb st; clear hb))
          | ((with_reducible refine wl_box ?_ (fun K hK => ?_)); rfl; refine owp_box (o := ⟨some 5, _, _, _, _, _⟩) rfl st ?_; apply Exists.intro; refine ⟨?_, ?_⟩; (focus (go_simp; try rfl)); (clear st; intro b5 w hb st; clear hb))); (try simp only [nsl, Value.cells, unB] at st); (try clear hc); have hc := st.facts; (try simp only [nfl, nft, Nat.reduceAdd] at hc))
    go_ret
    exact ⟨_, _, _, rfl, by rw [HF.out]; exact st.toFresh (i := 3) get3⟩
end Go.Proofs.Ytmlhilgdjedeoaa

namespace Go.Proofs.Ytmlhilgdjedeoaa
set_option linter.unusedSimpArgs false
set_option linter.unusedVariables false
open Go Go.RowKit
/-- One behind another. -/
def bdm {α β : Type} (r : Except Int (α × List UInt8)) (f : α → List UInt8 → Except Int β) : Except Int β := match r with | .error e => .error e | .ok p => f p.1 p.2
theorem bdm_er {α β : Type} (e : Int) (f : α → List UInt8 → Except Int β) : bdm (.error e) f = .error e := rfl
theorem bdm_ok {α β : Type} (x : α) (ys : List UInt8) (f : α → List UInt8 → Except Int β) : bdm (.ok (x, ys)) f = f x ys := rfl
def GetPostM {α : Type} (fr al : Nat → Prop) (w : World) (r b : Nat) (res : Except Int (α × List UInt8)) (z : List Value) (okM : α → List Value → List It → Prop) (en : Ending) (w' : World) : Prop :=
  match res with
  | .error e => en = .panicked [{ v := failV r e, recovered := false }] ∧ Own fr al w [rdAnyI r, blkI b z] w'
  | .ok (s, ys) => en = .returned (.tuple #[]) ∧ ∃ cs M, okM s cs M ∧ Own fr al w (rdI r ys :: blkI b cs :: M) w'
/-- What the block holds behind it, and what more lies there. -/
def GotM {α : Type} (res : Except Int (α × List UInt8)) (z : List Value) (okM : α → List Value → List It → Prop) (cs : List Value) (M : List It) : Prop := match res with
  | .error _ => cs = z ∧ M = []
  | .ok (s, _) => okM s cs M
theorem pick_mid (X M : List It) (a : It) : pick (X ++ [a] ++ M) (X.length :: (List.range X.length ++ (List.range M.length).map (X.length + 1 + ·))) = a :: (X ++ M) := by
  unfold pick
  rw [List.map_cons, List.map_append]
  congr 1
  · simp
  · congr 1
    · apply List.ext_getElem
      · simp
      · intro i h1 h2
        simp [List.getElem?_append_left h2, List.getElem?_eq_getElem h2, List.append_assoc]
    · apply List.ext_getElem
      · simp
      · intro i h1 h2
        simp only [List.map_map, List.getElem_map, List.getElem_range, Function.comp]
        rw [List.getElem?_append_right (by simp)]
        simp only [List.length_append, List.length_singleton]
        rw [show X.length + 1 + i - (X.length + 1) = i by omega, List.getElem?_eq_getElem h2, Option.getD_some]
theorem putIt_twoM (L M : List It) (I A B : It) (i : Nat) (hi : i < L.length) : putIt (L ++ [I]) (A :: B :: M) 0 [L.length, i] = L.set i B ++ [A] ++ M := by
  simp only [putIt, List.getElem?_cons_zero, List.getElem?_cons_succ, Option.getD_some, List.drop_succ_cons, List.drop_zero]
  rw [List.set_append_right _ _ (Nat.le_refl _), Nat.sub_self, List.set_cons_zero, List.set_append_left _ _ hi]
theorem readGetM_c {α : Type} {fr al : Nat → Prop} {w0 w : World} {L : List It} (st : Own fr al w0 L w) (i : Nat) {b : Nat} {z : List Value} (hi : L[i]? = some (blkI b z)) {a : Option Addr} {n c : Nat} {xs : List UInt8} (h : By w a n xs) (hc : n ≤ c ∧ c ≤ maxLen) (hn : n ≤ 100000000000) (F : FuncId)
    (hinv : ∀ w r, (callFunc F (#[.pointer (some ⟨r, 0, none⟩)] ++ #[.pointer (some ⟨b, 0, none⟩)])).run Try.prog w = .ok (.enter F (#[.pointer (some ⟨r, 0, none⟩)] ++ #[.pointer (some ⟨b, 0, none⟩)])) w)
    (res : Except Int (α × List UInt8)) (okM : α → List Value → List It → Prop)
    (hclo : ∀ fr al w r, Own fr al w [rdI r xs, blkI b z] w → Calls Try.prog F #[.pointer (some ⟨r, 0, none⟩), .pointer (some ⟨b, 0, none⟩)] w (GetPostM fr al w r b res z okM)) :
    Calls Try.prog 41 #[.slice a n c, .func (.func F) #[] #[.pointer (some ⟨b, 0, none⟩)]] w fun en w' => ∃ r cs M, en = .returned (.int .i64 (gotE res)) ∧ GotM res z okM cs M ∧ Own fr al w0 (rdOverI r :: (L.set i (blkI b cs) ++ M)) w' := by
  have hil := get_lt hi
  have fin : ∀ {fr' al' : Nat → Prop} {w1 w2 : World} {A B I : It} {M : List It}, Own fr' al' w1 (putIt (L ++ [I]) (A :: B :: M) 0 [L.length, i]) w2 → Own fr' al' w1 (A :: (L.set i B ++ M)) w2 := by
    intro fr' al' w1 w2 A B I M st3
    rw [putIt_twoM L M I A B i hil] at st3
    have hk := st3.keep ((L.set i B).length :: (List.range (L.set i B).length ++ (List.range M.length).map ((L.set i B).length + 1 + ·))) (by
      rw [List.nodup_cons, List.nodup_append]
      refine ⟨?_, List.nodup_range, ?_, ?_⟩
      · simp only [List.mem_append, List.mem_range, List.mem_map, not_or, not_exists, not_and]
        exact ⟨by omega, fun q _ => by omega⟩
      · exact List.pairwise_map.2 (List.Pairwise.imp (fun {x y} h e => h (by omega)) List.nodup_range)
      · intro x hx y hy
        simp only [List.mem_range, List.mem_map] at hx hy
        obtain ⟨q, _, rfl⟩ := hy
        omega) (by
      intro q hq
      simp only [List.mem_cons, List.mem_append, List.mem_range, List.mem_map] at hq
      simp only [List.length_append, List.length_singleton]
      rcases hq with e | e | ⟨q', e1, rfl⟩ <;> omega)
    rwa [pick_mid] at hk
  refine (read_c st h hc hn F #[.pointer (some ⟨b, 0, none⟩)] hinv (fun r e M => e = gotE res ∧ ∃ cs M', GotM res z okM cs M' ∧ M = L.set i (blkI b cs) ++ M') fun fr' al' w1 r hr st1 => ?_).mono ?_
  · obtain ⟨fr2, al2, st2, back⟩ := st1.sub [L.length, i] (by simp; omega) (by
      intro q hq; simp at hq ⊢; omega)
    have hp : pick (L ++ [rdI r xs]) [L.length, i] = [rdI r xs, blkI b z] := by
      simp [pick, List.getElem?_append_left hil, hi]
    rw [hp] at st2
    refine (hclo _ _ _ r st2).mono ?_
    intro en w2 hen
    unfold GetPostM at hen
    cases hres : res with
    | error e =>
      rw [hres] at hen
      obtain ⟨rfl, st3⟩ := hen
      exact .inr ⟨e, [], _, rfl, rfl, ⟨rfl, z, [], ⟨rfl, rfl⟩, rfl⟩, fin (back _ _ (by simp) st3)⟩
    | ok p =>
      obtain ⟨s, ys⟩ := p
      rw [hres] at hen
      obtain ⟨rfl, cs, M, hok, st3⟩ := hen
      exact .inl ⟨_, ys, _, rfl, ⟨rfl, cs, M, hok, rfl⟩, fin (back _ _ (by simp) st3)⟩
  · rintro en w' ⟨r, e, M, rfl, ⟨rfl, cs, M', h1, rfl⟩, st'⟩
    exact ⟨r, cs, M', rfl, h1, st'⟩
end Go.Proofs.Ytmlhilgdjedeoaa

namespace Go.Proofs.Ytmlhilgdjedeoaa
set_option linter.unusedSimpArgs false
set_option linter.unusedVariables false
open Go Go.RowKit
/-- A message that shows and wants nothing. -/
def mg0 (k p e : Int) (nm : List UInt8) : MsgT := ⟨k, p, e, nm, none, 0, 0, [], none, 0, 0, []⟩
theorem mg0_ok (W : World) (k p e : Int) (nm : List UInt8) : MgOk W (mg0 k p e nm) := ⟨⟨⟨Nat.le_refl _, by simp [maxLen, mg0]⟩, Fl.nil _ _⟩, ⟨⟨Nat.le_refl _, by simp [maxLen, mg0]⟩, Fl.nil _ _⟩, by simp [mg0]⟩
theorem mg0_L {k p e : Int} {nm : List UInt8} (h : nm.length ≤ 100000) : MgL (mg0 k p e nm) := ⟨by simp [mg0], by simp [mg0], h, by simp [mg0], by simp [mg0]⟩
def okMg (m : MsgT) (ys : List UInt8) : Except Int (MsgT × List UInt8) := if mgR m = true then .ok (m, ys) else .error 11
end Go.Proofs.Ytmlhilgdjedeoaa

namespace Go.Proofs.Ytmlhilgdjedeoaa
set_option linter.unusedSimpArgs false
set_option linter.unusedVariables false
open Go Go.RowKit
theorem Own.weak {fr fr' al al' : Nat → Prop} {w0 w : World} {L : List It} (h : Own fr al w0 L w) (hf : ∀ b, fr b → fr' b) (ha : ∀ b, al b → al' b) : Own fr' al' w0 L w :=
  let ⟨hm, e, s, F⟩ := h
  ⟨hm.mono hf, e, s, F.holds, F.lo, fun i b hi he hb => hf _ (F.fr i b hi he hb), fun i b hi hb hl => ha _ (F.al i b hi hb hl), F.ee, F.es⟩
/-- What a call has laid anew comes beside what there was. -/
theorem Own.join {fr al : Nat → Prop} {w0 w w' : World} {L M : List It} (st : Own fr al w0 L w) (h : Own (fun _ => False) (fun _ => False) w M w') : Own fr al w0 (L ++ M) w' := by
  obtain ⟨fr', al', st', back⟩ := st.sub [] (by simp) (by simp)
  have := back M w' (by simp) (h.weak (fun _ q => q.elim) (fun _ q => q.elim))
  simpa [putIt] using this
section
variable {fr al : Nat → Prop} {w0 w : World} {L : List It}
/-- A new item of what two others share. -/
theorem Own.share2 (st : Own fr al w0 L w) {i i2 : Nat} {I I2 I' : It} (hi : L[i]? = some I) (hi2 : L[i2]? = some I2) (h : ∀ e s e2 s2, I.P e s w → I2.P e2 s2 w → I'.P (fun _ => False) (fun b => s b ∨ s2 b) w) : Own fr al w0 (L ++ [I']) w := by
  obtain ⟨hm, e, s, F⟩ := st
  have hil := get_lt hi
  have hil2 := get_lt hi2
  have h1 := h _ _ _ _ (F.holds i I hi) (F.holds i2 I2 hi2)
  have hlen : ∀ {j}, j < (L ++ [I']).length → j < L.length ∨ j = L.length := fun {j} h => by simp at h; omega
  refine ⟨hm, fun j => if j < L.length then e j else fun _ => False, fun j => if j < L.length then s j else fun b => s i b ∨ s i2 b, ?_, ?_, ?_, ?_, ?_, ?_⟩
  · intro j J hj
    have hjl := get_lt hj
    rcases hlen hjl with h | h
    · rw [List.getElem?_append_left h] at hj
      simp only [h, if_true]
      exact F.holds j J hj
    · subst h
      simp at hj
      subst hj
      simp only [Nat.lt_irrefl, if_false]
      exact h1
  · intro j b hj hb
    rcases hlen hj with h | h
    · simp only [h, if_true] at hb
      exact F.lo j b h hb
    · subst h
      simp only [Nat.lt_irrefl, if_false, false_or] at hb
      rcases hb with hb | hb
      · exact F.lo i b hil (.inr hb)
      · exact F.lo i2 b hil2 (.inr hb)
  · intro j b hj hb hb0
    rcases hlen hj with h | h
    · simp only [h, if_true] at hb
      exact F.fr j b h hb hb0
    · subst h
      simp only [Nat.lt_irrefl, if_false] at hb
  · intro j b hj hb hb0
    rcases hlen hj with h | h
    · simp only [h, if_true] at hb
      exact F.al j b h hb hb0
    · subst h
      simp only [Nat.lt_irrefl, if_false, false_or] at hb
      rcases hb with hb | hb
      · exact F.al i b hil (.inr hb) hb0
      · exact F.al i2 b hil2 (.inr hb) hb0
  · intro j k b hj hk hjk hb hb'
    rcases hlen hj with h | h
    · rcases hlen hk with h' | h'
      · simp only [h, h', if_true] at hb hb'
        exact F.ee j k b h h' hjk hb hb'
      · subst h'
        simp only [Nat.lt_irrefl, if_false] at hb'
    · subst h
      simp only [Nat.lt_irrefl, if_false] at hb
  · intro j k b hj hk hb hb'
    rcases hlen hj with h | h
    · rcases hlen hk with h' | h'
      · simp only [h, h', if_true] at hb hb'
        exact F.es j k b h h' hb hb'
      · subst h'
        simp only [h, if_true, Nat.lt_irrefl, if_false] at hb hb'
        rcases hb' with hb' | hb'
        · exact F.es j i b h hil hb hb'
        · exact F.es j i2 b h hil2 hb hb'
    · subst h
      simp only [Nat.lt_irrefl, if_false] at hb
end
end Go.Proofs.Ytmlhilgdjedeoaa

namespace Go.Proofs.Ytmlhilgdjedeoaa
set_option linter.unusedSimpArgs false
set_option linter.unusedVariables false
open Go Go.RowKit
section
variable {fr al : Nat → Prop} {w0 w : World} {L : List It}
/-- The tags of some signed credentials. -/
def sgsI (ss : List SgnT) : It where
  P _ s w := ∀ x ∈ ss, SgOk w x ∧ (0 < x.n → ∀ ad, x.a = some ad → s ad.block)
  st := fun {e s w w'} h hag x hx => ⟨by
    obtain ⟨⟨h0, h1⟩, h2⟩ := h x hx
    refine ⟨h0, h1.1, fun h0 => ?_⟩
    obtain ⟨b, off, ha, hc⟩ := h1.2 h0
    refine ⟨b, off, ha, fun i y hi => ?_⟩
    have := hc i y hi
    unfold byteR at *
    rw [World.cell?_of_block (w := w) (hag b (.inr (h2 h0 _ ha)))]
    exact this, (h x hx).2⟩
  facts _ := True
  ok := fun _ => trivial
theorem Own.noSgs (st : Own fr al w0 L w) : Own fr al w0 (L ++ [sgsI []]) w := st.bare (fun x hx => by simp at hx)
theorem Own.moreSgs (st : Own fr al w0 L w) {i j : Nat} {ss : List SgnT} {x : SgnT} (hi : L[i]? = some (sgsI ss)) (hj : L[j]? = some (byI x.a x.n x.xs)) (hm : x.n ≤ x.m ∧ x.m ≤ maxLen) : Own fr al w0 (L ++ [sgsI (ss ++ [x])]) w :=
  st.share2 hi hj fun e s e2 s2 h1 h2 y hy => by
    rcases List.mem_append.1 hy with q | q
    · exact ⟨(h1 y q).1, fun h0 ad ha => .inl ((h1 y q).2 h0 ad ha)⟩
    · rw [List.mem_singleton.1 q]; exact ⟨⟨hm, h2.1⟩, fun h0 ad ha => .inr (h2.2 h0 ad ha)⟩
theorem Own.sgsAt (st : Own fr al w0 L w) {i : Nat} {ss : List SgnT} (hi : L[i]? = some (sgsI ss)) : ∀ x ∈ ss, SgOk w x := by
  obtain ⟨_, _, h, _⟩ := st.get hi
  exact fun x hx => (h x hx).1
end
end Go.Proofs.Ytmlhilgdjedeoaa

namespace Go.Proofs.Ytmlhilgdjedeoaa
set_option linter.unusedSimpArgs false
set_option linter.unusedVariables false
open Go Go.RowKit
/-- The next signed credential. -/
def rdSg (xs : List UInt8) : Except Int (SgnT × List UInt8) :=
  bdm (rdCred xs) fun c ys => bdm (rdText 8 ys) fun tg zs => if tg.length = 8 then .ok (⟨c, none, 8, 0, tg⟩, zs) else .error 11
/-- What a signed credential is, wherever its tag lies. -/
def stripS (x : SgnT) : SgnT := ⟨x.c, none, x.n, 0, x.xs⟩
/-- The next message. -/
def rdMg (xs : List UInt8) : Except Int (MsgT × List UInt8) :=
  bdm (rdNumber 9223372036854775807 xs) fun k ys =>
    if k = 1 then bdm (rdName ys) fun nm zs => bdm (rdNumber 2 zs) fun p us => okMg (mg0 1 p 0 nm) us
    else if k = 2 then bdm (rdNumber 16 ys) fun n zs => bdm (rdN rdRole n zs) fun ws us => bdm (rdNumber 8 us) fun m vs => bdm (rdN rdSg m vs) fun ss ts => okMg ⟨2, 0, 0, [], none, ws.length, 0, ws, none, ss.length, 0, ss⟩ ts
    else if k = 5 then bdm (rdNumber 99 ys) fun e zs => okMg (mg0 5 0 e []) zs
    else okMg (mg0 k 0 0 []) ys
theorem rdSg_le {xs ys : List UInt8} {x : SgnT} (h : rdSg xs = .ok (x, ys)) : ys.length ≤ xs.length ∧ x.n = 8 ∧ x.xs.length = 8 := by
  unfold rdSg at h
  cases h1 : rdCred xs with
  | error e => rw [h1, bdm_er] at h; cases h
  | ok p =>
    obtain ⟨c, us⟩ := p
    have l1 := (rdCred_le2 h1).1
    rw [h1, bdm_ok] at h
    cases h2 : rdText 8 us with
    | error e => rw [h2, bdm_er] at h; cases h
    | ok p =>
      obtain ⟨tg, vs⟩ := p
      have l2 := (rdText_le h2).2.1
      rw [h2, bdm_ok] at h
      split at h
      · cases h; exact ⟨by omega, rfl, by assumption⟩
      · cases h
theorem rdSg_cr {xs ys : List UInt8} {x : SgnT} (h : rdSg xs = .ok (x, ys)) : credR x.c = true := by
  unfold rdSg at h
  cases h1 : rdCred xs with
  | error e => rw [h1, bdm_er] at h; cases h
  | ok p =>
    obtain ⟨c, us⟩ := p
    have l1 := (rdCred_le2 h1).2
    rw [h1, bdm_ok] at h
    cases h2 : rdText 8 us with
    | error e => rw [h2, bdm_er] at h; cases h
    | ok p =>
      obtain ⟨tg, vs⟩ := p
      rw [h2, bdm_ok] at h
      split at h
      · cases h; exact l1
      · cases h
theorem rdSg_strip {xs ys : List UInt8} {x : SgnT} (h : rdSg xs = .ok (x, ys)) (a : Option Addr) (m : Nat) : stripS ⟨x.c, a, 8, m, x.xs⟩ = x := by
  unfold rdSg at h
  cases h1 : rdCred xs with
  | error e => rw [h1, bdm_er] at h; cases h
  | ok p =>
    obtain ⟨c, us⟩ := p
    rw [h1, bdm_ok] at h
    cases h2 : rdText 8 us with
    | error e => rw [h2, bdm_er] at h; cases h
    | ok p =>
      obtain ⟨tg, vs⟩ := p
      rw [h2, bdm_ok] at h
      split at h
      · cases h; rfl
      · cases h
set_option maxRecDepth 100000 in
set_option maxHeartbeats 4000000 in
theorem keysGet_c {fr al : Nat → Prop} {W : World} {r : Nat} {xs : List UInt8} (st : Own fr al W [rdI r xs] W) (hl : xs.length ≤ 100000) :
    Calls Try.prog 68 #[.pointer (some ⟨r, 0, none⟩)] W (RdC fr al W r (rdSg xs) fun s v M => ∃ a m, v = sgV ⟨s.c, a, 8, m, s.xs⟩ ∧ (8 ≤ m ∧ m ≤ maxLen) ∧ M = [byI a 8 s.xs]) := by
  go_enter Try.func68, Try.ntmps68
  go_wp2_with ((first
        | ((with_reducible refine wl_alloc ?_ (fun K hK => ?_)); rfl; refine owp_alloc (o := ⟨some 2, _, _, _, _, _⟩) rfl st ?_; apply Exists.intro; apply Exists.intro; refine ⟨?_, ?_⟩; (focus (first | (go_simp; done) | (go_simp; rfl))); (clear st; intro b2 w hb st; clear hb))
        | ((with_reducible refine wl_alloc ?_ (fun K hK => ?_)); rfl; refine owp_alloc (o := ⟨some 3, _, _, _, _, _⟩) rfl st ?_; apply Exists.intro; apply Exists.intro; refine ⟨?_, ?_⟩; (focus (first | (go_simp; done) | (go_simp; rfl))); (clear st; intro b3 w hb st; clear hb))
        | ((with_reducible refine wl_store ?_ (fun K hK => ?_)); rfl; refine owp_store rfl st ?_; apply Exists.intro; apply Exists.intro; refine ⟨?_, ?_, ?_⟩; (focus (go_simp; try rfl)); (focus (go_simp; try rfl)); (first | (with_reducible refine ⟨0, _, _, _, _, get0, rfl, rfl, ?_, ?_, ?_, ?_⟩) | (with_reducible refine ⟨1, _, _, _, _, get1, rfl, rfl, ?_, ?_, ?_, ?_⟩) | (with_reducible refine ⟨2, _, _, _, _, get2, rfl, rfl, ?_, ?_, ?_, ?_⟩) | (with_reducible refine ⟨3, _, _, _, _, get3, rfl, rfl, ?_, ?_, ?_, ?_⟩) | (with_reducible refine ⟨4, _, _, _, _, get4, rfl, rfl, ?_, ?_, ?_, ?_⟩) | (with_reducible refine ⟨5, _, _, _, _, get5, rfl, rfl, ?_, ?_, ?_, ?_⟩)); (kernel_rfl); (simp [Value.cells]); (rfl); (clear st; intro w st))); (try simp only [nsl, Value.cells, unB] at st); (try clear hc); have hc := st.facts; (try simp only [nfl, nft, Nat.reduceAdd] at hc))
  obtain ⟨fr', al', st', back⟩ := st.sub [0] (by decide) (by simp)
  (try simp only [nsl, Value.cells, unB] at st')
  refine (credGet_c st' hl).mono ?_
  clear st'
  intro en w hen
  unfold RdC at hen
  cases hr : rdCred xs with
  | error e =>
    rw [hr] at hen
    obtain ⟨rfl, st'⟩ := hen
    replace st := back _ _ (by simp) st'
    clear back st'
    (try simp only [nsl, Value.cells, unB] at st)
    (try clear hc); have hc := st.facts; (try simp only [nfl, nft, Nat.reduceAdd] at hc)
    have H1 : Hid (rdSg xs = .error e) := Lib.hid (by simp [rdSg, hr, bdm])
    clear hr
    go_wp2_with fail
    refine ⟨rfl, ?_⟩
    unfold RdC
    rw [H1.out]
    have st' := st.keep [0] (by decide) (by simp)
    exact ⟨rfl, by simpa [pick] using st'⟩
  | ok p =>
    obtain ⟨c, ys⟩ := p
    have hl1 := (rdCred_le2 hr).1
    rw [hr] at hen
    obtain ⟨v, M, rfl, ⟨rfl, rfl⟩, st'⟩ := hen
    replace st := back _ _ (by simp) st'
    clear back st'
    (try simp only [nsl, Value.cells, unB] at st)
    (try clear hc); have hc := st.facts; (try simp only [nfl, nft, Nat.reduceAdd] at hc)
    have HR1 := Lib.hid hr
    clear hr
    obtain ⟨ck, ⟨ho, hd⟩, cw, ⟨bo, bd'⟩, ⟨co, cd⟩, we⟩ := c
    unfold cV S
    simp only
    go_wp2_with ((first
          | ((with_reducible refine wl_alloc ?_ (fun K hK => ?_)); rfl; refine owp_alloc (o := ⟨some 2, _, _, _, _, _⟩) rfl st ?_; apply Exists.intro; apply Exists.intro; refine ⟨?_, ?_⟩; (focus (first | (go_simp; done) | (go_simp; rfl))); (clear st; intro b2 w hb st; clear hb))
          | ((with_reducible refine wl_alloc ?_ (fun K hK => ?_)); rfl; refine owp_alloc (o := ⟨some 3, _, _, _, _, _⟩) rfl st ?_; apply Exists.intro; apply Exists.intro; refine ⟨?_, ?_⟩; (focus (first | (go_simp; done) | (go_simp; rfl))); (clear st; intro b3 w hb st; clear hb))
          | ((with_reducible refine wl_store ?_ (fun K hK => ?_)); rfl; refine owp_store rfl st ?_; apply Exists.intro; apply Exists.intro; refine ⟨?_, ?_, ?_⟩; (focus (go_simp; try rfl)); (focus (go_simp; try rfl)); (first | (with_reducible refine ⟨0, _, _, _, _, get0, rfl, rfl, ?_, ?_, ?_, ?_⟩) | (with_reducible refine ⟨1, _, _, _, _, get1, rfl, rfl, ?_, ?_, ?_, ?_⟩) | (with_reducible refine ⟨2, _, _, _, _, get2, rfl, rfl, ?_, ?_, ?_, ?_⟩) | (with_reducible refine ⟨3, _, _, _, _, get3, rfl, rfl, ?_, ?_, ?_, ?_⟩) | (with_reducible refine ⟨4, _, _, _, _, get4, rfl, rfl, ?_, ?_, ?_, ?_⟩) | (with_reducible refine ⟨5, _, _, _, _, get5, rfl, rfl, ?_, ?_, ?_, ?_⟩)); (kernel_rfl); (simp [Value.cells]); (rfl); (clear st; intro w st))); (try simp only [nsl, Value.cells, unB] at st); (try clear hc); have hc := st.facts; (try simp only [nfl, nft, Nat.reduceAdd] at hc))
    obtain ⟨fr', al', st', back⟩ := st.sub [0] (by decide) (by simp)
    (try simp only [nsl, Value.cells, unB] at st')
    refine (text_c st' 8 (by omega)).mono ?_
    clear st'
    intro en w hen
    unfold RdC at hen
    cases hr : rdText 8 ys with
    | error e =>
      rw [hr] at hen
      obtain ⟨rfl, st'⟩ := hen
      replace st := back _ _ (by simp) st'
      clear back st'
      (try simp only [nsl, Value.cells, unB] at st)
      (try clear hc); have hc := st.facts; (try simp only [nfl, nft, Nat.reduceAdd] at hc)
      have H1 : Hid (rdSg xs = .error e) := Lib.hid (by simp [rdSg, HR1.out, hr, bdm])
      clear hr
      go_wp2_with fail
      refine ⟨rfl, ?_⟩
      unfold RdC
      rw [H1.out]
      have st' := st.keep [0] (by decide) (by simp)
      exact ⟨rfl, by simpa [pick] using st'⟩
    | ok p =>
      obtain ⟨tg, zs⟩ := p
      rw [hr] at hen
      obtain ⟨v, M, rfl, ⟨ta, tc, rfl, hc1, rfl⟩, st'⟩ := hen
      replace st := back _ _ (by simp) st'
      clear back st'
      (try simp only [nsl, Value.cells, unB] at st)
      (try clear hc); have hc := st.facts; (try simp only [nfl, nft, Nat.reduceAdd] at hc)
      have HR2 := Lib.hid hr
      clear hr
      obtain ⟨tl, htl⟩ : ∃ m, tg.length = m := ⟨_, rfl⟩
      have HTL := Lib.hid htl
      rw [htl] at st hc1 ⊢
      clear htl
      by_cases h8 : tl = 8
      · subst h8
        have H1 : Hid (rdSg xs = .ok (⟨⟨ck, (ho, hd), cw, (bo, bd'), (co, cd), we⟩, none, 8, 0, tg⟩, zs)) := Lib.hid (by simp [rdSg, HR1.out, HR2.out, bdm, HTL.out])
        go_wp2_with ((first
              | ((with_reducible refine wl_alloc ?_ (fun K hK => ?_)); rfl; refine owp_alloc (o := ⟨some 2, _, _, _, _, _⟩) rfl st ?_; apply Exists.intro; apply Exists.intro; refine ⟨?_, ?_⟩; (focus (first | (go_simp; done) | (go_simp; rfl))); (clear st; intro b2 w hb st; clear hb))
              | ((with_reducible refine wl_alloc ?_ (fun K hK => ?_)); rfl; refine owp_alloc (o := ⟨some 3, _, _, _, _, _⟩) rfl st ?_; apply Exists.intro; apply Exists.intro; refine ⟨?_, ?_⟩; (focus (first | (go_simp; done) | (go_simp; rfl))); (clear st; intro b3 w hb st; clear hb))
              | ((with_reducible refine wl_store ?_ (fun K hK => ?_)); rfl; refine owp_store rfl st ?_; apply Exists.intro; apply Exists.intro; refine ⟨?_, ?_, ?_⟩; (focus (go_simp; try rfl)); (focus (go_simp; try rfl)); (first | (with_reducible refine ⟨0, _, _, _, _, get0, rfl, rfl, ?_, ?_, ?_, ?_⟩) | (with_reducible refine ⟨1, _, _, _, _, get1, rfl, rfl, ?_, ?_, ?_, ?_⟩) | (with_reducible refine ⟨2, _, _, _, _, get2, rfl, rfl, ?_, ?_, ?_, ?_⟩) | (with_reducible refine ⟨3, _, _, _, _, get3, rfl, rfl, ?_, ?_, ?_, ?_⟩) | (with_reducible refine ⟨4, _, _, _, _, get4, rfl, rfl, ?_, ?_, ?_, ?_⟩) | (with_reducible refine ⟨5, _, _, _, _, get5, rfl, rfl, ?_, ?_, ?_, ?_⟩)); (kernel_rfl); (simp [Value.cells]); (rfl); (clear st; intro w st))); (try simp only [nsl, Value.cells, unB] at st); (try clear hc); have hc := st.facts; (try simp only [nfl, nft, Nat.reduceAdd] at hc))
        (try simp only [Exit.inBlock, Exit.then])
        refine bodyPost_cell rfl rfl (st.blk (i := 1) get1) Try.underlying76 rfl (by kernel_rfl) rfl ?_
        unfold RdC
        rw [H1.out]
        have st' := st.keep [0, 3] (by decide) (by simp)
        exact ⟨_, [byI ta 8 tg], rfl, ⟨ta, tc, rfl, hc1, rfl⟩, by simpa [pick] using st'⟩
      · have H1 : Hid (rdSg xs = .error 11) := Lib.hid (by simp [rdSg, HR1.out, HR2.out, bdm, HTL.out, h8])
        have h8b : ((tl : Int) != 8) = true := by simpa using (by omega : (tl : Int) ≠ 8)
        have H8 := Lib.hid h8
        clear h8
        go_wp2_with ((first
              | ((with_reducible refine wl_alloc ?_ (fun K hK => ?_)); rfl; refine owp_alloc (o := ⟨some 2, _, _, _, _, _⟩) rfl st ?_; apply Exists.intro; apply Exists.intro; refine ⟨?_, ?_⟩; (focus (first | (go_simp; done) | (go_simp; rfl))); (clear st; intro b2 w hb st; clear hb))
              | ((with_reducible refine wl_alloc ?_ (fun K hK => ?_)); rfl; refine owp_alloc (o := ⟨some 3, _, _, _, _, _⟩) rfl st ?_; apply Exists.intro; apply Exists.intro; refine ⟨?_, ?_⟩; (focus (first | (go_simp; done) | (go_simp; rfl))); (clear st; intro b3 w hb st; clear hb))
              | ((with_reducible refine wl_store ?_ (fun K hK => ?_)); rfl; refine owp_store rfl st ?_; apply Exists.intro; apply Exists.intro; refine ⟨?_, ?_, ?_⟩; (focus (go_simp; try rfl)); (focus (go_simp; try rfl)); (first | (with_reducible refine ⟨0, _, _, _, _, get0, rfl, rfl, ?_, ?_, ?_, ?_⟩) | (with_reducible refine ⟨1, _, _, _, _, get1, rfl, rfl, ?_, ?_, ?_, ?_⟩) | (with_reducible refine ⟨2, _, _, _, _, get2, rfl, rfl, ?_, ?_, ?_, ?_⟩) | (with_reducible refine ⟨3, _, _, _, _, get3, rfl, rfl, ?_, ?_, ?_, ?_⟩) | (with_reducible refine ⟨4, _, _, _, _, get4, rfl, rfl, ?_, ?_, ?_, ?_⟩) | (with_reducible refine ⟨5, _, _, _, _, get5, rfl, rfl, ?_, ?_, ?_, ?_⟩)); (kernel_rfl); (simp [Value.cells]); (rfl); (clear st; intro w st))); (try simp only [nsl, Value.cells, unB] at st); (try clear hc); have hc := st.facts; (try simp only [nfl, nft, Nat.reduceAdd] at hc))
        obtain ⟨_, sq, ⟨_, hrd⟩, _⟩ := st.get (i := 0) (I := rdI r zs) get0
        have HRD := Lib.hid hrd.any
        clear hrd
        refine (fail_any _ r 11 HRD.out (by decide)).mono ?_
        rintro en w' ⟨rfl, rfl⟩
        go_wp2_with fail
        refine ⟨rfl, ?_⟩
        unfold RdC
        rw [H1.out]
        have st' := (st.rdAny (i := 0) get0).keep [0] (by decide) (by simp)
        exact ⟨rfl, by simpa [pick] using st'⟩
end Go.Proofs.Ytmlhilgdjedeoaa

namespace Go.Proofs.Ytmlhilgdjedeoaa
set_option linter.unusedSimpArgs false
set_option linter.unusedVariables false
open Go Go.RowKit
theorem sameSs_refl : ∀ l : List SgnT, sameSs l l = true
  | [] => rfl
  | x :: l => by unfold sameSs sameSg; rw [credEq_self, sameSs_refl l]; simp
theorem sameSs_nil (l : List SgnT) : sameSs [] l = decide (l = []) := by cases l <;> rfl
end Go.Proofs.Ytmlhilgdjedeoaa

namespace Go.Proofs.Ytmlhilgdjedeoaa.Rg4
set_option linter.unusedSimpArgs false
set_option linter.unusedVariables false
open Go Go.Proofs.Ytmlhilgdjedeoaa.Rg
section
variable (P : Program) (ops : Array Oper) (T : Array Nat) (Rel : World → World → Prop) (ld : Nat → Bool) (Cl : World → Prop) (kd : Nat → Kd) (Q : Exit → Act → World → Prop)
/-- The walk up to a fork. -/
def wp5 (E : World → Facts → Act → Prop) : List (Nat × Oper) → World → Facts → Act → Prop
  | [], w0, F, a => E w0 F a
  | (k, o) :: rest, w0, F, a =>
    if Region.wanted o (yielded ops a.tmps) = true then
      match kd k with
      | .none => ∃ c, (∀ w, (ld k = true → Rel w0 w) → Cl w → stillAt P o a w c) ∧ wp5 E rest w0 F (a.put o.dst c)
      | .some (.some S) => (∀ w, Rel w0 w → Cl w → Pre ops T F k w → relAt P o a w (fun v w' => Rel w w' ∧ Cl w' ∧ S v w')) ∧
          ∀ v, (∃ w, Rel w0 w ∧ Cl w ∧ S v w) → wp5 E rest w0 (upd F k (S v)) (a.put o.dst v)
      | .some .none => ∀ w, Rel w0 w → Cl w → All F w → o.wp P a w (fun a' w' => Cl w' ∧ wp5 E rest w' none a') Q ∨ (o.asks P a w ∧ LetsOut Q)
    else wp5 E rest w0 F (a.put o.dst undef)
/-- Both orders of two barriers. -/
def fork4 (i j : Nat) (oi oj : Oper) (r : List (Nat × Oper)) (w0 : World) (F : Facts) (a : Act) : Prop :=
  wp4 P ops T Rel ld Cl kd Q ((i, oi) :: (j, oj) :: r) w0 F a ∧ wp4 P ops T Rel ld Cl kd Q ((j, oj) :: (i, oi) :: r) w0 F a
end
def lex5 (ops : Array Oper) (C : List Nat) (e : Array Bool → Bool) : List Nat → Array Bool → Bool
  | [], listed => e listed
  | k :: ks, listed => (if C.contains k then decide (Region.ready .any ops listed = [k]) else (Region.ready .any ops listed).contains k && Region.free .any ops listed k) && lex5 ops C e ks (listed.setIfInBounds k true)
def forkE (ops : Array Oper) (C : List Nat) (i j : Nat) (r : List Nat) (listed : Array Bool) : Bool :=
  decide (Region.ready .any ops listed = [i, j]) && (C.contains i && (C.contains j && (lex4 ops C (j :: r) (listed.setIfInBounds i true) && lex4 ops C (i :: r) (listed.setIfInBounds j true))))
section
variable {P : Program} {ops : Array Oper} {T : Array Nat} {Rel : World → World → Prop} {ld : Nat → Bool} {Cl : World → Prop} {kd : Nat → Kd} {Q : Exit → Act → World → Prop}
theorem kd_bar {C : List Nat} (hC : ∀ k, isC kd k = C.contains k) {i : Nat} (hkc : C.contains i = true) : kd i = .some .none := by
  have := hC i
  rw [hkc] at this
  unfold isC at this; revert this; cases kd i with
  | none => intro h; cases h
  | some x => cases x with
    | none => intro _; rfl
    | some S => intro h; cases h
theorem wpAny5_lex (htr : ∀ a b c, Rel a b → Rel b c → Rel a c) (hsp : ∀ k S, kd k = .some (.some S) → ∀ v w w', Rel w w' → S v w → S v w') (hB : befOk ops T = true)
    (hbar : ∀ i j, (isB kd i = true ∨ ld i = true) → isC kd j = true → bef ops T j i = true ∨ bef ops T i j = true) (hQ : ∀ c (a : Act) x v w, Q (.panic c) (a.put x v) w → Q (.panic c) a w)
    (C : List Nat) (hC : ∀ k, isC kd k = C.contains k) (hs : Region.noSelect ops = true) (e : Array Bool → Bool) (E : World → Facts → Act → Prop) (f0 : Nat)
    (hE : ∀ (listed : Array Bool) (w0 : World) (F : Facts) (a : Act), e listed = true → Closed ops T listed → StableF Rel F → E w0 F a → wpAny4 P ops T Rel ld Cl kd Q f0 listed w0 F a) :
    ∀ (l : List (Nat × Oper)) (listed : Array Bool) (w0 : World) (F : Facts) (a : Act), (∀ p ∈ l, ops[p.1]? = .some p.2) →
    lex5 ops C e (l.map (·.1)) listed = true → Closed ops T listed → StableF Rel F → wp5 P ops T Rel ld Cl kd Q E l w0 F a → wpAny4 P ops T Rel ld Cl kd Q (f0 + l.length) listed w0 F a
  | [], listed, w0, F, a, _, hL, hc, hst, h => hE listed w0 F a hL hc hst h
  | (k, o) :: l, listed, w0, F, a, hl, hL, hc, hst, h => by
    show wpAny4 P ops T Rel ld Cl kd Q ((f0 + l.length) + 1) listed w0 F a
    have h0 : ops[k]? = .some o := hl (k, o) (by simp)
    simp only [List.map_cons, lex5, Bool.and_eq_true] at hL
    obtain ⟨hL1, hL'⟩ := hL
    have hl' : ∀ p ∈ l, ops[p.1]? = .some p.2 := fun p hp => hl p (by simp [hp])
    by_cases hkc : C.contains k = true
    · rw [if_pos hkc, decide_eq_true_eq] at hL1
      have hr' : k ∈ Region.ready .any ops listed := by rw [hL1]; simp
      have IH := fun w0 F a hst h => wpAny5_lex htr hsp hB hbar hQ C hC hs e E f0 hE l (listed.setIfInBounds k true) w0 F a hl' hL' (closed_set hB hc hr') hst h
      intro hinh
      refine ⟨fun h => (by rw [hL1] at h; cases h), fun i hi => ?_⟩
      rw [hL1] at hi
      obtain rfl : i = k := by simpa using hi
      have hkk : kd i = .some .none := kd_bar hC hkc
      unfold op4
      unfold wp5 at h
      simp only [h0]
      by_cases hwant : Region.wanted o (yielded ops a.tmps) = true
      · simp only [hwant, if_true, hkk] at h ⊢
        intro w hw hcl hF
        exact (h w hw hcl hF).imp (Oper.wp_mono fun a' w' ⟨h1, h2⟩ => ⟨h1, IH w' none a' (fun _ _ _ _ _ => trivial) h2⟩) id
      · simp only [hwant] at h ⊢
        exact IH _ _ _ hst h
    · rw [if_neg hkc, Bool.and_eq_true] at hL1
      obtain ⟨hr, hf⟩ := hL1
      have hr' : k ∈ Region.ready .any ops listed := by simpa using hr
      have IH := fun w0 F a hst h => wpAny5_lex htr hsp hB hbar hQ C hC hs e E f0 hE l (listed.setIfInBounds k true) w0 F a hl' hL' (closed_set hB hc hr') hst h
      have hkc' : isC kd k = false := by rw [hC]; simpa using hkc
      refine wpAny4_first htr hsp hB hbar hQ h0 hkc' (Region.noSelect_spec hs) (f0 + l.length) listed w0 F a hst hc (Region.free_spec h0 hf) hr' ?_
      unfold op4
      unfold wp5 at h
      simp only [h0]
      by_cases hwant : Region.wanted o (yielded ops a.tmps) = true
      · simp only [hwant, if_true] at h ⊢
        cases hs : kd k with
        | none =>
          simp only [hs] at h ⊢
          obtain ⟨c, h1, h2⟩ := h
          exact ⟨c, h1, IH _ _ _ hst h2⟩
        | some k2 =>
          cases k2 with
          | none => unfold isC at hkc'; rw [hs] at hkc'; cases hkc'
          | some S =>
            simp only [hs] at h ⊢
            obtain ⟨h1, h2⟩ := h
            exact ⟨h1, fun v => wpAny4_of_inh fun ⟨w, hw, hcl, hF⟩ => IH _ _ _ (stable_upd hst (hsp k S hs v)) (h2 v ⟨w, hw, hcl, (hF k).2 rfl⟩)⟩
      · simp only [hwant] at h ⊢
        exact IH _ _ _ hst h
/-- A fork is any order of the two. -/
theorem fork_any (htr : ∀ a b c, Rel a b → Rel b c → Rel a c) (hsp : ∀ k S, kd k = .some (.some S) → ∀ v w w', Rel w w' → S v w → S v w') (hB : befOk ops T = true)
    (hbar : ∀ i j, (isB kd i = true ∨ ld i = true) → isC kd j = true → bef ops T j i = true ∨ bef ops T i j = true) (hQ : ∀ c (a : Act) x v w, Q (.panic c) (a.put x v) w → Q (.panic c) a w)
    (C : List Nat) (hC : ∀ k, isC kd k = C.contains k) (hs : Region.noSelect ops = true) {i j : Nat} {oi oj : Oper} {r : List (Nat × Oper)} (hi : ops[i]? = .some oi) (hj : ops[j]? = .some oj) (hr : ∀ p ∈ r, ops[p.1]? = .some p.2)
    (listed : Array Bool) (w0 : World) (F : Facts) (a : Act) (he : forkE ops C i j (r.map (·.1)) listed = true) (hc : Closed ops T listed) (hst : StableF Rel F) (h : fork4 P ops T Rel ld Cl kd Q i j oi oj r w0 F a) :
    wpAny4 P ops T Rel ld Cl kd Q (r.length + 2) listed w0 F a := by
  unfold forkE at he
  simp only [Bool.and_eq_true, decide_eq_true_eq] at he
  obtain ⟨e1, e2, e3, e4, e5⟩ := he
  obtain ⟨h1, h2⟩ := h
  have ri : i ∈ Region.ready .any ops listed := by rw [e1]; simp
  have rj : j ∈ Region.ready .any ops listed := by rw [e1]; simp
  have side : ∀ {x y : Nat} {ox oy : Oper}, ops[x]? = .some ox → ops[y]? = .some oy → C.contains x = true → x ∈ Region.ready .any ops listed → lex4 ops C (y :: r.map (·.1)) (listed.setIfInBounds x true) = true →
      wp4 P ops T Rel ld Cl kd Q ((x, ox) :: (y, oy) :: r) w0 F a → op4 P ops T Rel ld Cl kd Q x (wpAny4 P ops T Rel ld Cl kd Q (r.length + 1) (listed.setIfInBounds x true)) w0 F a := by
    intro x y ox oy hx hy hxc hxr hlex hw
    have IH := fun w0 F a hst h => wpAny4_lex (Rel := Rel) (ld := ld) (Cl := Cl) (kd := kd) (Q := Q) (P := P) htr hsp hB hbar hQ C hC hs ((y, oy) :: r) (listed.setIfInBounds x true) w0 F a (fun p hp => by
      rcases List.mem_cons.1 hp with q | q
      · subst q; exact hy
      · exact hr p q) hlex (closed_set hB hc hxr) hst h
    have hkk : kd x = .some .none := kd_bar hC hxc
    unfold op4
    unfold wp4 at hw
    simp only [hx]
    by_cases hwant : Region.wanted ox (yielded ops a.tmps) = true
    · simp only [hwant, if_true, hkk] at hw ⊢
      intro w hw1 hcl hF
      exact (hw w hw1 hcl hF).imp (Oper.wp_mono fun a' w' ⟨h1, h2⟩ => ⟨h1, IH w' none a' (fun _ _ _ _ _ => trivial) h2⟩) id
    · simp only [hwant] at hw ⊢
      exact IH _ _ _ hst hw
  intro _
  refine ⟨fun q => (by rw [e1] at q; cases q), fun x hx => ?_⟩
  rw [e1] at hx
  rcases List.mem_cons.1 hx with rfl | hx
  · exact side hi hj e2 ri e4 h1
  · obtain rfl : x = j := by simpa using hx
    exact side hj hi e3 rj e5 h2
section steps
variable {E : World → Facts → Act → Prop} {w0 : World} {o : Oper} {rest : List (Nat × Oper)} {k : Nat} {F : Facts} {a : Act}
theorem w5_end (h : E w0 F a) : wp5 P ops T Rel ld Cl kd Q E [] w0 F a := h
theorem w5_pure (hw : Region.wanted o (yielded ops a.tmps) = true) (hs : kd k = .none) (h : ∃ c, (∀ w, (ld k = true → Rel w0 w) → Cl w → (execOp a.eval o).run P w = .ok (.value c) w) ∧ wp5 P ops T Rel ld Cl kd Q E rest w0 F (a.put o.dst c)) :
    wp5 P ops T Rel ld Cl kd Q E ((k, o) :: rest) w0 F a := by
  unfold wp5; rw [if_pos hw, hs]; exact h
theorem w5_any (hw : Region.wanted o (yielded ops a.tmps) = true) (hs : kd k = .none) (h : ∃ c, (∀ w, (execOp a.eval o).run P w = .ok (.value c) w) ∧ wp5 P ops T Rel ld Cl kd Q E rest w0 F (a.put o.dst c)) :
    wp5 P ops T Rel ld Cl kd Q E ((k, o) :: rest) w0 F a := w5_pure hw hs (let ⟨c, h1, h2⟩ := h; ⟨c, fun w _ _ => h1 w, h2⟩)
theorem w5_cl (hw : Region.wanted o (yielded ops a.tmps) = true) (hs : kd k = .none) (h : ∃ c, (∀ w, Cl w → (execOp a.eval o).run P w = .ok (.value c) w) ∧ wp5 P ops T Rel ld Cl kd Q E rest w0 F (a.put o.dst c)) :
    wp5 P ops T Rel ld Cl kd Q E ((k, o) :: rest) w0 F a := w5_pure hw hs (let ⟨c, h1, h2⟩ := h; ⟨c, fun w _ => h1 w, h2⟩)
end steps
end
section
open Go.RowKit
variable {fr al : Nat → Prop} {w0 w : World} {L : List It}
variable {P : Program} {ops : Array Oper} {T : Array Nat} {ld : Nat → Bool} {Cl : World → Prop} {kd : Nat → Kd} {Q : Exit → Act → World → Prop}
end
attribute [irreducible] wp5
end Go.Proofs.Ytmlhilgdjedeoaa.Rg4

namespace Go.Proofs.Ytmlhilgdjedeoaa.Rg4
set_option linter.unusedSimpArgs false
set_option linter.unusedVariables false
open Go Go.Proofs.Ytmlhilgdjedeoaa.Rg
section
variable (P : Program) (ops : Array Oper) (T : Array Nat) (Rel : World → World → Prop) (ld : Nat → Bool) (Cl : World → Prop) (kd : Nat → Kd) (Q : Exit → Act → World → Prop)
/-- The three orders of i, j, k where j comes ahead of k. -/
def tree6 (i j k : Nat) (oi oj ok : Oper) (r : List (Nat × Oper)) (w0 : World) (F : Facts) (a : Act) : Prop :=
  wp4 P ops T Rel ld Cl kd Q ((i, oi) :: (j, oj) :: (k, ok) :: r) w0 F a ∧
  (∀ w, Rel w0 w → Cl w → All F w → oj.wp P a w (fun a' w' => Cl w' ∧ fork4 P ops T Rel ld Cl kd Q i k oi ok r w' none a') Q ∨ (oj.asks P a w ∧ LetsOut Q))
end
def treeE (ops : Array Oper) (C : List Nat) (i j k : Nat) (r : List Nat) (listed : Array Bool) : Bool :=
  decide (Region.ready .any ops listed = [i, j]) && (C.contains i && (C.contains j && (lex4 ops C (j :: k :: r) (listed.setIfInBounds i true) && forkE ops C i k r (listed.setIfInBounds j true))))
section
variable {P : Program} {ops : Array Oper} {T : Array Nat} {Rel : World → World → Prop} {ld : Nat → Bool} {Cl : World → Prop} {kd : Nat → Kd} {Q : Exit → Act → World → Prop}
theorem tree_any (htr : ∀ a b c, Rel a b → Rel b c → Rel a c) (hsp : ∀ k S, kd k = .some (.some S) → ∀ v w w', Rel w w' → S v w → S v w') (hB : befOk ops T = true)
    (hbar : ∀ i j, (isB kd i = true ∨ ld i = true) → isC kd j = true → bef ops T j i = true ∨ bef ops T i j = true) (hQ : ∀ c (a : Act) x v w, Q (.panic c) (a.put x v) w → Q (.panic c) a w)
    (C : List Nat) (hC : ∀ k, isC kd k = C.contains k) (hs : Region.noSelect ops = true) {i j k : Nat} {oi oj ok : Oper} {r : List (Nat × Oper)} (hi : ops[i]? = .some oi) (hj : ops[j]? = .some oj) (hk : ops[k]? = .some ok) (hr : ∀ p ∈ r, ops[p.1]? = .some p.2) (hgi : oi.guard = .none) (hgj : oj.guard = .none)
    (listed : Array Bool) (w0 : World) (F : Facts) (a : Act) (he : treeE ops C i j k (r.map (·.1)) listed = true) (hc : Closed ops T listed) (hst : StableF Rel F) (h : tree6 P ops T Rel ld Cl kd Q i j k oi oj ok r w0 F a) :
    wpAny4 P ops T Rel ld Cl kd Q (r.length + 3) listed w0 F a := by
  unfold treeE at he
  simp only [Bool.and_eq_true, decide_eq_true_eq] at he
  obtain ⟨e1, e2, e3, e4, e5⟩ := he
  obtain ⟨h1, h2⟩ := h
  have ri : i ∈ Region.ready .any ops listed := by rw [e1]; simp
  have rj : j ∈ Region.ready .any ops listed := by rw [e1]; simp
  have wi : ∀ x : Act, Region.wanted oi (yielded ops x.tmps) = true := fun x => by simp [Region.wanted, hgi]
  have wj : ∀ x : Act, Region.wanted oj (yielded ops x.tmps) = true := fun x => by simp [Region.wanted, hgj]
  intro _
  refine ⟨fun q => (by rw [e1] at q; cases q), fun x hx => ?_⟩
  rw [e1] at hx
  rcases List.mem_cons.1 hx with rfl | hx
  · have IH := fun w0 F a hst h => wpAny4_lex (Rel := Rel) (ld := ld) (Cl := Cl) (kd := kd) (Q := Q) (P := P) htr hsp hB hbar hQ C hC hs ((j, oj) :: (k, ok) :: r) (listed.setIfInBounds x true) w0 F a (fun p hp => by
      rcases List.mem_cons.1 hp with q | hp
      · subst q; exact hj
      rcases List.mem_cons.1 hp with q | q
      · subst q; exact hk
      · exact hr p q) e4 (closed_set hB hc ri) hst h
    have hkk : kd x = .some .none := kd_bar hC e2
    unfold op4
    unfold wp4 at h1
    simp only [hi, wi, if_true, hkk] at h1 ⊢
    intro w hw1 hcl hF
    exact (h1 w hw1 hcl hF).imp (Oper.wp_mono fun a' w' ⟨h1, h2⟩ => ⟨h1, IH w' none a' (fun _ _ _ _ _ => trivial) h2⟩) id
  · obtain rfl : x = j := by simpa using hx
    have hkk : kd x = .some .none := kd_bar hC e3
    unfold op4
    simp only [hj, wj, if_true, hkk]
    intro w hw1 hcl hF
    exact (h2 w hw1 hcl hF).imp (Oper.wp_mono fun a' w' ⟨h1, h2⟩ => ⟨h1, fork_any htr hsp hB hbar hQ C hC hs hi hk hr (listed.setIfInBounds x true) w' none a' e5 (closed_set hB hc rj) (fun _ _ _ _ _ => trivial) h2⟩) id
/-- The load yields one value wherever it comes: one walk serves the three orders. -/
theorem tree_load (hQ : ∀ c (a : Act) x v w, Q (.panic c) (a.put x v) w → Q (.panic c) a w) {i j k : Nat} {oi oj ok : Oper} {r : List (Nat × Oper)} {F : Facts} {a : Act} {w : World} {Bk : World → Prop} {c : Value}
    (hj : ops[j]? = .some oj) (hk : ops[k]? = .some ok) (hki : kd i = .some .none) (hkj : kd j = .some .none) (hkk : kd k = .some .none) (hgi : oi.guard = .none) (hgj : oj.guard = .none) (hgk : ok.guard = .none)
    (haj : oi.apart ops oj = true) (hak : oi.apart ops ok = true) (hsi : ∀ cs b, oi.op ≠ .select cs b) (hsj : ∀ cs b, oj.op ≠ .select cs b) (hsk : ∀ cs b, ok.op ≠ .select cs b)
    (hcl : ∀ w, Cl w) (hw : Bk w) (hbk : ∀ w, Bk w → (execOp a.eval oi).run P w = .ok (.value c) w)
    (h : oj.wp P (a.put oi.dst c) w (fun a' w' => Bk w' ∧ ok.wp P a' w' (fun a'' w'' => Bk w'' ∧ wp4 P ops T (· = ·) ld Cl kd Q r w'' none a'') Q) Q) :
    tree6 P ops T (· = ·) ld Cl kd Q i j k oi oj ok r w F a := by
  have wi : ∀ x : Act, Region.wanted oi (yielded ops x.tmps) = true := fun x => by simp [Region.wanted, hgi]
  have wj : ∀ x : Act, Region.wanted oj (yielded ops x.tmps) = true := fun x => by simp [Region.wanted, hgj]
  have wk : ∀ x : Act, Region.wanted ok (yielded ops x.tmps) = true := fun x => by simp [Region.wanted, hgk]
  obtain ⟨_, _, aj3⟩ := Oper.apart_spec haj
  obtain ⟨_, _, ak3⟩ := Oper.apart_spec hak
  constructor
  · refine w4_bar (wi _) hki (fun w' hw' _ _ K hK => ?_)
    subst hw'
    refine owp_run (hbk w hw) (hK _ _ ⟨hcl _, ?_⟩)
    refine w4_bar (wj _) hkj (fun w' hw' _ _ K hK => ?_)
    subst hw'
    refine Oper.wp_mono (fun a' w' ⟨_, h2⟩ => hK _ _ ⟨hcl _, ?_⟩) h
    refine w4_bar (wk _) hkk (fun w'' hw'' _ _ K hK => ?_)
    subst hw''
    exact Oper.wp_mono (fun a'' w'' ⟨_, h3⟩ => hK _ _ ⟨hcl _, h3⟩) h2
  · intro w' hw' _ _
    subst hw'
    refine (wpOp_put4 hj haj hsj (fun c a w q => hQ c a _ _ w q) (.inl h)).imp (Oper.wp_mono ?_) id
    rintro a' w' ⟨⟨u, D, rfl⟩, hb, h2⟩
    have exi : execOp (({ a with defers := D } : Act).put oj.dst u).eval oi = execOp a.eval oi := (execOp_put oi hsi { a with defers := D } oj.dst u aj3).trans rfl
    generalize hA : ({ a with defers := D } : Act).put oj.dst u = A at *
    refine ⟨hcl _, ?_, ?_⟩
    · refine w4_bar (wi _) hki (fun w1 hw1 _ _ K hK => ?_)
      subst hw1
      refine owp_run (by rw [exi]; exact hbk _ hb) (hK _ _ ⟨hcl _, ?_⟩)
      refine w4_bar (wk _) hkk (fun w1 hw1 _ _ K hK => ?_)
      subst hw1
      exact Oper.wp_mono (fun a'' w'' ⟨_, h3⟩ => hK _ _ ⟨hcl _, h3⟩) h2
    · unfold wp4
      rw [if_pos (wk _), hkk]
      intro w1 hw1 _ _
      subst hw1
      refine (wpOp_put4 hk hak hsk (fun c a w q => hQ c a _ _ w q) (.inl h2)).imp (Oper.wp_mono ?_) id
      rintro a'' w'' ⟨⟨u', D', rfl⟩, hb', h3⟩
      have exi2 : execOp (({ A with defers := D' } : Act).put ok.dst u').eval oi = execOp A.eval oi := (execOp_put oi hsi { A with defers := D' } ok.dst u' ak3).trans rfl
      refine ⟨hcl _, ?_⟩
      refine w4_bar (wi _) hki (fun w1 hw1 _ _ K hK => ?_)
      subst hw1
      exact owp_run (by rw [exi2, exi]; exact hbk _ hb') (hK _ _ ⟨hcl _, h3⟩)
theorem tree_load' (hQ : ∀ c (a : Act) x v w, Q (.panic c) (a.put x v) w → Q (.panic c) a w) {i j k : Nat} {oi oj ok : Oper} {r : List (Nat × Oper)} {F : Facts} {a : Act} {w : World} (Bk : World → Prop)
    (hj : ops[j]? = .some oj) (hk : ops[k]? = .some ok) (hki : kd i = .some .none) (hkj : kd j = .some .none) (hkk : kd k = .some .none) (hgi : oi.guard = .none) (hgj : oj.guard = .none) (hgk : ok.guard = .none)
    (haj : oi.apart ops oj = true) (hak : oi.apart ops ok = true) (hsi : ∀ cs b, oi.op ≠ .select cs b) (hsj : ∀ cs b, oj.op ≠ .select cs b) (hsk : ∀ cs b, ok.op ≠ .select cs b)
    (hcl : ∀ w, Cl w) (hw : Bk w)
    (h : ∃ c, (∀ w, Bk w → (execOp a.eval oi).run P w = .ok (.value c) w) ∧ ∀ K : Act → World → Prop, (∀ a' w', Bk w' ∧ (∀ K' : Act → World → Prop, (∀ a'' w'', Bk w'' ∧ wp4 P ops T (· = ·) ld Cl kd Q r w'' none a'' → K' a'' w'') → ok.wp P a' w' K' Q) → K a' w') → oj.wp P (a.put oi.dst c) w K Q) :
    tree6 P ops T (· = ·) ld Cl kd Q i j k oi oj ok r w F a :=
  let ⟨_, h1, h2⟩ := h
  tree_load (Bk := Bk) hQ hj hk hki hkj hkk hgi hgj hgk haj hak hsi hsj hsk hcl hw h1 (h2 _ fun _ _ ⟨q1, q2⟩ => ⟨q1, q2 _ fun _ _ q => q⟩)
end
/-- A region whose order is drawn, up to a load that may come ahead of a call, behind it, or behind what follows the call. -/
theorem wp_region6_eq {P : Program} (T : Array Nat) (Cs Ls : List Nat) (Cl : World → Prop) (p : List Nat) (i j k : Nat) (r : List Nat) {id : Nat} {Q : Exit → Act → World → Prop} {a : Act} {w : World} {l : List Oper} {oi oj ok : Oper} (hm : P.follows .mixedOrders = true)
    (hi : l[i]? = some oi) (hj : l[j]? = some oj) (hk : l[k]? = some ok) (hgi : oi.guard = .none) (hgj : oj.guard = .none)
    (hL : (Region.noSelect l.toArray && (lex5 l.toArray Cs (treeE l.toArray Cs i j k ((inOrd l r).map (·.1))) ((inOrd l p).map (·.1)) (Array.replicate l.length false) && (inOrd l r).length + 3 + (inOrd l p).length == l.length)) = true) (hB : befOk l.toArray T = true) (hb : barB l.toArray T Ls Cs = true)
    (hQ : ∀ c (a : Act) x v w, Q (.panic c) (a.put x v) w → Q (.panic c) a w) (hcl : Cl { w with drawn := w.drawn + 1 })
    (h : wp5 P l.toArray T (· = ·) (fun k => Ls.contains k) Cl (kdOf (Rel := (· = ·)) [] Cs) Q (tree6 P l.toArray T (· = ·) (fun k => Ls.contains k) Cl (kdOf (Rel := (· = ·)) [] Cs) Q i j k oi oj ok (inOrd l r)) (inOrd l p) { w with drawn := w.drawn + 1 } none a) : (Code.region id l.toArray true).wp P Q a w := by
  rw [Bool.and_eq_true, Bool.and_eq_true] at hL
  have hlen : (inOrd l r).length + 3 + (inOrd l p).length = l.length := by simpa using hL.2.2
  have htr : ∀ a b c : World, a = b → b = c → a = c := fun _ _ _ h k => h.trans k
  have hbar : ∀ i j, (isB (kdOf (Rel := (· = ·)) [] Cs) i = true ∨ Ls.contains i = true) → isC (kdOf (Rel := (· = ·)) [] Cs) j = true → bef l.toArray T j i = true ∨ bef l.toArray T i j = true := fun i j hi hj => by
    rw [kdOf_C] at hj
    have h1 := List.all_eq_true.1 hb j (by simpa using hj)
    have h2 := List.all_eq_true.1 h1 i (by
      rcases hi with hi | hi
      · have := kdOf_B [] Cs i hi; cases this
      · simpa using hi)
    simpa using h2
  refine wp_region_any hm (wpAny_of_4 (T := T) (ld := fun k => Ls.contains k) (fun _ => rfl) htr (kdOf_sp [] Cs) _ _ { w with drawn := w.drawn + 1 } none _ _ (fun _ _ _ _ _ => trivial) rfl hcl (fun _ => trivial) ?_)
  have := wpAny5_lex (P := P) (Q := Q) (ld := fun k => Ls.contains k) (Cl := Cl) htr (kdOf_sp [] Cs) hB hbar hQ Cs (kdOf_C [] Cs) hL.1 (treeE l.toArray Cs i j k ((inOrd l r).map (·.1))) (tree6 P l.toArray T (· = ·) (fun k => Ls.contains k) Cl (kdOf (Rel := (· = ·)) [] Cs) Q i j k oi oj ok (inOrd l r)) ((inOrd l r).length + 3)
    (fun listed w0 F a he hc hst h => tree_any htr (kdOf_sp [] Cs) hB hbar hQ Cs (kdOf_C [] Cs) hL.1 (by simpa using hi) (by simpa using hj) (by simpa using hk) inOrd_mem hgi hgj listed w0 F a he hc hst h)
    (inOrd l p) (Array.replicate l.length false) { w with drawn := w.drawn + 1 } none a inOrd_mem hL.2.1 (fun k m hk => by
    exfalso
    by_cases h : k < l.length <;> simp [h] at hk) (fun _ _ _ _ _ => trivial) h
  rw [hlen] at this
  simpa using this
end Go.Proofs.Ytmlhilgdjedeoaa.Rg4
