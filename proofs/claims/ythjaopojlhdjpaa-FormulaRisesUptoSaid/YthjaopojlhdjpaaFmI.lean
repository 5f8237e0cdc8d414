/- slices.SortFunc at structs, over pieces of memory. -/
import Derived.Test.YthjaopojlhdjpaaSlStr
import Derived.Shelf.SlSortCmp.NoneTotal
import Derived.Sort.OwnSorted
import Derived.Test.YthjaopojlhdjpaaSlRoleD
import Derived.Test.YthjaopojlhdjpaaSort
namespace Go.Proofs.Ythjaopojlhdjpaa
set_option linter.unusedSimpArgs false
set_option linter.unusedVariables false
open Go Go.RowKit Go.Sort Go.Lib Go.Shelf
theorem Ext.grow {w w' : World} (h : Ext w w') : ∃ q os, w' = grow (w.drewN q) os := by
  refine ⟨w'.drawn - w.drawn, w'.heap.extract w.heap.size w'.heap.size, ?_⟩
  have hh : w'.heap = w.heap ++ w'.heap.extract w.heap.size w'.heap.size := by
    apply Array.ext_getElem?
    intro k
    rw [Array.getElem?_append]
    split
    · exact h.bel.block k (by assumption)
    · rw [Array.getElem?_extract]
      split
      · congr 1; omega
      · rw [Array.getElem?_eq_none]; have := h.le; omega
  have hd := h.drawn
  cases w' with
  | mk a b c d e =>
    have h1 := h.bel.os; have h2 := h.bel.tape; have h3 := h.bel.output
    simp only at h1 h2 h3 hd hh
    unfold Go.Sort.grow World.drewN
    simp only [World.mk.injEq]
    exact ⟨hh, h2, by omega, h1, h3⟩
section
variable {α : Type} [Flt α] [Inhabited α]
theorem flat_eq (xs : List α) : (flatK Flt.cells (Flt.k α) xs.toArray).toList = cellsL xs := by
  have hk := Flt.pos (α := α)
  apply List.ext_getElem?
  intro t
  by_cases ht : t < xs.length * Flt.k α
  · have hi : t / Flt.k α < xs.length := (Nat.div_lt_iff_lt_mul hk).2 ht
    have hr : t % Flt.k α < Flt.k α := Nat.mod_lt _ hk
    have e : t / Flt.k α * Flt.k α + t % Flt.k α = t := by rw [Nat.mul_comm]; exact Nat.div_add_mod _ _
    have h1 := cellsL_get (List.getElem?_eq_getElem hi) hr
    rw [e] at h1
    rw [h1, Array.getElem?_toList]
    have hrl : t % Flt.k α < (Flt.cells xs[t / Flt.k α]).length := by rw [Flt.len]; exact hr
    simp [flatK, ht, hi, hrl]
  · rw [List.getElem?_eq_none (by simp; omega), List.getElem?_eq_none (by rw [cellsL_len]; omega)]
theorem flat_eq' (xs : List α) : flatK Flt.cells (Flt.k α) xs.toArray = (cellsL xs).toArray := by
  rw [← flat_eq]
theorem heap_sortedK {w : World} {g n : Nat} {os : Array Obj} {cur : Array Value} {e : TypeId} {f : Nat × Nat} (d : Array Value) (hb : w.heap[g]? = some (.cells cur e f)) :
    (grow (putRow id (Sort.ahead w n) g 0 d) os).heap[g]? = some (.cells (putCells id 0 d cur) e f) := by
  have hg : g < w.heap.size := (Array.getElem?_eq_some_iff.1 hb).1
  rw [heap_grow_old _ _ (by simpa using hg)]
  simp [putRow, mapBlock, Sort.ahead, Array.getElem?_modify, hb, onCells]
theorem grownBy_sortedK {w : World} {g n : Nat} {os : Array Obj} (d : Array Value) : w.grownBy (grow (putRow id (Sort.ahead w n) g 0 d) os) (some g) := by
  refine ⟨rfl, rfl, rfl, by simp, fun k hk hne => ?_⟩
  rw [heap_grow_old _ _ (by simpa using hk)]
  have : g ≠ k := fun e => hne (by rw [e])
  simp [putRow, mapBlock, Sort.ahead, Array.getElem?_modify, this]
theorem take_putCellsK (cur : Array Value) (ts : List Value) (h : ts.length ≤ cur.size) : (putCells id 0 ts.toArray cur).toList.take ts.length = ts := by
  apply List.ext_getElem?
  intro j
  by_cases hj : j < ts.length
  · rw [List.getElem?_take_of_lt hj, Array.getElem?_toList]
    simp [putCells, hj, show j < cur.size by omega]
  · rw [List.getElem?_take_eq_none (by omega), List.getElem?_eq_none (by omega)]
variable {fr al : Nat → Prop} {w0 w : World} {L : List It}
theorem Own.holdsK (st : Own fr al w0 L w) {i n c g : Nat} {E : TypeId} {xs : List α} (hi : L[i]? = some (rowI E (Flt.k α) (.slice (some ⟨g, 0, none⟩) n c) n (cellsL xs))) : HoldsK Flt.cells (Flt.k α) w g 0 xs.toArray ∧ g < w.heap.size := by
  have hrow := st.row hi
  rcases hrow.2 with ⟨h1, h2⟩ | ⟨g', cap, cur, h1, hb, hg, hcap, hm, hs, ht⟩
  · cases h1
  · cases h1
    refine ⟨?_, (Array.getElem?_eq_some_iff.1 hg).1⟩
    unfold HoldsK
    rw [flat_eq']
    intro j hj
    have hj' : j < (cellsL xs).length := by simpa using hj
    refine ⟨?_, by simp [World.frozen?, hg]⟩
    have hn : n * Flt.k α = (cellsL xs).length := hrow.1.symm
    have h1 : (cur.toList.take (n * Flt.k α))[j]? = (cellsL xs)[j]? := by rw [ht]
    rw [List.getElem?_take_of_lt (by omega)] at h1
    simp only [World.cell?, hg, Nat.zero_add]
    simp only [Option.isSome_none, Bool.false_eq_true, if_false]
    rw [← Array.getElem?_toList, h1]
    simp [hj']
theorem Own.sortedK (st : Own fr al w0 L w) {i n c g : Nat} {E : TypeId} {xs ys : List α} (hi : L[i]? = some (rowI E (Flt.k α) (.slice (some ⟨g, 0, none⟩) n c) n (cellsL xs))) (hl : ys.length = xs.length) (m : Nat) (os : Array Obj) :
    Own fr al w0 (L.set i (rowI E (Flt.k α) (.slice (some ⟨g, 0, none⟩) n c) n (cellsL ys))) (sortWorldK Flt.cells (Flt.k α) w g 0 m ys.toArray os) := by
  have hrow := st.row hi
  rcases hrow.2 with ⟨h1, h2⟩ | ⟨g', cap, cur, h1, hb, hg, hcap, hm, hs, ht⟩
  · cases h1
  · cases h1
    have hn : n * Flt.k α = (cellsL xs).length := hrow.1.symm
    have hy : (cellsL ys).length = n * Flt.k α := by rw [cellsL_len, hl, hn, cellsL_len]
    have hle : n * Flt.k α ≤ cur.size := by rw [hs]; exact Nat.mul_le_mul_right _ hcap
    have e : sortWorldK Flt.cells (Flt.k α) w g 0 m ys.toArray os = grow (putRow id (Sort.ahead w m) g 0 (cellsL ys).toArray) os := by unfold sortWorldK putRowK; rw [flat_eq']
    rw [e]
    refine st.upd hi fun e s ⟨q1, q2⟩ q3 q4 => ⟨e, s, ⟨?_, q2⟩, fun b hb => ⟨Nat.lt_of_lt_of_le (q3 b (.inl hb)) (grownBy_sortedK _).size, .inl hb⟩, fun b hb => ⟨Nat.lt_of_lt_of_le (q3 b (.inr hb)) (grownBy_sortedK _).size, .inr (.inl hb)⟩, q4, MutO.grown (MutO.refl _ _) ⟨grownBy_sortedK _, Nat.le_add_right _ _⟩ fun k hk _ => ?_⟩
    · exact ⟨hy, .inr ⟨g, c, _, rfl, hb, heap_sortedK _ hg, hcap, hm, by simp [putCells, hs], by rw [← hy]; exact take_putCellsK cur (cellsL ys) (by omega)⟩⟩
    · cases hk; exact q2 g rfl
end
end Go.Proofs.Ythjaopojlhdjpaa

namespace Go.Proofs.Ythjaopojlhdjpaa
set_option linter.unusedSimpArgs false
set_option linter.unusedVariables false
open Go Go.RowKit Go.Sort Go.Lib
theorem roleCmp_lt (x y : Role) : ltOf roleCmp x y = roleLt x y := by
  unfold ltOf roleCmp
  cases h : roleLt x y with
  | true => simp
  | false => cases h2 : roleLt y x <;> simp
theorem roleSwo : SWO (ltOf roleCmp) where
  irrefl x := by rw [roleCmp_lt]; exact (roleOrd (fun _ => true)).irr x
  trans x y z h1 h2 := by rw [roleCmp_lt] at *; exact (roleOrd (fun _ => true)).tr x y z h1 h2
  ntrans x y z h1 h2 := by
    rw [roleCmp_lt] at *
    have o := roleOrd (fun _ => true)
    cases h : roleLt x z with
    | false => rfl
    | true =>
      rcases o.tri x y rfl rfl with q | q | q
      · rw [q] at h1; cases h1
      · rw [q] at h; rw [h] at h2; cases h2
      · have := o.tr _ _ _ q h; rw [this] at h2; cases h2
theorem roleTot (x y : Role) (h1 : ltOf roleCmp x y = false) (h2 : ltOf roleCmp y x = false) : x = y := by
  rw [roleCmp_lt] at h1 h2
  rcases (roleOrd (fun _ => true)).tri x y rfl rfl with q | q | q
  · rw [q] at h1; cases h1
  · exact q
  · rw [q] at h2; cases h2
def roleSort (xs : List Role) : List Role := xs.mergeSort fun x y => !(ltOf roleCmp) y x
theorem roleSort_mem (xs : List Role) (x : Role) : x ∈ roleSort xs ↔ x ∈ xs := by unfold roleSort; exact List.mem_mergeSort
theorem roleSort_pw (xs : List Role) : (roleSort xs).Pairwise (fun x y => roleLt y x = false) := by
  have o := roleOrd (fun _ => true)
  have h1 := List.pairwise_mergeSort (le := fun x y : Role => !(ltOf roleCmp) y x) (fun a b c h1 h2 => by
    simp only [Bool.not_eq_true'] at *; exact roleSwo.ntrans _ _ _ h2 h1) (fun a b => by
    cases h : ltOf roleCmp b a with
    | false => rfl
    | true => cases h2 : ltOf roleCmp a b with
      | false => rfl
      | true => have := roleSwo.trans _ _ _ h h2; rw [roleSwo.irrefl] at this; cases this) xs
  refine h1.imp fun {a b} h => ?_
  simpa [roleCmp_lt] using h
/-- The set of the right roles of a list. -/
@[irreducible] def roleSet (l : List Role) : List Role := Lib.compact (roleSort (l.filter roleR))
theorem roleSet_eq (l : List Role) : roleSet l = Lib.compact (roleSort (l.filter roleR)) := by unfold roleSet; rfl
theorem roleSet_set (l : List Role) : SSet roleLt roleR l (roleSet l) := by
  rw [roleSet_eq]
  exact compact_set (roleOrd roleR) _ l (fun x => by rw [roleSort_mem, List.mem_filter]) (roleSort_pw _)
theorem role55 (args : Array Value) (w : World) : (callFunc 98 args).run Try.prog w = .ok (.enter 98 args) w := enters_of Try.func98 (by kernel_rfl) rfl args w
section
variable {fr al : Nat → Prop} {w0 w : World} {L : List It}
theorem sortRole_c (st : Own fr al w0 L w) (i : Nat) {n c : Nat} {a : Option Addr} {xs : List Role} (hi : L[i]? = some (rowI 23 2 (.slice a n c) n (cellsL xs))) (hn : n ≤ 2000000) :
    Calls Try.prog 97 #[.slice a n c, .func (.func 98) #[] #[]] w fun e w' => e = .returned (.tuple #[]) ∧ Own fr al w0 (L.set i (rowI 23 2 (.slice a n c) n (cellsL (roleSort xs)))) w' := by
  have hrow := st.row hi
  have hnx := roleLen hrow
  rcases Nat.eq_zero_or_pos n with h0 | h0
  · subst h0
    have hx : xs = [] := List.eq_nil_of_length_eq_zero hnx.symm
    subst hx
    refine (AnyF.slices_SortFunc_none Try.sortRole a c _ w).mono ?_
    rintro e w' ⟨rfl, rfl⟩
    refine ⟨rfl, ?_⟩
    have : L.set i (rowI 23 2 (.slice a 0 c) 0 (cellsL (roleSort []))) = L := by
      apply List.ext_getElem?
      intro q
      rw [List.getElem?_set]
      split
      · rename_i h; subst h; rw [hi, if_pos (get_lt hi)]; unfold roleSort; rw [List.mergeSort_nil]
      · rfl
    rw [this]; exact st
  · obtain ⟨g, cap', hv, hcap, _⟩ := st.rowAt hi h0
    injection hv with hv1 hv2 hv3
    subst hv1 hv3
    have hH := st.holdsK (α := Role) (xs := xs) hi
    have hcon := AnyQ.slices_SortFunc_total Try.sortRole 2 Try.isAgg23 Try.sizeOf23 (Flt.cells : Role → List Value) (fun x => Flt.len x) (fun x v hv => Flt.one x v hv) roleCmp roleSwo 98 #[] g 0 c xs.toArray w role55
      (fun m os dk _ x y => (roleCompare_any x y _).mono fun e w' h => ⟨h.1, h.2.grow⟩) hH.1 hH.2 (by simp; omega) roleTot
    change Calls Try.prog 97 _ _ _ at hcon
    rw [show xs.toArray.size = n by simp [hnx]] at hcon
    refine hcon.mono ?_
    rintro e w' ⟨rfl, m, os, rfl⟩
    exact ⟨rfl, st.sortedK (α := Role) hi (by unfold roleSort; simp) m os⟩
end
set_option maxRecDepth 100000 in
set_option maxHeartbeats 1000000 in
theorem roleSet_any (a : Option Addr) (n c : Nat) (l : List Role) (W : World) (h : Fl W a n l) (hn : n ≤ 2000000) (hs : ∀ x ∈ l, x.1.length ≤ 100000 ∧ x.2.length ≤ 100000) :
    Calls Try.prog 58 #[.slice a n c] W fun e w' => ∃ va vc, e = .returned (.slice va (roleSet l).length vc) ∧ FreshI W w' (rowI 23 2 (.slice va (roleSet l).length vc) (roleSet l).length (cellsL (roleSet l))) := by
  have H := Lib.hid (And.intro h hs)
  have st := Own.startOld W
  clear h hs
  (try simp only [nsl, Value.cells, unB] at st)
  (try clear hc); have hc := st.facts; (try simp only [nfl, nft, Nat.reduceAdd] at hc)
  go_enter Try.func58, Try.ntmps58
  go_wp2_with fail
  refine (roleClone_any a n c l _ (st.oldFl (i := 0) get0 H.out.1) hn).mono ?_
  rintro en w ⟨va, vc, rfl, hnew⟩
  replace st := st.fresh hnew
  clear hnew
  (try simp only [nsl, Value.cells, unB] at st)
  (try clear hc); have hc := st.facts; (try simp only [nfl, nft, Nat.reduceAdd] at hc)
  go_wp2_with fail
  obtain ⟨fr', al', st', back⟩ := st.sub [1] (by decide) (by simp)
  (try simp only [nsl, Value.cells, unB] at st')
  refine (deleteFuncRole_c st' hn 95 #[] (fun x => !roleR x) (fun _ _ => by kernel_rfl) (fun x hx w => roleSet1_any x w (H.out.2 x hx).1 (H.out.2 x hx).2)).mono ?_
  clear st'
  rintro en w ⟨m, rfl, st'⟩
  replace st := back _ _ (by simp) st'
  clear back st'
  (try simp only [nsl, Value.cells, unB] at st)
  (try clear hc); have hc := st.facts; (try simp only [nfl, nft, Nat.reduceAdd] at hc)
  simp only [Bool.not_not] at st
  have hm : m ≤ n := by
    have h1 := roleLen (st.row (i := 1) get1)
    have h2 := List.length_filter_le (fun x => roleR x) l
    have h3 := H.out.1.1
    omega
  go_wp2_with fail
  refine (sortRole_c st 1 get1 (by omega)).mono ?_
  rintro en w ⟨rfl, st'⟩
  clear st
  have st := st'
  clear st'
  (try simp only [nsl, Value.cells, unB] at st)
  (try clear hc); have hc := st.facts; (try simp only [nfl, nft, Nat.reduceAdd] at hc)
  go_wp2_with fail
  obtain ⟨fr', al', st', back⟩ := st.sub [1] (by decide) (by simp)
  (try simp only [nsl, Value.cells, unB] at st')
  refine (compactRole_c st' (by omega)).mono ?_
  clear st'
  rintro en w ⟨m2, rfl, st'⟩
  replace st := back _ _ (by simp) st'
  clear back st'
  (try simp only [nsl, Value.cells, unB] at st)
  (try clear hc); have hc := st.facts; (try simp only [nfl, nft, Nat.reduceAdd] at hc)
  rw [← roleSet_eq l] at st
  have hm2 := roleLen (st.row (i := 1) get1)
  subst hm2
  have hfin := st.toFresh (i := 1) get1
  have HF := Lib.hid hfin
  clear hfin st
  go_wp2_with fail
  go_ret
  exact ⟨va, vc, rfl, HF.out⟩
end Go.Proofs.Ythjaopojlhdjpaa

namespace Go.Proofs.Ythjaopojlhdjpaa
set_option linter.unusedSimpArgs false
set_option linter.unusedVariables false
open Go Go.RowKit
theorem Own.rowFl2 {α : Type} [Flt α] {fr al : Nat → Prop} {w0 w : World} {L : List It} (st : Own fr al w0 L w) {i n c : Nat} {a : Option Addr} {E : TypeId} {xs : List α} (hi : L[i]? = some (rowI E (Flt.k α) (.slice a n c) n (cellsL xs))) : (n ≤ c ∧ c ≤ maxLen) ∧ Fl w a n xs := by
  obtain ⟨a1, c1, hv, hc1, hfl⟩ := st.rowFl hi
  injection hv with hv1 _ hv3
  subst hv1 hv3
  exact ⟨hc1, hfl⟩
@[go_sem] theorem roleEq_self (x : Role) : roleEq x x = true := by rw [roleEq_eq]; simp
end Go.Proofs.Ythjaopojlhdjpaa

namespace Go.Proofs.Ythjaopojlhdjpaa.Rg4
set_option linter.unusedSimpArgs false
set_option linter.unusedVariables false
open Go Go.Proofs.Ythjaopojlhdjpaa.Rg
section
variable (P : Program) (ops : Array Oper) (T : Array Nat) (Rel : World → World → Prop) (ld : Nat → Bool) (Cl : World → Prop) (kd : Nat → Kd) (Q : Exit → Act → World → Prop)
/-- The walk up to a fork. -/
def wp5 (E : World → Facts → Act → Prop) : List (Nat × Oper) → World → Facts → Act → Prop
  | [], w0, F, a => E w0 F a
  | (k, o) :: rest, w0, F, a =>
    if Region.wanted o (yielded ops a.tmps) = true then
      match kd k with
      | .none => ∃ c, (∀ w, (ld k = true → Rel w0 w) → Cl w → stillAt P o a w c) ∧ wp5 E rest w0 F (a.put o.dst c)
      | .some (.some S) => (∀ w, Rel w0 w → Cl w → Pre ops T F k w → relAt P o a w (fun v w' => Rel w w' ∧ Cl w' ∧ S v w')) ∧
          ∀ v, (∃ w, Rel w0 w ∧ Cl w ∧ S v w) → wp5 E rest w0 (upd F k (S v)) (a.put o.dst v)
      | .some .none => ∀ w, Rel w0 w → Cl w → All F w → o.wp P a w (fun a' w' => Cl w' ∧ wp5 E rest w' none a') Q ∨ (o.asks P a w ∧ LetsOut Q)
    else wp5 E rest w0 F (a.put o.dst undef)
/-- Both orders of two barriers. -/
def fork4 (i j : Nat) (oi oj : Oper) (r : List (Nat × Oper)) (w0 : World) (F : Facts) (a : Act) : Prop :=
  wp4 P ops T Rel ld Cl kd Q ((i, oi) :: (j, oj) :: r) w0 F a ∧ wp4 P ops T Rel ld Cl kd Q ((j, oj) :: (i, oi) :: r) w0 F a
end
def lex5 (ops : Array Oper) (C : List Nat) (e : Array Bool → Bool) : List Nat → Array Bool → Bool
  | [], listed => e listed
  | k :: ks, listed => (if C.contains k then decide (Region.ready .any ops listed = [k]) else (Region.ready .any ops listed).contains k && Region.free .any ops listed k) && lex5 ops C e ks (listed.setIfInBounds k true)
def forkE (ops : Array Oper) (C : List Nat) (i j : Nat) (r : List Nat) (listed : Array Bool) : Bool :=
  decide (Region.ready .any ops listed = [i, j]) && (C.contains i && (C.contains j && (lex4 ops C (j :: r) (listed.setIfInBounds i true) && lex4 ops C (i :: r) (listed.setIfInBounds j true))))
section
variable {P : Program} {ops : Array Oper} {T : Array Nat} {Rel : World → World → Prop} {ld : Nat → Bool} {Cl : World → Prop} {kd : Nat → Kd} {Q : Exit → Act → World → Prop}
theorem kd_bar {C : List Nat} (hC : ∀ k, isC kd k = C.contains k) {i : Nat} (hkc : C.contains i = true) : kd i = .some .none := by
  have := hC i
  rw [hkc] at this
  unfold isC at this; revert this; cases kd i with
  | none => intro h; cases h
  | some x => cases x with
    | none => intro _; rfl
    | some S => intro h; cases h
theorem wpAny5_lex (htr : ∀ a b c, Rel a b → Rel b c → Rel a c) (hsp : ∀ k S, kd k = .some (.some S) → ∀ v w w', Rel w w' → S v w → S v w') (hB : befOk ops T = true)
    (hbar : ∀ i j, (isB kd i = true ∨ ld i = true) → isC kd j = true → bef ops T j i = true ∨ bef ops T i j = true) (hQ : ∀ c (a : Act) x v w, Q (.panic c) (a.put x v) w → Q (.panic c) a w)
    (C : List Nat) (hC : ∀ k, isC kd k = C.contains k) (hs : Region.noSelect ops = true) (e : Array Bool → Bool) (E : World → Facts → Act → Prop) (f0 : Nat)
    (hE : ∀ (listed : Array Bool) (w0 : World) (F : Facts) (a : Act), e listed = true → Closed ops T listed → StableF Rel F → E w0 F a → wpAny4 P ops T Rel ld Cl kd Q f0 listed w0 F a) :
    ∀ (l : List (Nat × Oper)) (listed : Array Bool) (w0 : World) (F : Facts) (a : Act), (∀ p ∈ l, ops[p.1]? = .some p.2) →
    lex5 ops C e (l.map (·.1)) listed = true → Closed ops T listed → StableF Rel F → wp5 P ops T Rel ld Cl kd Q E l w0 F a → wpAny4 P ops T Rel ld Cl kd Q (f0 + l.length) listed w0 F a
  | [], listed, w0, F, a, _, hL, hc, hst, h => hE listed w0 F a hL hc hst h
  | (k, o) :: l, listed, w0, F, a, hl, hL, hc, hst, h => by
    show wpAny4 P ops T Rel ld Cl kd Q ((f0 + l.length) + 1) listed w0 F a
    have h0 : ops[k]? = .some o := hl (k, o) (by simp)
    simp only [List.map_cons, lex5, Bool.and_eq_true] at hL
    obtain ⟨hL1, hL'⟩ := hL
    have hl' : ∀ p ∈ l, ops[p.1]? = .some p.2 := fun p hp => hl p (by simp [hp])
    by_cases hkc : C.contains k = true
    · rw [if_pos hkc, decide_eq_true_eq] at hL1
      have hr' : k ∈ Region.ready .any ops listed := by rw [hL1]; simp
      have IH := fun w0 F a hst h => wpAny5_lex htr hsp hB hbar hQ C hC hs e E f0 hE l (listed.setIfInBounds k true) w0 F a hl' hL' (closed_set hB hc hr') hst h
      intro hinh
      refine ⟨fun h => (by rw [hL1] at h; cases h), fun i hi => ?_⟩
      rw [hL1] at hi
      obtain rfl : i = k := by simpa using hi
      have hkk : kd i = .some .none := kd_bar hC hkc
      unfold op4
      unfold wp5 at h
      simp only [h0]
      by_cases hwant : Region.wanted o (yielded ops a.tmps) = true
      · simp only [hwant, if_true, hkk] at h ⊢
        intro w hw hcl hF
        exact (h w hw hcl hF).imp (Oper.wp_mono fun a' w' ⟨h1, h2⟩ => ⟨h1, IH w' none a' (fun _ _ _ _ _ => trivial) h2⟩) id
      · simp only [hwant] at h ⊢
        exact IH _ _ _ hst h
    · rw [if_neg hkc, Bool.and_eq_true] at hL1
      obtain ⟨hr, hf⟩ := hL1
      have hr' : k ∈ Region.ready .any ops listed := by simpa using hr
      have IH := fun w0 F a hst h => wpAny5_lex htr hsp hB hbar hQ C hC hs e E f0 hE l (listed.setIfInBounds k true) w0 F a hl' hL' (closed_set hB hc hr') hst h
      have hkc' : isC kd k = false := by rw [hC]; simpa using hkc
      refine wpAny4_first htr hsp hB hbar hQ h0 hkc' (Region.noSelect_spec hs) (f0 + l.length) listed w0 F a hst hc (Region.free_spec h0 hf) hr' ?_
      unfold op4
      unfold wp5 at h
      simp only [h0]
      by_cases hwant : Region.wanted o (yielded ops a.tmps) = true
      · simp only [hwant, if_true] at h ⊢
        cases hs : kd k with
        | none =>
          simp only [hs] at h ⊢
          obtain ⟨c, h1, h2⟩ := h
          exact ⟨c, h1, IH _ _ _ hst h2⟩
        | some k2 =>
          cases k2 with
          | none => unfold isC at hkc'; rw [hs] at hkc'; cases hkc'
          | some S =>
            simp only [hs] at h ⊢
            obtain ⟨h1, h2⟩ := h
            exact ⟨h1, fun v => wpAny4_of_inh fun ⟨w, hw, hcl, hF⟩ => IH _ _ _ (stable_upd hst (hsp k S hs v)) (h2 v ⟨w, hw, hcl, (hF k).2 rfl⟩)⟩
      · simp only [hwant] at h ⊢
        exact IH _ _ _ hst h
/-- A fork is any order of the two. -/
theorem fork_any (htr : ∀ a b c, Rel a b → Rel b c → Rel a c) (hsp : ∀ k S, kd k = .some (.some S) → ∀ v w w', Rel w w' → S v w → S v w') (hB : befOk ops T = true)
    (hbar : ∀ i j, (isB kd i = true ∨ ld i = true) → isC kd j = true → bef ops T j i = true ∨ bef ops T i j = true) (hQ : ∀ c (a : Act) x v w, Q (.panic c) (a.put x v) w → Q (.panic c) a w)
    (C : List Nat) (hC : ∀ k, isC kd k = C.contains k) (hs : Region.noSelect ops = true) {i j : Nat} {oi oj : Oper} {r : List (Nat × Oper)} (hi : ops[i]? = .some oi) (hj : ops[j]? = .some oj) (hr : ∀ p ∈ r, ops[p.1]? = .some p.2)
    (listed : Array Bool) (w0 : World) (F : Facts) (a : Act) (he : forkE ops C i j (r.map (·.1)) listed = true) (hc : Closed ops T listed) (hst : StableF Rel F) (h : fork4 P ops T Rel ld Cl kd Q i j oi oj r w0 F a) :
    wpAny4 P ops T Rel ld Cl kd Q (r.length + 2) listed w0 F a := by
  unfold forkE at he
  simp only [Bool.and_eq_true, decide_eq_true_eq] at he
  obtain ⟨e1, e2, e3, e4, e5⟩ := he
  obtain ⟨h1, h2⟩ := h
  have ri : i ∈ Region.ready .any ops listed := by rw [e1]; simp
  have rj : j ∈ Region.ready .any ops listed := by rw [e1]; simp
  have side : ∀ {x y : Nat} {ox oy : Oper}, ops[x]? = .some ox → ops[y]? = .some oy → C.contains x = true → x ∈ Region.ready .any ops listed → lex4 ops C (y :: r.map (·.1)) (listed.setIfInBounds x true) = true →
      wp4 P ops T Rel ld Cl kd Q ((x, ox) :: (y, oy) :: r) w0 F a → op4 P ops T Rel ld Cl kd Q x (wpAny4 P ops T Rel ld Cl kd Q (r.length + 1) (listed.setIfInBounds x true)) w0 F a := by
    intro x y ox oy hx hy hxc hxr hlex hw
    have IH := fun w0 F a hst h => wpAny4_lex (Rel := Rel) (ld := ld) (Cl := Cl) (kd := kd) (Q := Q) (P := P) htr hsp hB hbar hQ C hC hs ((y, oy) :: r) (listed.setIfInBounds x true) w0 F a (fun p hp => by
      rcases List.mem_cons.1 hp with q | q
      · subst q; exact hy
      · exact hr p q) hlex (closed_set hB hc hxr) hst h
    have hkk : kd x = .some .none := kd_bar hC hxc
    unfold op4
    unfold wp4 at hw
    simp only [hx]
    by_cases hwant : Region.wanted ox (yielded ops a.tmps) = true
    · simp only [hwant, if_true, hkk] at hw ⊢
      intro w hw1 hcl hF
      exact (hw w hw1 hcl hF).imp (Oper.wp_mono fun a' w' ⟨h1, h2⟩ => ⟨h1, IH w' none a' (fun _ _ _ _ _ => trivial) h2⟩) id
    · simp only [hwant] at hw ⊢
      exact IH _ _ _ hst hw
  intro _
  refine ⟨fun q => (by rw [e1] at q; cases q), fun x hx => ?_⟩
  rw [e1] at hx
  rcases List.mem_cons.1 hx with rfl | hx
  · exact side hi hj e2 ri e4 h1
  · obtain rfl : x = j := by simpa using hx
    exact side hj hi e3 rj e5 h2
section steps
variable {E : World → Facts → Act → Prop} {w0 : World} {o : Oper} {rest : List (Nat × Oper)} {k : Nat} {F : Facts} {a : Act}
theorem w5_end (h : E w0 F a) : wp5 P ops T Rel ld Cl kd Q E [] w0 F a := h
theorem w5_pure (hw : Region.wanted o (yielded ops a.tmps) = true) (hs : kd k = .none) (h : ∃ c, (∀ w, (ld k = true → Rel w0 w) → Cl w → (execOp a.eval o).run P w = .ok (.value c) w) ∧ wp5 P ops T Rel ld Cl kd Q E rest w0 F (a.put o.dst c)) :
    wp5 P ops T Rel ld Cl kd Q E ((k, o) :: rest) w0 F a := by
  unfold wp5; rw [if_pos hw, hs]; exact h
theorem w5_any (hw : Region.wanted o (yielded ops a.tmps) = true) (hs : kd k = .none) (h : ∃ c, (∀ w, (execOp a.eval o).run P w = .ok (.value c) w) ∧ wp5 P ops T Rel ld Cl kd Q E rest w0 F (a.put o.dst c)) :
    wp5 P ops T Rel ld Cl kd Q E ((k, o) :: rest) w0 F a := w5_pure hw hs (let ⟨c, h1, h2⟩ := h; ⟨c, fun w _ _ => h1 w, h2⟩)
end steps
end
section
open Go.RowKit
variable {fr al : Nat → Prop} {w0 w : World} {L : List It}
variable {P : Program} {ops : Array Oper} {T : Array Nat} {ld : Nat → Bool} {Cl : World → Prop} {kd : Nat → Kd} {Q : Exit → Act → World → Prop}
end
attribute [irreducible] wp5
end Go.Proofs.Ythjaopojlhdjpaa.Rg4

namespace Go.Proofs.Ythjaopojlhdjpaa.Rg4
set_option linter.unusedSimpArgs false
set_option linter.unusedVariables false
open Go Go.Proofs.Ythjaopojlhdjpaa.Rg
section
variable (P : Program) (ops : Array Oper) (T : Array Nat) (Rel : World → World → Prop) (ld : Nat → Bool) (Cl : World → Prop) (kd : Nat → Kd) (Q : Exit → Act → World → Prop)
/-- The three orders of i, j, k where j comes ahead of k. -/
def tree6 (i j k : Nat) (oi oj ok : Oper) (r : List (Nat × Oper)) (w0 : World) (F : Facts) (a : Act) : Prop :=
  wp4 P ops T Rel ld Cl kd Q ((i, oi) :: (j, oj) :: (k, ok) :: r) w0 F a ∧
  (∀ w, Rel w0 w → Cl w → All F w → oj.wp P a w (fun a' w' => Cl w' ∧ fork4 P ops T Rel ld Cl kd Q i k oi ok r w' none a') Q ∨ (oj.asks P a w ∧ LetsOut Q))
end
def treeE (ops : Array Oper) (C : List Nat) (i j k : Nat) (r : List Nat) (listed : Array Bool) : Bool :=
  decide (Region.ready .any ops listed = [i, j]) && (C.contains i && (C.contains j && (lex4 ops C (j :: k :: r) (listed.setIfInBounds i true) && forkE ops C i k r (listed.setIfInBounds j true))))
section
variable {P : Program} {ops : Array Oper} {T : Array Nat} {Rel : World → World → Prop} {ld : Nat → Bool} {Cl : World → Prop} {kd : Nat → Kd} {Q : Exit → Act → World → Prop}
theorem tree_any (htr : ∀ a b c, Rel a b → Rel b c → Rel a c) (hsp : ∀ k S, kd k = .some (.some S) → ∀ v w w', Rel w w' → S v w → S v w') (hB : befOk ops T = true)
    (hbar : ∀ i j, (isB kd i = true ∨ ld i = true) → isC kd j = true → bef ops T j i = true ∨ bef ops T i j = true) (hQ : ∀ c (a : Act) x v w, Q (.panic c) (a.put x v) w → Q (.panic c) a w)
    (C : List Nat) (hC : ∀ k, isC kd k = C.contains k) (hs : Region.noSelect ops = true) {i j k : Nat} {oi oj ok : Oper} {r : List (Nat × Oper)} (hi : ops[i]? = .some oi) (hj : ops[j]? = .some oj) (hk : ops[k]? = .some ok) (hr : ∀ p ∈ r, ops[p.1]? = .some p.2) (hgi : oi.guard = .none) (hgj : oj.guard = .none)
    (listed : Array Bool) (w0 : World) (F : Facts) (a : Act) (he : treeE ops C i j k (r.map (·.1)) listed = true) (hc : Closed ops T listed) (hst : StableF Rel F) (h : tree6 P ops T Rel ld Cl kd Q i j k oi oj ok r w0 F a) :
    wpAny4 P ops T Rel ld Cl kd Q (r.length + 3) listed w0 F a := by
  unfold treeE at he
  simp only [Bool.and_eq_true, decide_eq_true_eq] at he
  obtain ⟨e1, e2, e3, e4, e5⟩ := he
  obtain ⟨h1, h2⟩ := h
  have ri : i ∈ Region.ready .any ops listed := by rw [e1]; simp
  have rj : j ∈ Region.ready .any ops listed := by rw [e1]; simp
  have wi : ∀ x : Act, Region.wanted oi (yielded ops x.tmps) = true := fun x => by simp [Region.wanted, hgi]
  have wj : ∀ x : Act, Region.wanted oj (yielded ops x.tmps) = true := fun x => by simp [Region.wanted, hgj]
  intro _
  refine ⟨fun q => (by rw [e1] at q; cases q), fun x hx => ?_⟩
  rw [e1] at hx
  rcases List.mem_cons.1 hx with rfl | hx
  · have IH := fun w0 F a hst h => wpAny4_lex (Rel := Rel) (ld := ld) (Cl := Cl) (kd := kd) (Q := Q) (P := P) htr hsp hB hbar hQ C hC hs ((j, oj) :: (k, ok) :: r) (listed.setIfInBounds x true) w0 F a (fun p hp => by
      rcases List.mem_cons.1 hp with q | hp
      · subst q; exact hj
      rcases List.mem_cons.1 hp with q | q
      · subst q; exact hk
      · exact hr p q) e4 (closed_set hB hc ri) hst h
    have hkk : kd x = .some .none := kd_bar hC e2
    unfold op4
    unfold wp4 at h1
    simp only [hi, wi, if_true, hkk] at h1 ⊢
    intro w hw1 hcl hF
    exact (h1 w hw1 hcl hF).imp (Oper.wp_mono fun a' w' ⟨h1, h2⟩ => ⟨h1, IH w' none a' (fun _ _ _ _ _ => trivial) h2⟩) id
  · obtain rfl : x = j := by simpa using hx
    have hkk : kd x = .some .none := kd_bar hC e3
    unfold op4
    simp only [hj, wj, if_true, hkk]
    intro w hw1 hcl hF
    exact (h2 w hw1 hcl hF).imp (Oper.wp_mono fun a' w' ⟨h1, h2⟩ => ⟨h1, fork_any htr hsp hB hbar hQ C hC hs hi hk hr (listed.setIfInBounds x true) w' none a' e5 (closed_set hB hc rj) (fun _ _ _ _ _ => trivial) h2⟩) id
/-- The load yields one value wherever it comes: one walk serves the three orders. -/
theorem tree_load (hQ : ∀ c (a : Act) x v w, Q (.panic c) (a.put x v) w → Q (.panic c) a w) {i j k : Nat} {oi oj ok : Oper} {r : List (Nat × Oper)} {F : Facts} {a : Act} {w : World} {Bk : World → Prop} {c : Value}
    (hj : ops[j]? = .some oj) (hk : ops[k]? = .some ok) (hki : kd i = .some .none) (hkj : kd j = .some .none) (hkk : kd k = .some .none) (hgi : oi.guard = .none) (hgj : oj.guard = .none) (hgk : ok.guard = .none)
    (haj : oi.apart ops oj = true) (hak : oi.apart ops ok = true) (hsi : ∀ cs b, oi.op ≠ .select cs b) (hsj : ∀ cs b, oj.op ≠ .select cs b) (hsk : ∀ cs b, ok.op ≠ .select cs b)
    (hcl : ∀ w, Cl w) (hw : Bk w) (hbk : ∀ w, Bk w → (execOp a.eval oi).run P w = .ok (.value c) w)
    (h : oj.wp P (a.put oi.dst c) w (fun a' w' => Bk w' ∧ ok.wp P a' w' (fun a'' w'' => Bk w'' ∧ wp4 P ops T (· = ·) ld Cl kd Q r w'' none a'') Q) Q) :
    tree6 P ops T (· = ·) ld Cl kd Q i j k oi oj ok r w F a := by
  have wi : ∀ x : Act, Region.wanted oi (yielded ops x.tmps) = true := fun x => by simp [Region.wanted, hgi]
  have wj : ∀ x : Act, Region.wanted oj (yielded ops x.tmps) = true := fun x => by simp [Region.wanted, hgj]
  have wk : ∀ x : Act, Region.wanted ok (yielded ops x.tmps) = true := fun x => by simp [Region.wanted, hgk]
  obtain ⟨_, _, aj3⟩ := Oper.apart_spec haj
  obtain ⟨_, _, ak3⟩ := Oper.apart_spec hak
  constructor
  · refine w4_bar (wi _) hki (fun w' hw' _ _ K hK => ?_)
    subst hw'
    refine owp_run (hbk w hw) (hK _ _ ⟨hcl _, ?_⟩)
    refine w4_bar (wj _) hkj (fun w' hw' _ _ K hK => ?_)
    subst hw'
    refine Oper.wp_mono (fun a' w' ⟨_, h2⟩ => hK _ _ ⟨hcl _, ?_⟩) h
    refine w4_bar (wk _) hkk (fun w'' hw'' _ _ K hK => ?_)
    subst hw''
    exact Oper.wp_mono (fun a'' w'' ⟨_, h3⟩ => hK _ _ ⟨hcl _, h3⟩) h2
  · intro w' hw' _ _
    subst hw'
    refine (wpOp_put4 hj haj hsj (fun c a w q => hQ c a _ _ w q) (.inl h)).imp (Oper.wp_mono ?_) id
    rintro a' w' ⟨⟨u, D, rfl⟩, hb, h2⟩
    have exi : execOp (({ a with defers := D } : Act).put oj.dst u).eval oi = execOp a.eval oi := (execOp_put oi hsi { a with defers := D } oj.dst u aj3).trans rfl
    generalize hA : ({ a with defers := D } : Act).put oj.dst u = A at *
    refine ⟨hcl _, ?_, ?_⟩
    · refine w4_bar (wi _) hki (fun w1 hw1 _ _ K hK => ?_)
      subst hw1
      refine owp_run (by rw [exi]; exact hbk _ hb) (hK _ _ ⟨hcl _, ?_⟩)
      refine w4_bar (wk _) hkk (fun w1 hw1 _ _ K hK => ?_)
      subst hw1
      exact Oper.wp_mono (fun a'' w'' ⟨_, h3⟩ => hK _ _ ⟨hcl _, h3⟩) h2
    · unfold wp4
      rw [if_pos (wk _), hkk]
      intro w1 hw1 _ _
      subst hw1
      refine (wpOp_put4 hk hak hsk (fun c a w q => hQ c a _ _ w q) (.inl h2)).imp (Oper.wp_mono ?_) id
      rintro a'' w'' ⟨⟨u', D', rfl⟩, hb', h3⟩
      have exi2 : execOp (({ A with defers := D' } : Act).put ok.dst u').eval oi = execOp A.eval oi := (execOp_put oi hsi { A with defers := D' } ok.dst u' ak3).trans rfl
      refine ⟨hcl _, ?_⟩
      refine w4_bar (wi _) hki (fun w1 hw1 _ _ K hK => ?_)
      subst hw1
      exact owp_run (by rw [exi2, exi]; exact hbk _ hb') (hK _ _ ⟨hcl _, h3⟩)
theorem tree_load' (hQ : ∀ c (a : Act) x v w, Q (.panic c) (a.put x v) w → Q (.panic c) a w) {i j k : Nat} {oi oj ok : Oper} {r : List (Nat × Oper)} {F : Facts} {a : Act} {w : World} (Bk : World → Prop)
    (hj : ops[j]? = .some oj) (hk : ops[k]? = .some ok) (hki : kd i = .some .none) (hkj : kd j = .some .none) (hkk : kd k = .some .none) (hgi : oi.guard = .none) (hgj : oj.guard = .none) (hgk : ok.guard = .none)
    (haj : oi.apart ops oj = true) (hak : oi.apart ops ok = true) (hsi : ∀ cs b, oi.op ≠ .select cs b) (hsj : ∀ cs b, oj.op ≠ .select cs b) (hsk : ∀ cs b, ok.op ≠ .select cs b)
    (hcl : ∀ w, Cl w) (hw : Bk w)
    (h : ∃ c, (∀ w, Bk w → (execOp a.eval oi).run P w = .ok (.value c) w) ∧ ∀ K : Act → World → Prop, (∀ a' w', Bk w' ∧ (∀ K' : Act → World → Prop, (∀ a'' w'', Bk w'' ∧ wp4 P ops T (· = ·) ld Cl kd Q r w'' none a'' → K' a'' w'') → ok.wp P a' w' K' Q) → K a' w') → oj.wp P (a.put oi.dst c) w K Q) :
    tree6 P ops T (· = ·) ld Cl kd Q i j k oi oj ok r w F a :=
  let ⟨_, h1, h2⟩ := h
  tree_load (Bk := Bk) hQ hj hk hki hkj hkk hgi hgj hgk haj hak hsi hsj hsk hcl hw h1 (h2 _ fun _ _ ⟨q1, q2⟩ => ⟨q1, q2 _ fun _ _ q => q⟩)
end
/-- A region whose order is drawn, up to a load that may come ahead of a call, behind it, or behind what follows the call. -/
theorem wp_region6_eq {P : Program} (T : Array Nat) (Cs Ls : List Nat) (Cl : World → Prop) (p : List Nat) (i j k : Nat) (r : List Nat) {id : Nat} {Q : Exit → Act → World → Prop} {a : Act} {w : World} {l : List Oper} {oi oj ok : Oper} (hm : P.follows .mixedOrders = true)
    (hi : l[i]? = some oi) (hj : l[j]? = some oj) (hk : l[k]? = some ok) (hgi : oi.guard = .none) (hgj : oj.guard = .none)
    (hL : (Region.noSelect l.toArray && (lex5 l.toArray Cs (treeE l.toArray Cs i j k ((inOrd l r).map (·.1))) ((inOrd l p).map (·.1)) (Array.replicate l.length false) && (inOrd l r).length + 3 + (inOrd l p).length == l.length)) = true) (hB : befOk l.toArray T = true) (hb : barB l.toArray T Ls Cs = true)
    (hQ : ∀ c (a : Act) x v w, Q (.panic c) (a.put x v) w → Q (.panic c) a w) (hcl : Cl { w with drawn := w.drawn + 1 })
    (h : wp5 P l.toArray T (· = ·) (fun k => Ls.contains k) Cl (kdOf (Rel := (· = ·)) [] Cs) Q (tree6 P l.toArray T (· = ·) (fun k => Ls.contains k) Cl (kdOf (Rel := (· = ·)) [] Cs) Q i j k oi oj ok (inOrd l r)) (inOrd l p) { w with drawn := w.drawn + 1 } none a) : (Code.region id l.toArray true).wp P Q a w := by
  rw [Bool.and_eq_true, Bool.and_eq_true] at hL
  have hlen : (inOrd l r).length + 3 + (inOrd l p).length = l.length := by simpa using hL.2.2
  have htr : ∀ a b c : World, a = b → b = c → a = c := fun _ _ _ h k => h.trans k
  have hbar : ∀ i j, (isB (kdOf (Rel := (· = ·)) [] Cs) i = true ∨ Ls.contains i = true) → isC (kdOf (Rel := (· = ·)) [] Cs) j = true → bef l.toArray T j i = true ∨ bef l.toArray T i j = true := fun i j hi hj => by
    rw [kdOf_C] at hj
    have h1 := List.all_eq_true.1 hb j (by simpa using hj)
    have h2 := List.all_eq_true.1 h1 i (by
      rcases hi with hi | hi
      · have := kdOf_B [] Cs i hi; cases this
      · simpa using hi)
    simpa using h2
  refine wp_region_any hm (wpAny_of_4 (T := T) (ld := fun k => Ls.contains k) (fun _ => rfl) htr (kdOf_sp [] Cs) _ _ { w with drawn := w.drawn + 1 } none _ _ (fun _ _ _ _ _ => trivial) rfl hcl (fun _ => trivial) ?_)
  have := wpAny5_lex (P := P) (Q := Q) (ld := fun k => Ls.contains k) (Cl := Cl) htr (kdOf_sp [] Cs) hB hbar hQ Cs (kdOf_C [] Cs) hL.1 (treeE l.toArray Cs i j k ((inOrd l r).map (·.1))) (tree6 P l.toArray T (· = ·) (fun k => Ls.contains k) Cl (kdOf (Rel := (· = ·)) [] Cs) Q i j k oi oj ok (inOrd l r)) ((inOrd l r).length + 3)
    (fun listed w0 F a he hc hst h => tree_any htr (kdOf_sp [] Cs) hB hbar hQ Cs (kdOf_C [] Cs) hL.1 (by simpa using hi) (by simpa using hj) (by simpa using hk) inOrd_mem hgi hgj listed w0 F a he hc hst h)
    (inOrd l p) (Array.replicate l.length false) { w with drawn := w.drawn + 1 } none a inOrd_mem hL.2.1 (fun k m hk => by
    exfalso
    by_cases h : k < l.length <;> simp [h] at hk) (fun _ _ _ _ _ => trivial) h
  rw [hlen] at this
  simpa using this
end Go.Proofs.Ythjaopojlhdjpaa.Rg4

namespace Go.Proofs.Ythjaopojlhdjpaa
set_option linter.unusedSimpArgs false
set_option linter.unusedVariables false
open Go Go.RowKit
theorem fmWritten_any (f : Fm) (W : World) (h : FmOk W f) (hs : f.strip.nodes ≤ 1000000000) (hl : FoL 100000 f.strip) :
    Calls Try.prog 83 #[fmV f] W fun e w' => ∃ a c, e = .returned (.slice a (wrF f.strip).length c) ∧ By w' a (wrF f.strip).length (wrF f.strip) ∧ Ext W w' :=
  (fmWritten_f f W h hs hl).mono fun _ _ ⟨a, c, h1, st⟩ => ⟨a, c, h1, st.by (i := 1) get1, st.ext0⟩
set_option maxRecDepth 100000 in
set_option maxHeartbeats 2000000 in
theorem fmCompare_any (f g : Fm) (W : World) (hf : FmOk W f) (hg : FmOk W g) (hs : f.strip.nodes ≤ 1000000000) (hs2 : g.strip.nodes ≤ 1000000000) (hl : FoL 100000 f.strip) (hl2 : FoL 100000 g.strip) :
    Calls Try.prog 47 #[fmV f, fmV g] W fun e w' => e = .returned (.int .i64 (cmp2 (wrF f.strip) (wrF g.strip))) ∧ Ext W w' := by
  have HF := Lib.hid (fun W' (hx : Ext W W') => fmWritten_any f W' (hf.ext hx) hs hl)
  have HG := Lib.hid (fun W' (hx : Ext W W') => fmWritten_any g W' (hg.ext hx) hs2 hl2)
  obtain ⟨op, k, ⟨o, d⟩, a, n, c, kids⟩ := f
  obtain ⟨op2, k2, ⟨o2, d2⟩, a2, n2, c2, kids2⟩ := g
  generalize wrF (Fm.mk op k (o, d) a n c kids).strip = u at *
  generalize wrF (Fm.mk op2 k2 (o2, d2) a2 n2 c2 kids2).strip = u2 at *
  obtain ⟨m, hm⟩ : ∃ m, u.length = m := ⟨_, rfl⟩
  obtain ⟨m2, hm2⟩ : ∃ m, u2.length = m := ⟨_, rfl⟩
  rw [hm] at HF
  rw [hm2] at HG
  clear hf hg hs hs2 hl hl2 hm hm2
  have st := Own.startOld W
  unfold fmV S at HF HG ⊢
  simp only at HF HG ⊢
  (try simp only [nsl, Value.cells, unB] at st)
  (try clear hc); have hc := st.facts; (try simp only [nfl, nft, Nat.reduceAdd] at hc)
  go_enter Try.func47, Try.ntmps47
  go_wp2_with ((first
        | ((with_reducible refine wl_box ?_ (fun K hK => ?_)); rfl; refine owp_box (o := ⟨some 2, _, _, _, _, _⟩) rfl st ?_; apply Exists.intro; refine ⟨?_, ?_⟩; (focus (go_simp; try rfl)); (clear st; intro b2 w hb st; clear hb))
        | ((with_reducible refine wl_box ?_ (fun K hK => ?_)); rfl; refine owp_box (o := ⟨some 3, _, _, _, _, _⟩) rfl st ?_; apply Exists.intro; refine ⟨?_, ?_⟩; (focus (go_simp; try rfl)); (clear st; intro b3 w hb st; clear hb))); (try simp only [nsl, Value.cells, unB] at st); (try clear hc); have hc := st.facts; (try simp only [nfl, nft, Nat.reduceAdd] at hc))
  refine Rg4.wp_region4_eq #[0, 1, 0, 7, 15, 31] [1, 3, 4] [0] (fun W' => Blk W' b3 [.int .i64 op2, .int .i64 k2, .string ⟨o2.toArray⟩, .string ⟨d2.toArray⟩, .slice a2 n2 c2]) [0, 2, 1, 3, 4, 5] (by kernel_rfl) (by kernel_rfl) (by kernel_rfl) (by kernel_rfl) (show Rg4.PB _ by repeat (first | with_reducible exact Rg4.pb_body | with_reducible exact Rg4.pb_bodyD rfl | with_reducible refine Rg4.pb_then ?_ | with_reducible refine Rg4.pb_inBlock ?_ | with_reducible refine Rg4.pb_noGoto ?_)) (st.drew.blk (i := 2) get2) ?_
  replace st := st.drew
  change Rg4.wp4 _ _ _ _ _ _ _ _ _ (World.drew _) _ _
  generalize World.drew _ = w at st ⊢
  (try clear hc); have hc := st.facts; (try simp only [nfl, nft, Nat.reduceAdd] at hc)
  (refine Rg4.w4_read (Rg4.want_none rfl) rfl rfl ?_; apply Exists.intro; refine ⟨fun w' hw' hcl' => ?_, ?_⟩; focus (subst hw'; (focus (first | (go_simp; done) | (go_simp; first | rfl | (rw [if_neg] <;> first | rfl | omega) | (rw [if_pos] <;> first | rfl | omega))))); (try simp only [Rg4.nrm]))
  (refine Rg4.w4_cl (Rg4.want_none rfl) rfl ?_; apply Exists.intro; refine ⟨fun w' hcl => ?_, ?_⟩; (focus (have q0 := Blk.cell hcl 0; have q1 := Blk.cell hcl 1; have q2 := Blk.cell hcl 2; have q3 := Blk.cell hcl 3; have q4 := Blk.cell hcl 4; (try simp at q0 q1 q2 q3 q4); (focus (first | (go_simp; done) | (go_simp; first | rfl | (rw [if_neg] <;> first | rfl | omega) | (rw [if_pos] <;> first | rfl | omega)))))); (try simp only [Rg4.nrm]))
  refine Rg4.w4_bar (Rg4.want_none rfl) rfl (fun w' hw' hcl _ K hK => ?_)
  subst hw'
  go_wp2_with fail
  refine (HF.out _ st.ext0).mono ?_
  rintro en w ⟨a1, c1, rfl, hb1, hx⟩
  replace st := st.ext hx
  clear hx
  have HB1 := Lib.hid hb1
  clear hb1
  (try simp only [nsl, Value.cells, unB] at st)
  (try clear hc); have hc := st.facts; (try simp only [nfl, nft, Nat.reduceAdd] at hc)
  refine hK _ _ ⟨st.blk (i := 2) get2, ?_⟩
  clear hK
  (try simp only [Rg4.nrm])

  have st1 := st
  have HX1 : ∀ w', Own (fun _ => False) (fun _ => True) W [oldI W, blkI b2 [.int .i64 op, .int .i64 k, .string ⟨o.toArray⟩, .string ⟨d.toArray⟩, .slice a n c], blkI b3 [.int .i64 op2, .int .i64 k2, .string ⟨o2.toArray⟩, .string ⟨d2.toArray⟩, .slice a2 n2 c2]] w' → True := fun _ _ => trivial
  clear st1 HX1
  refine Rg4.w4_bar (Rg4.want_none rfl) rfl (fun w' hw' hcl _ K hK => ?_)
  subst hw'
  go_wp2_with fail
  refine (HG.out _ st.ext0).mono ?_
  rintro en w ⟨a3, c3, rfl, hb2, hx⟩
  have HB3 := Lib.hid (HB1.out.ext hx)
  replace st := st.ext hx
  clear hx HB1
  have HB2 := Lib.hid hb2
  clear hb2
  (try simp only [nsl, Value.cells, unB] at st)
  (try clear hc); have hc := st.facts; (try simp only [nfl, nft, Nat.reduceAdd] at hc)
  refine hK _ _ ⟨st.blk (i := 2) get2, ?_⟩
  clear hK
  (try simp only [Rg4.nrm])

  refine Rg4.w4_bar (Rg4.want_none rfl) rfl (fun w' hw' hcl _ K hK => ?_)
  subst hw'
  go_wp2_with fail
  refine (bytesCompare_any HB3.out HB2.out).mono ?_
  rintro en w ⟨rfl, hx⟩
  replace st := st.ext hx
  clear hx
  (try simp only [nsl, Value.cells, unB] at st)
  (try clear hc); have hc := st.facts; (try simp only [nfl, nft, Nat.reduceAdd] at hc)
  refine hK _ _ ⟨st.blk (i := 2) get2, ?_⟩
  clear hK
  (try simp only [Rg4.nrm])
  (refine Rg4.w4_any (Rg4.want_none rfl) rfl ?_; apply Exists.intro; refine ⟨fun w' => ?_, ?_⟩; (focus (first | (go_simp; done) | (go_simp; first | rfl | (rw [if_neg] <;> first | rfl | omega) | (rw [if_pos] <;> first | rfl | omega)))); (try simp only [Rg4.nrm]))
  refine Rg4.w4_nil (fun w' hw' hcl' _ => ?_); subst hw'; clear hcl'
  go_wp2_with fail
  go_ret
  exact ⟨rfl, st.ext0⟩
section
variable {fr al : Nat → Prop} {w0 w : World} {L : List It}
theorem Own.fmsMore (st : Own fr al w0 L w) {i j : Nat} {l : List Fm} {f : Fm} (hi : L[i]? = some (fmsI l)) (hj : L[j]? = some (fmI f)) : Own fr al w0 (L ++ [fmsI (l ++ [f])]) w :=
  st.share2 hi hj fun e s e2 s2 h1 h2 g hg => by
    rcases List.mem_append.1 hg with q | q
    · exact FmIn.to (h1 g q) (fun _ => .inl)
    · rw [List.mem_singleton.1 q]; exact FmIn.to h2 (fun _ => .inr)
theorem Own.mkFm (st : Own fr al w0 L w) {i j n : Nat} {a : Option Addr} {l : List Fm} (hi : L[i]? = some (flI a n l)) (hj : L[j]? = some (fmsI l)) (op k : Int) (r : Role) (c : Nat) (hc : n ≤ c ∧ c ≤ maxLen) : Own fr al w0 (L ++ [fmI (.mk op k r a n c l)]) w :=
  st.share2 hi hj fun e s e2 s2 h1 h2 => FmIn.mk hc h1.1 (fun h0 ad e => .inl (h1.2 h0 ad e)) fun x hx => FmIn.to (h2 x hx) (fun _ => .inr)
theorem Own.nilFm (st : Own fr al w0 L w) : Own fr al w0 (L ++ [flI none 0 ([] : List Fm)]) w := st.bare ⟨Fl.nil _ _, fun h => by omega⟩
theorem Own.noFms (st : Own fr al w0 L w) : Own fr al w0 (L ++ [fmsI []]) w := st.bare (fun f hf => by simp at hf)
end
theorem bytesL_drop_len : ∀ (l : List Fo) (j : Nat), (bytesL (l.drop j)).length ≤ (bytesL l).length
  | [], j => by simp [bytesL]
  | x :: l, 0 => by simp [bytesL]
  | x :: l, j + 1 => by have := bytesL_drop_len l j; rw [List.drop_succ_cons, bytesL, List.length_append]; omega
/-- What is got: a formula that says this, laid anew. -/
def FmGot (fr al : Nat → Prop) (W : World) (r b : Nat) (ys : List UInt8) (left : Int) (f : Fo) (e : Ending) (w' : World) : Prop := ∃ g, e = .returned (fmV g) ∧ g.strip = f ∧ Own fr al W [rdI r ys, blkI b [.int .i64 left], fmI g] w'
theorem fmGot {fr al : Nat → Prop} {W w : World} {r b : Nat} {ys : List UInt8} {left : Int} {f : Fo} (g : Fm) {v : Value} (hv : v = fmV g) (hg : g.strip = f) (st : Own fr al W [rdI r ys, blkI b [.int .i64 left], fmI g] w) : FmGot fr al W r b ys left f (.returned v) w := ⟨g, by rw [hv], hg, st⟩
def zF : List Value := [.int .i64 0, .int .i64 0, .string ⟨#[]⟩, .string ⟨#[]⟩, .slice none 0 0]
theorem fmInfo : ∃ i, Try.prog.info? 26 = some i ∧ i.zero = some (.agg zF.toArray) ∧ i.size = 5 ∧ i.bytes = 72 := info_parts (by kernel_rfl)
set_option maxRecDepth 100000 in
set_option maxHeartbeats 16000000 in
theorem fmGet0_c (f : Fo) : ∀ (fr al : Nat → Prop) (W : World) (r b : Nat) (left deep : Int) (ys : List UInt8), Own fr al W [rdI r (f.bytes ++ ys), blkI b [.int .i64 left]] W → f.well = true → (f.nodes : Int) ≤ left → left ≤ 64 → (f.deep : Int) ≤ deep → deep ≤ 6 → f.bytes.length + ys.length ≤ 90000 →
    Calls Try.prog 80 #[.pointer (some ⟨r, 0, none⟩), .pointer (some ⟨b, 0, none⟩), .int .i64 deep] W (FmGot fr al W r b ys (left - (f.nodes : Nat)) f) := by
  induction f using Fo.ind
  rename_i op k r0 kids ih
  intro fr al W r b left deep ys st hw hn hl hd hd6 hy
  obtain ⟨h1, h2, h3⟩ := well_parts hw
  rw [Fo.nodes] at hn
  rw [Fo.deep] at hd
  have hyb : (bytesL kids).length + ys.length ≤ 90000 ∧ (op = 1 → (roleB r0).length + ys.length ≤ 90000) := by
    rw [Fo.bytes, List.length_append] at hy
    by_cases o1 : op = 1
    · rw [if_pos o1] at hy
      rcases node_op h1 with ⟨_, _, q, _⟩ | ⟨q, _⟩ | ⟨q, _⟩
      · rw [List.eq_nil_of_length_eq_zero q]; simp only [bytesL, List.length_nil]; exact ⟨by omega, fun _ => by omega⟩
      · omega
      · omega
    · rw [if_neg o1, List.length_append] at hy
      exact ⟨by omega, fun q => absurd q o1⟩
  rw [Fo.bytes] at st
  have HWK := Lib.hid h3
  have HI := Lib.hid ih
  have HS : Hid ((1 + nodesL kids : Nat) ≤ left) := Lib.hid hn
  have HD : Hid (((deepL kids + 1 : Nat) : Int) ≤ deep) := Lib.hid hd
  have HYL := Lib.hid hyb.1
  have HYR := Lib.hid hyb.2
  have hlw : IntKind.i64.wrap (left - 1) = left - 1 := IntWalk.i64_in _ ⟨by omega, by omega⟩
  have hl0 : ¬ left - 1 < 0 := by omega
  have hdz : (deep == 0) = false := by simp; omega
  obtain ⟨n, hkn⟩ : ∃ n, kids.length = n := ⟨_, rfl⟩
  rw [hkn] at h1 h2
  have HN := Lib.hid hkn.symm
  clear hw h3 ih hkn
  have hn1 : 1 ≤ left := by omega
  have hd1 : 1 ≤ deep := by omega
  clear hn hd hy hyb
  rcases node_op h1 with ⟨rfl, hr, rfl, rfl⟩ | ⟨o23, rfl, rfl⟩ | ⟨rfl, rfl, hk0, hkq, hnq⟩
  · obtain rfl : kids = [] := List.eq_nil_of_length_eq_zero HN.out.symm
    have hrl := roleB_len hr
    have HRD : Hid (rdNumber 9223372036854775807 (numB 1 ++ (roleB r0 ++ ys)) = .ok (1, roleB r0 ++ ys)) := Lib.hid (rdNumber_put 9223372036854775807 1 _ (by decide) (by decide))
    have HRR : Hid (rdRole (roleB r0 ++ ys) = .ok (r0, ys)) := Lib.hid (rdRole_puts r0 ys hr)
    have hyl := HYR.out rfl
    have hbl : (roleB r0 ++ ys).length ≤ 100000 := by rw [List.length_append]; omega
    rw [if_pos rfl, show (1 : Int).toNat = 1 from rfl, List.append_assoc] at st
    generalize roleB r0 ++ ys = x1 at *
    generalize numB 1 ++ x1 = x0 at *
    obtain ⟨o, d⟩ := r0
    have HE : Hid (left - 1 = left - ((Fo.mk 1 0 (o, d) []).nodes : Nat)) := Lib.hid (by rw [Fo.nodes]; rfl)
    clear h1 hr hrl hyl h2
    (try simp only [nsl, Value.cells, unB] at st)
    (try clear hc); have hc := st.facts; (try simp only [nfl, nft, Nat.reduceAdd] at hc)
    go_enter Try.func80, Try.ntmps80
    go_wp2_with ((first
          | ((with_reducible refine wl_alloc ?_ (fun K hK => ?_)); rfl; refine owp_alloc (o := ⟨some 6, _, _, _, _, _⟩) rfl st ?_; apply Exists.intro; apply Exists.intro; refine ⟨?_, ?_⟩; (focus (first | (go_simp; done) | (go_simp; rfl))); (clear st; intro b6 w hb st; clear hb))
          | ((with_reducible refine wl_store ?_ (fun K hK => ?_)); rfl; refine owp_store rfl st ?_; apply Exists.intro; apply Exists.intro; refine ⟨?_, ?_, ?_⟩; (focus (go_simp; try rfl)); (focus (go_simp; try rfl)); (first | (with_reducible refine ⟨0, _, _, _, _, get0, rfl, rfl, ?_, ?_, ?_, ?_⟩) | (with_reducible refine ⟨1, _, _, _, _, get1, rfl, rfl, ?_, ?_, ?_, ?_⟩) | (with_reducible refine ⟨2, _, _, _, _, get2, rfl, rfl, ?_, ?_, ?_, ?_⟩) | (with_reducible refine ⟨3, _, _, _, _, get3, rfl, rfl, ?_, ?_, ?_, ?_⟩) | (with_reducible refine ⟨4, _, _, _, _, get4, rfl, rfl, ?_, ?_, ?_, ?_⟩) | (with_reducible refine ⟨5, _, _, _, _, get5, rfl, rfl, ?_, ?_, ?_, ?_⟩) | (with_reducible refine ⟨6, _, _, _, _, get6, rfl, rfl, ?_, ?_, ?_, ?_⟩)); (kernel_rfl); (simp [Value.cells]); (rfl); (clear st; intro w st))
          | ((with_reducible refine wl_alloc ?_ (fun K hK => ?_)); rfl; refine owp_alloc (o := ⟨some 7, _, _, _, _, _⟩) rfl st ?_; apply Exists.intro; apply Exists.intro; refine ⟨?_, ?_⟩; (focus (first | (go_simp; done) | (go_simp; rfl))); (clear st; intro b7 w hb st; clear hb))
          | ((with_reducible refine wl_buildSlice ?_ (fun K hK => ?_)); rfl; refine owp_buildSlice (o := ⟨some 61, _, _, _, _, _⟩) rfl st ?_; apply Exists.intro; apply Exists.intro; apply Exists.intro; apply Exists.intro; refine ⟨?_, ?_⟩; (focus (go_simp; (first | done | exact ⟨⟨rfl, rfl⟩, rfl⟩ | rfl))); (clear st; intro b61 w hb st; clear hb))); (try simp only [nsl, Value.cells, unB] at st); (try clear hc); have hc := st.facts; (try simp only [nfl, nft, Nat.reduceAdd] at hc))
    obtain ⟨fr', al', st', back⟩ := st.sub [0] (by decide) (by simp)
    (try simp only [nsl, Value.cells, unB] at st')
    refine (number_c st' 9223372036854775807).mono ?_
    clear st'
    intro en w hen
    unfold RdC at hen
    rw [HRD.out] at hen
    obtain ⟨v, M, rfl, ⟨rfl, rfl⟩, st'⟩ := hen
    replace st := back _ _ (by simp) st'
    clear back st'
    (try simp only [nsl, Value.cells, unB] at st)
    (try clear hc); have hc := st.facts; (try simp only [nfl, nft, Nat.reduceAdd] at hc)
    go_wp2_with ((first
          | ((with_reducible refine wl_alloc ?_ (fun K hK => ?_)); rfl; refine owp_alloc (o := ⟨some 6, _, _, _, _, _⟩) rfl st ?_; apply Exists.intro; apply Exists.intro; refine ⟨?_, ?_⟩; (focus (first | (go_simp; done) | (go_simp; rfl))); (clear st; intro b6 w hb st; clear hb))
          | ((with_reducible refine wl_store ?_ (fun K hK => ?_)); rfl; refine owp_store rfl st ?_; apply Exists.intro; apply Exists.intro; refine ⟨?_, ?_, ?_⟩; (focus (go_simp; try rfl)); (focus (go_simp; try rfl)); (first | (with_reducible refine ⟨0, _, _, _, _, get0, rfl, rfl, ?_, ?_, ?_, ?_⟩) | (with_reducible refine ⟨1, _, _, _, _, get1, rfl, rfl, ?_, ?_, ?_, ?_⟩) | (with_reducible refine ⟨2, _, _, _, _, get2, rfl, rfl, ?_, ?_, ?_, ?_⟩) | (with_reducible refine ⟨3, _, _, _, _, get3, rfl, rfl, ?_, ?_, ?_, ?_⟩) | (with_reducible refine ⟨4, _, _, _, _, get4, rfl, rfl, ?_, ?_, ?_, ?_⟩) | (with_reducible refine ⟨5, _, _, _, _, get5, rfl, rfl, ?_, ?_, ?_, ?_⟩) | (with_reducible refine ⟨6, _, _, _, _, get6, rfl, rfl, ?_, ?_, ?_, ?_⟩)); (kernel_rfl); (simp [Value.cells]); (rfl); (clear st; intro w st))
          | ((with_reducible refine wl_alloc ?_ (fun K hK => ?_)); rfl; refine owp_alloc (o := ⟨some 7, _, _, _, _, _⟩) rfl st ?_; apply Exists.intro; apply Exists.intro; refine ⟨?_, ?_⟩; (focus (first | (go_simp; done) | (go_simp; rfl))); (clear st; intro b7 w hb st; clear hb))
          | ((with_reducible refine wl_buildSlice ?_ (fun K hK => ?_)); rfl; refine owp_buildSlice (o := ⟨some 61, _, _, _, _, _⟩) rfl st ?_; apply Exists.intro; apply Exists.intro; apply Exists.intro; apply Exists.intro; refine ⟨?_, ?_⟩; (focus (go_simp; (first | done | exact ⟨⟨rfl, rfl⟩, rfl⟩ | rfl))); (clear st; intro b61 w hb st; clear hb))); (try simp only [nsl, Value.cells, unB] at st); (try clear hc); have hc := st.facts; (try simp only [nfl, nft, Nat.reduceAdd] at hc))
    obtain ⟨fr', al', st', back⟩ := st.sub [0] (by decide) (by simp)
    (try simp only [nsl, Value.cells, unB] at st')
    refine (roleGet_c st' hbl).mono ?_
    clear st'
    intro en w hen
    unfold RdC at hen
    rw [HRR.out] at hen
    obtain ⟨v, M, rfl, ⟨rfl, rfl⟩, st'⟩ := hen
    replace st := back _ _ (by simp) st'
    clear back st'
    (try simp only [nsl, Value.cells, unB] at st)
    (try clear hc); have hc := st.facts; (try simp only [nfl, nft, Nat.reduceAdd] at hc)
    unfold rV S
    simp only
    (try simp only [nsl, Value.cells, unB] at st)
    (try clear hc); have hc := st.facts; (try simp only [nfl, nft, Nat.reduceAdd] at hc)
    go_wp2_with ((first
          | ((with_reducible refine wl_alloc ?_ (fun K hK => ?_)); rfl; refine owp_alloc (o := ⟨some 6, _, _, _, _, _⟩) rfl st ?_; apply Exists.intro; apply Exists.intro; refine ⟨?_, ?_⟩; (focus (first | (go_simp; done) | (go_simp; rfl))); (clear st; intro b6 w hb st; clear hb))
          | ((with_reducible refine wl_store ?_ (fun K hK => ?_)); rfl; refine owp_store rfl st ?_; apply Exists.intro; apply Exists.intro; refine ⟨?_, ?_, ?_⟩; (focus (go_simp; try rfl)); (focus (go_simp; try rfl)); (first | (with_reducible refine ⟨0, _, _, _, _, get0, rfl, rfl, ?_, ?_, ?_, ?_⟩) | (with_reducible refine ⟨1, _, _, _, _, get1, rfl, rfl, ?_, ?_, ?_, ?_⟩) | (with_reducible refine ⟨2, _, _, _, _, get2, rfl, rfl, ?_, ?_, ?_, ?_⟩) | (with_reducible refine ⟨3, _, _, _, _, get3, rfl, rfl, ?_, ?_, ?_, ?_⟩) | (with_reducible refine ⟨4, _, _, _, _, get4, rfl, rfl, ?_, ?_, ?_, ?_⟩) | (with_reducible refine ⟨5, _, _, _, _, get5, rfl, rfl, ?_, ?_, ?_, ?_⟩) | (with_reducible refine ⟨6, _, _, _, _, get6, rfl, rfl, ?_, ?_, ?_, ?_⟩)); (kernel_rfl); (simp [Value.cells]); (rfl); (clear st; intro w st))
          | ((with_reducible refine wl_alloc ?_ (fun K hK => ?_)); rfl; refine owp_alloc (o := ⟨some 7, _, _, _, _, _⟩) rfl st ?_; apply Exists.intro; apply Exists.intro; refine ⟨?_, ?_⟩; (focus (first | (go_simp; done) | (go_simp; rfl))); (clear st; intro b7 w hb st; clear hb))
          | ((with_reducible refine wl_buildSlice ?_ (fun K hK => ?_)); rfl; refine owp_buildSlice (o := ⟨some 61, _, _, _, _, _⟩) rfl st ?_; apply Exists.intro; apply Exists.intro; apply Exists.intro; apply Exists.intro; refine ⟨?_, ?_⟩; (focus (go_simp; (first | done | exact ⟨⟨rfl, rfl⟩, rfl⟩ | rfl))); (clear st; intro b61 w hb st; clear hb))); (try simp only [nsl, Value.cells, unB] at st); (try clear hc); have hc := st.facts; (try simp only [nfl, nft, Nat.reduceAdd] at hc))
    (try simp only [Exit.inBlock, Exit.then])
    refine bodyPost_cell rfl rfl (st.blk (i := 2) get2) Try.underlying26 rfl (by kernel_rfl) rfl ?_
    have st2 := st.keep [0, 1] (by decide) (by simp)
    simp only [pick, List.map_cons, List.map_nil, List.getElem?_cons_zero, List.getElem?_cons_succ, Option.getD_some] at st2
    have st3 := Own.noFms (Own.nilFm st2)
    simp only [List.cons_append, List.nil_append] at st3
    have st4 := (st3.mkFm (i := 2) (j := 3) get2 get3 1 0 (o, d) 0 ⟨Nat.le_refl _, by simp [maxLen]⟩).keep [0, 1, 4] (by decide) (by simp)
    rw [← HE.out]
    exact fmGot (.mk 1 0 (o, d) none 0 0 []) rfl (by rw [strip_mk]; rfl) (by simpa [pick] using st4)
  · have HNR := Lib.hid h1
    have hnn : n < 9223372036854775808 := by omega
    have HRN : Hid (rdNumber 8 (numB n ++ (bytesL kids ++ ys)) = .ok (n, bytesL kids ++ ys)) := Lib.hid (rdNumber_put 8 n _ h2 (by decide))
    rw [HN.out.symm] at st
    rcases o23 with rfl | rfl
    · have HRD : Hid (rdNumber 9223372036854775807 (numB 2 ++ (numB n ++ (bytesL kids ++ ys))) = .ok (2, numB n ++ (bytesL kids ++ ys))) := Lib.hid (rdNumber_put 9223372036854775807 2 _ (by decide) (by decide))
      rw [if_neg (by decide), if_neg (by decide), List.nil_append, show (2 : Int).toNat = 2 from rfl, List.append_assoc, List.append_assoc] at st
      have st' := st
      rw [show bytesL kids = bytesL (kids.drop 0) from rfl] at st' HRN HRD
      clear st
      have st := st'
      clear st' h1
      generalize hx2 : numB n ++ (bytesL (kids.drop 0) ++ ys) = x2 at *
      generalize hx0 : numB 2 ++ x2 = x0 at *
      clear hx2 hx0
      (try simp only [nsl, Value.cells, unB] at st)
      (try clear hc); have hc := st.facts; (try simp only [nfl, nft, Nat.reduceAdd] at hc)
      go_enter Try.func80, Try.ntmps80
      go_wp2_with ((first
            | ((with_reducible refine wl_alloc ?_ (fun K hK => ?_)); rfl; refine owp_alloc (o := ⟨some 6, _, _, _, _, _⟩) rfl st ?_; apply Exists.intro; apply Exists.intro; refine ⟨?_, ?_⟩; (focus (first | (go_simp; done) | (go_simp; rfl))); (clear st; intro b6 w hb st; clear hb))
            | ((with_reducible refine wl_store ?_ (fun K hK => ?_)); rfl; refine owp_store rfl st ?_; apply Exists.intro; apply Exists.intro; refine ⟨?_, ?_, ?_⟩; (focus (go_simp; try rfl)); (focus (go_simp; try rfl)); (first | (with_reducible refine ⟨0, _, _, _, _, get0, rfl, rfl, ?_, ?_, ?_, ?_⟩) | (with_reducible refine ⟨1, _, _, _, _, get1, rfl, rfl, ?_, ?_, ?_, ?_⟩) | (with_reducible refine ⟨2, _, _, _, _, get2, rfl, rfl, ?_, ?_, ?_, ?_⟩) | (with_reducible refine ⟨3, _, _, _, _, get3, rfl, rfl, ?_, ?_, ?_, ?_⟩) | (with_reducible refine ⟨4, _, _, _, _, get4, rfl, rfl, ?_, ?_, ?_, ?_⟩) | (with_reducible refine ⟨5, _, _, _, _, get5, rfl, rfl, ?_, ?_, ?_, ?_⟩) | (with_reducible refine ⟨6, _, _, _, _, get6, rfl, rfl, ?_, ?_, ?_, ?_⟩)); (kernel_rfl); (simp [Value.cells]); (rfl); (clear st; intro w st))
            | ((with_reducible refine wl_alloc ?_ (fun K hK => ?_)); rfl; refine owp_alloc (o := ⟨some 7, _, _, _, _, _⟩) rfl st ?_; apply Exists.intro; apply Exists.intro; refine ⟨?_, ?_⟩; (focus (first | (go_simp; done) | (go_simp; rfl))); (clear st; intro b7 w hb st; clear hb))
            | ((with_reducible refine wl_buildSlice ?_ (fun K hK => ?_)); rfl; refine owp_buildSlice (o := ⟨some 61, _, _, _, _, _⟩) rfl st ?_; apply Exists.intro; apply Exists.intro; apply Exists.intro; apply Exists.intro; refine ⟨?_, ?_⟩; (focus (go_simp; (first | done | exact ⟨⟨rfl, rfl⟩, rfl⟩ | rfl))); (clear st; intro b61 w hb st; clear hb))); (try simp only [nsl, Value.cells, unB] at st); (try clear hc); have hc := st.facts; (try simp only [nfl, nft, Nat.reduceAdd] at hc))
      obtain ⟨fr', al', st', back⟩ := st.sub [0] (by decide) (by simp)
      (try simp only [nsl, Value.cells, unB] at st')
      refine (number_c st' 9223372036854775807).mono ?_
      clear st'
      intro en w hen
      unfold RdC at hen
      rw [HRD.out] at hen
      obtain ⟨v, M, rfl, ⟨rfl, rfl⟩, st'⟩ := hen
      replace st := back _ _ (by simp) st'
      clear back st'
      (try simp only [nsl, Value.cells, unB] at st)
      (try clear hc); have hc := st.facts; (try simp only [nfl, nft, Nat.reduceAdd] at hc)
      go_wp2_with ((first
            | ((with_reducible refine wl_alloc ?_ (fun K hK => ?_)); rfl; refine owp_alloc (o := ⟨some 6, _, _, _, _, _⟩) rfl st ?_; apply Exists.intro; apply Exists.intro; refine ⟨?_, ?_⟩; (focus (first | (go_simp; done) | (go_simp; rfl))); (clear st; intro b6 w hb st; clear hb))
            | ((with_reducible refine wl_store ?_ (fun K hK => ?_)); rfl; refine owp_store rfl st ?_; apply Exists.intro; apply Exists.intro; refine ⟨?_, ?_, ?_⟩; (focus (go_simp; try rfl)); (focus (go_simp; try rfl)); (first | (with_reducible refine ⟨0, _, _, _, _, get0, rfl, rfl, ?_, ?_, ?_, ?_⟩) | (with_reducible refine ⟨1, _, _, _, _, get1, rfl, rfl, ?_, ?_, ?_, ?_⟩) | (with_reducible refine ⟨2, _, _, _, _, get2, rfl, rfl, ?_, ?_, ?_, ?_⟩) | (with_reducible refine ⟨3, _, _, _, _, get3, rfl, rfl, ?_, ?_, ?_, ?_⟩) | (with_reducible refine ⟨4, _, _, _, _, get4, rfl, rfl, ?_, ?_, ?_, ?_⟩) | (with_reducible refine ⟨5, _, _, _, _, get5, rfl, rfl, ?_, ?_, ?_, ?_⟩) | (with_reducible refine ⟨6, _, _, _, _, get6, rfl, rfl, ?_, ?_, ?_, ?_⟩)); (kernel_rfl); (simp [Value.cells]); (rfl); (clear st; intro w st))
            | ((with_reducible refine wl_alloc ?_ (fun K hK => ?_)); rfl; refine owp_alloc (o := ⟨some 7, _, _, _, _, _⟩) rfl st ?_; apply Exists.intro; apply Exists.intro; refine ⟨?_, ?_⟩; (focus (first | (go_simp; done) | (go_simp; rfl))); (clear st; intro b7 w hb st; clear hb))
            | ((with_reducible refine wl_buildSlice ?_ (fun K hK => ?_)); rfl; refine owp_buildSlice (o := ⟨some 61, _, _, _, _, _⟩) rfl st ?_; apply Exists.intro; apply Exists.intro; apply Exists.intro; apply Exists.intro; refine ⟨?_, ?_⟩; (focus (go_simp; (first | done | exact ⟨⟨rfl, rfl⟩, rfl⟩ | rfl))); (clear st; intro b61 w hb st; clear hb))); (try simp only [nsl, Value.cells, unB] at st); (try clear hc); have hc := st.facts; (try simp only [nfl, nft, Nat.reduceAdd] at hc))
      obtain ⟨fr', al', st', back⟩ := st.sub [0] (by decide) (by simp)
      (try simp only [nsl, Value.cells, unB] at st')
      refine (number_c st' 8).mono ?_
      clear st'
      intro en w hen
      unfold RdC at hen
      rw [HRN.out] at hen
      obtain ⟨v, M, rfl, ⟨rfl, rfl⟩, st'⟩ := hen
      replace st := back _ _ (by simp) st'
      clear back st'
      (try simp only [nsl, Value.cells, unB] at st)
      (try clear hc); have hc := st.facts; (try simp only [nfl, nft, Nat.reduceAdd] at hc)
      go_wp2_with ((first
            | ((with_reducible refine wl_alloc ?_ (fun K hK => ?_)); rfl; refine owp_alloc (o := ⟨some 6, _, _, _, _, _⟩) rfl st ?_; apply Exists.intro; apply Exists.intro; refine ⟨?_, ?_⟩; (focus (first | (go_simp; done) | (go_simp; rfl))); (clear st; intro b6 w hb st; clear hb))
            | ((with_reducible refine wl_store ?_ (fun K hK => ?_)); rfl; refine owp_store rfl st ?_; apply Exists.intro; apply Exists.intro; refine ⟨?_, ?_, ?_⟩; (focus (go_simp; try rfl)); (focus (go_simp; try rfl)); (first | (with_reducible refine ⟨0, _, _, _, _, get0, rfl, rfl, ?_, ?_, ?_, ?_⟩) | (with_reducible refine ⟨1, _, _, _, _, get1, rfl, rfl, ?_, ?_, ?_, ?_⟩) | (with_reducible refine ⟨2, _, _, _, _, get2, rfl, rfl, ?_, ?_, ?_, ?_⟩) | (with_reducible refine ⟨3, _, _, _, _, get3, rfl, rfl, ?_, ?_, ?_, ?_⟩) | (with_reducible refine ⟨4, _, _, _, _, get4, rfl, rfl, ?_, ?_, ?_, ?_⟩) | (with_reducible refine ⟨5, _, _, _, _, get5, rfl, rfl, ?_, ?_, ?_, ?_⟩) | (with_reducible refine ⟨6, _, _, _, _, get6, rfl, rfl, ?_, ?_, ?_, ?_⟩)); (kernel_rfl); (simp [Value.cells]); (rfl); (clear st; intro w st))
            | ((with_reducible refine wl_alloc ?_ (fun K hK => ?_)); rfl; refine owp_alloc (o := ⟨some 7, _, _, _, _, _⟩) rfl st ?_; apply Exists.intro; apply Exists.intro; refine ⟨?_, ?_⟩; (focus (first | (go_simp; done) | (go_simp; rfl))); (clear st; intro b7 w hb st; clear hb))
            | ((with_reducible refine wl_buildSlice ?_ (fun K hK => ?_)); rfl; refine owp_buildSlice (o := ⟨some 61, _, _, _, _, _⟩) rfl st ?_; apply Exists.intro; apply Exists.intro; apply Exists.intro; apply Exists.intro; refine ⟨?_, ?_⟩; (focus (go_simp; (first | done | exact ⟨⟨rfl, rfl⟩, rfl⟩ | rfl))); (clear st; intro b61 w hb st; clear hb))); (try simp only [nsl, Value.cells, unB] at st); (try clear hc); have hc := st.facts; (try simp only [nfl, nft, Nat.reduceAdd] at hc))
      replace st := (st.row_nil 26 5).noFms
      simp only [List.cons_append, List.nil_append] at st
      (try simp only [nsl, Value.cells, unB] at st)
      (try clear hc); have hc := st.facts; (try simp only [nfl, nft, Nat.reduceAdd] at hc)
      go_loopg [52] n (fun q i wr => ∃ (j : Nat) (gs : List Fm) (va : Option Addr) (vc : Nat) (lf : Int), j ≤ n ∧ q = n - j ∧ i = .int .i64 (j : Int) ∧ (-1000 ≤ lf ∧ lf ≤ 1000) ∧ Hid (lf = left - 1 - (nodesL (kids.take j) : Nat)) ∧ Hid (gs.map Fm.strip = kids.take j) ∧ Own fr al W [rdI r (bytesL (kids.drop j) ++ ys), blkI b [.int .i64 lf], blkI b6 [.int .i64 0, .int .i64 0, .string ⟨#[]⟩, .string ⟨#[]⟩, .slice none 0 0], blkI b7 [.int .i64 2, .int .i64 0, .string ⟨#[]⟩, .string ⟨#[]⟩, .slice va j vc], rowI 26 5 (.slice va j vc) j (cellsL gs), fmsI gs] wr)
      case atStart => exact ⟨0, [], none, 0, left - 1, by omega, by omega, rfl, by omega, Lib.hid (by simp [nodesL]), Lib.hid (by simp), by simpa [cellsL] using st⟩
      case round =>
        obtain ⟨j, gs, va, vc, lf, hj, rfl, rfl, hlf, HLF, HGS, st'⟩ := hrel
        clear st hc
        have st := st'
        clear st'
        by_cases hjn : j < n
        · have hjl : j < kids.length := by have := HN.out; omega
          have hsn : kids.take (j + 1) = kids.take j ++ [kids[j]] := (List.take_append_getElem hjl).symm
          have hdr : kids.drop j = kids[j] :: kids.drop (j + 1) := List.drop_eq_getElem_cons hjl
          have hnn : nodesL (kids.take (j + 1)) = nodesL (kids.take j) + kids[j].nodes := by rw [hsn, nodesL_snoc]
          have hle := nodesL_take kids (j + 1)
          have hdd := deepL_mem kids kids[j] (List.getElem_mem hjl)
          have hih := HI.out _ (List.getElem_mem hjl)
          have hwk := HWK.out _ (List.getElem_mem hjl)
          have hsz := HS.out
          have hdp := HD.out
          have hyl := HYL.out
          have hbl2 := bytesL_drop_len kids j
          rw [hdr, bytesL, List.length_append] at hbl2
          generalize kids[j] = x at *
          have HC := Lib.hid (fun (fr al : Nat → Prop) (W : World) (st : Own fr al W [rdI r (x.bytes ++ (bytesL (kids.drop (j + 1)) ++ ys)), blkI b [.int .i64 lf]] W) => hih fr al W r b lf (deep - 1) (bytesL (kids.drop (j + 1)) ++ ys) st hwk (by have := HLF.out; omega) (by have := HLF.out; omega) (by omega) (by omega) (by rw [List.length_append]; omega))
          have HLF2 : Hid (lf - (x.nodes : Nat) = left - 1 - (nodesL (kids.take (j + 1)) : Nat)) := Lib.hid (by rw [hnn, HLF.out]; omega)
          have HB2 : Hid (bytesL (kids.drop j) ++ ys = x.bytes ++ (bytesL (kids.drop (j + 1)) ++ ys)) := Lib.hid (by rw [hdr, bytesL, List.append_assoc])
          have HGS2 : Hid (∀ g : Fm, g.strip = x → (gs ++ [g]).map Fm.strip = kids.take (j + 1)) := Lib.hid (fun g hg => by rw [hsn, List.map_append, HGS.out, List.map_cons, List.map_nil, hg])
          have hxn : x.nodes ≤ 64 := by omega
          rw [HB2.out] at st
          obtain ⟨xn, hxe⟩ : ∃ v, x.nodes = v := ⟨_, rfl⟩
          rw [hxe] at HC HLF2 hxn
          obtain ⟨rest, hrest⟩ : ∃ r, bytesL (kids.drop (j + 1)) ++ ys = r := ⟨_, rfl⟩
          have hlf2 : 0 ≤ lf - (xn : Nat) ∧ lf - (xn : Nat) ≤ 1000 := by have := HLF.out; omega
          rw [hrest] at HC st
          have HREST := Lib.hid hrest
          generalize x.bytes = xb at *
          clear hrest hsn hdr hnn hle hdd hih hwk hsz hdp hyl hjl hxe hbl2 HB2
          have hd1 : IntKind.i64.wrap (deep - 1) = deep - 1 := IntWalk.i64_in _ ⟨by omega, by omega⟩
          (try simp only [nsl, Value.cells, unB] at st)
          (try clear hc); have hc := st.facts; (try simp only [nfl, nft, Nat.reduceAdd] at hc)
          go_wp2_with ((first
                | ((with_reducible refine wl_alloc ?_ (fun K hK => ?_)); rfl; refine owp_alloc (o := ⟨some 6, _, _, _, _, _⟩) rfl st ?_; apply Exists.intro; apply Exists.intro; refine ⟨?_, ?_⟩; (focus (first | (go_simp; done) | (go_simp; rfl))); (clear st; intro b6 w hb st; clear hb))
                | ((with_reducible refine wl_store ?_ (fun K hK => ?_)); rfl; refine owp_store rfl st ?_; apply Exists.intro; apply Exists.intro; refine ⟨?_, ?_, ?_⟩; (focus (go_simp; try rfl)); (focus (go_simp; try rfl)); (first | (with_reducible refine ⟨0, _, _, _, _, get0, rfl, rfl, ?_, ?_, ?_, ?_⟩) | (with_reducible refine ⟨1, _, _, _, _, get1, rfl, rfl, ?_, ?_, ?_, ?_⟩) | (with_reducible refine ⟨2, _, _, _, _, get2, rfl, rfl, ?_, ?_, ?_, ?_⟩) | (with_reducible refine ⟨3, _, _, _, _, get3, rfl, rfl, ?_, ?_, ?_, ?_⟩) | (with_reducible refine ⟨4, _, _, _, _, get4, rfl, rfl, ?_, ?_, ?_, ?_⟩) | (with_reducible refine ⟨5, _, _, _, _, get5, rfl, rfl, ?_, ?_, ?_, ?_⟩) | (with_reducible refine ⟨6, _, _, _, _, get6, rfl, rfl, ?_, ?_, ?_, ?_⟩)); (kernel_rfl); (simp [Value.cells]); (rfl); (clear st; intro w st))
                | ((with_reducible refine wl_alloc ?_ (fun K hK => ?_)); rfl; refine owp_alloc (o := ⟨some 7, _, _, _, _, _⟩) rfl st ?_; apply Exists.intro; apply Exists.intro; refine ⟨?_, ?_⟩; (focus (first | (go_simp; done) | (go_simp; rfl))); (clear st; intro b7 w hb st; clear hb))
                | ((with_reducible refine wl_buildSlice ?_ (fun K hK => ?_)); rfl; refine owp_buildSlice (o := ⟨some 61, _, _, _, _, _⟩) rfl st ?_; apply Exists.intro; apply Exists.intro; apply Exists.intro; apply Exists.intro; refine ⟨?_, ?_⟩; (focus (go_simp; (first | done | exact ⟨⟨rfl, rfl⟩, rfl⟩ | rfl))); (clear st; intro b61 w hb st; clear hb))); (try simp only [nsl, Value.cells, unB] at st); (try clear hc); have hc := st.facts; (try simp only [nfl, nft, Nat.reduceAdd] at hc))
          refine Rg4.wp_region6_eq #[0, 1, 0, 0, 0, 16, 60, 124, 255, 511, 1023] [1, 6, 7, 8, 10] [] (fun _ => True) [0, 2, 3, 4, 5] 1 6 7 [8, 9, 10] (by kernel_rfl) (by rfl) (by rfl) (by rfl) (by rfl) (by rfl) (by kernel_rfl) (by kernel_rfl) (by kernel_rfl) (show Rg4.PB _ by repeat (first | with_reducible exact Rg4.pb_body | with_reducible exact Rg4.pb_bodyD rfl | with_reducible refine Rg4.pb_then ?_ | with_reducible refine Rg4.pb_inBlock ?_ | with_reducible refine Rg4.pb_noGoto ?_)) trivial ?_
          replace st := st.drew
          change Rg4.wp5 _ _ _ _ _ _ _ _ _ _ (World.drew _) _ _
          generalize World.drew _ = w at st ⊢
          (try clear hc); have hc := st.facts; (try simp only [nfl, nft, Nat.reduceAdd] at hc)
          iterate 5 (refine Rg4.w5_any (Rg4.want_none rfl) rfl ?_; apply Exists.intro; refine ⟨fun w' => ?_, ?_⟩; (focus (first | (go_simp; done) | (go_simp; first | rfl | (rw [if_neg] <;> first | rfl | omega) | (rw [if_pos] <;> first | rfl | omega)))); (try simp only [Rg4.nrm]))
          refine Rg4.w5_end ?_
          refine Rg4.tree_load' (show Rg4.PB _ by repeat (first | with_reducible exact Rg4.pb_body | with_reducible exact Rg4.pb_bodyD rfl | with_reducible refine Rg4.pb_then ?_ | with_reducible refine Rg4.pb_inBlock ?_ | with_reducible refine Rg4.pb_noGoto ?_)) (fun W' => Blk W' b7 [.int .i64 2, .int .i64 0, .string ⟨#[]⟩, .string ⟨#[]⟩, .slice va j vc]) (by rfl) (by rfl) rfl rfl rfl rfl rfl rfl (by kernel_rfl) (by kernel_rfl) nofun nofun nofun (fun _ => trivial) (st.blk (i := 3) get3) ?_
          apply Exists.intro; refine ⟨fun w' hcl => ?_, ?_⟩; (focus (have q4 := Blk.cell hcl 4; (try simp at q4); (focus (first | (go_simp; done) | (go_simp; first | rfl | (rw [if_neg] <;> first | rfl | omega) | (rw [if_pos] <;> first | rfl | omega)))))); (try simp only [Rg4.nrm])
          intro K hK
          go_wp2_with fail
          obtain ⟨fr', al', st', back⟩ := st.sub [0, 1] (by decide) (by simp)
          (try simp only [nsl, Value.cells, unB] at st')
          refine (HC.out _ _ _ st').mono ?_
          clear st'
          rintro en w ⟨g, rfl, hg, st'⟩
          replace st := back _ _ (by simp) st'
          clear back st'
          (try simp only [nsl, Value.cells, unB] at st)
          (try clear hc); have hc := st.facts; (try simp only [nfl, nft, Nat.reduceAdd] at hc)
          have HG2 := Lib.hid (HGS2.out g hg)
          clear hg
          replace st := st.fmsMore (i := 5) (j := 6) get5 get6
          have st9 := st.keep [0, 1, 2, 3, 4, 7] (by decide) (by simp)
          simp only [pick, List.map_cons, List.map_nil, List.getElem?_cons_zero, List.getElem?_cons_succ, Option.getD_some, List.cons_append, List.nil_append] at st9
          clear st
          have st := st9
          clear st9
          obtain ⟨op', k', ⟨o', d'⟩, a', n', c', kids'⟩ := g
          unfold fmV S
          simp only
          (try simp only [nsl, Value.cells, unB] at st)
          (try clear hc); have hc := st.facts; (try simp only [nfl, nft, Nat.reduceAdd] at hc)
          refine hK _ _ ⟨st.blk (i := 3) get3, ?_⟩
          clear K hK
          intro K hK
          (try simp only [Rg4.nrm])
          (refine owp_buildSlice (o := ⟨some 61, _, _, _, _, _⟩) rfl st ?_; apply Exists.intro; apply Exists.intro; apply Exists.intro; apply Exists.intro; refine ⟨?_, ?_⟩; (focus (go_simp; (first | done | exact ⟨⟨rfl, rfl⟩, rfl⟩ | rfl))); (clear st; intro b61 w hb st; clear hb); (try simp only [nsl, Value.cells, unB] at st); (try clear hc); have hc := st.facts; (try simp only [nfl, nft, Nat.reduceAdd] at hc))
          refine hK _ _ ⟨st.blk (i := 3) get3, ?_⟩
          clear K hK
          (try simp only [Rg4.nrm])

          refine Rg4.w4_bar (Rg4.want_none rfl) rfl (fun w' hw' hcl _ K hK => ?_)
          subst hw'
          obtain ⟨inf, hinf, hz0, hz1, hz2⟩ := fmInfo
          refine owp_append rfl st 4 get4 Try.underlying24 hinf hz0 hz1 hz2 rfl (by decide) rfl rfl ((st.blk (i := 6) get6).flat rfl) (by simp [Value.oneCell']) (by simp only [maxLen]; omega) (by omega) ?_
          clear hinf hz0 hz1 hz2 inf
          clear st
          intro v' w st
          obtain ⟨va', vc', rfl⟩ := own_slice (st.row (i := 4) get4)
          (try simp only [nsl, Value.cells, unB] at st)
          (try clear hc); have hc := st.facts; (try simp only [nfl, nft, Nat.reduceAdd] at hc)
          refine hK _ _ ⟨trivial, ?_⟩
          clear hK
          (try simp only [Rg4.nrm])
          (refine Rg4.w4_any (Rg4.want_none rfl) rfl ?_; apply Exists.intro; refine ⟨fun w' => ?_, ?_⟩; (focus (first | (go_simp; done) | (go_simp; first | rfl | (rw [if_neg] <;> first | rfl | omega) | (rw [if_pos] <;> first | rfl | omega)))); (try simp only [Rg4.nrm]))
          (refine Rg4.w4_bar (Rg4.want_none rfl) rfl (fun w' hw' hcl' _ K hK => ?_); subst hw'; (refine owp_store rfl st ?_; apply Exists.intro; apply Exists.intro; refine ⟨?_, ?_, ?_⟩; (focus (go_simp; try rfl)); (focus (go_simp; try rfl)); (first | (with_reducible refine ⟨0, _, _, _, _, get0, rfl, rfl, ?_, ?_, ?_, ?_⟩) | (with_reducible refine ⟨1, _, _, _, _, get1, rfl, rfl, ?_, ?_, ?_, ?_⟩) | (with_reducible refine ⟨2, _, _, _, _, get2, rfl, rfl, ?_, ?_, ?_, ?_⟩) | (with_reducible refine ⟨3, _, _, _, _, get3, rfl, rfl, ?_, ?_, ?_, ?_⟩) | (with_reducible refine ⟨4, _, _, _, _, get4, rfl, rfl, ?_, ?_, ?_, ?_⟩) | (with_reducible refine ⟨5, _, _, _, _, get5, rfl, rfl, ?_, ?_, ?_, ?_⟩) | (with_reducible refine ⟨6, _, _, _, _, get6, rfl, rfl, ?_, ?_, ?_, ?_⟩)); (kernel_rfl); (simp [Value.cells]); (rfl); (clear st; intro w st); (try simp only [nsl, Value.cells, unB] at st); (try clear hc); have hc := st.facts; (try simp only [nfl, nft, Nat.reduceAdd] at hc)); refine hK _ _ ⟨trivial, ?_⟩; (try simp only [Rg4.nrm]))
          refine Rg4.w4_nil (fun w' hw' hcl' _ => ?_); subst hw'; clear hcl'
          go_wp2_with fail
          have st' := st.keep [0, 1, 2, 3, 4, 5] (by decide) (by simp)
          go_roundg (n - (j + 1))
          case measure => omega
          case rel =>
            refine ⟨j + 1, gs ++ [.mk op' k' (o', d') a' n' c' kids'], va', vc', lf - (xn : Nat), by omega, by omega, by go_num, ⟨by omega, by omega⟩, HLF2, HG2, ?_⟩
            rw [cellsL_append, cellsL_one', HREST.out]
            simpa [pick, Flt.cells, fmC, S] using st'
        · obtain rfl : n = j := by omega
          have HE : Hid (gs.map Fm.strip = kids) := Lib.hid (by rw [HGS.out, List.take_of_length_le (by have := HN.out; omega)])
          have HLE : Hid (lf = left - ((Fo.mk 2 0 ([], []) kids).nodes : Nat)) := Lib.hid (by rw [HLF.out, List.take_of_length_le (by have := HN.out; omega), Fo.nodes]; omega)
          have HD2 : Hid (bytesL (kids.drop n) ++ ys = ys) := Lib.hid (by rw [List.drop_of_length_le (by have := HN.out; omega)]; rfl)
          have HND := Lib.hid (fun W => HNR.out ▸ fmNode_any 2 0 [] [] va n vc W (by simp) (by simp))
          rw [HD2.out] at st
          have hcc := (st.rowFl2 (α := Fm) (i := 4) get4).1
          have HCC := Lib.hid hcc
          clear hcc
          (try simp only [nsl, Value.cells, unB] at st)
          (try clear hc); have hc := st.facts; (try simp only [nfl, nft, Nat.reduceAdd] at hc)
          go_wp2_with ((first
                | ((with_reducible refine wl_alloc ?_ (fun K hK => ?_)); rfl; refine owp_alloc (o := ⟨some 6, _, _, _, _, _⟩) rfl st ?_; apply Exists.intro; apply Exists.intro; refine ⟨?_, ?_⟩; (focus (first | (go_simp; done) | (go_simp; rfl))); (clear st; intro b6 w hb st; clear hb))
                | ((with_reducible refine wl_store ?_ (fun K hK => ?_)); rfl; refine owp_store rfl st ?_; apply Exists.intro; apply Exists.intro; refine ⟨?_, ?_, ?_⟩; (focus (go_simp; try rfl)); (focus (go_simp; try rfl)); (first | (with_reducible refine ⟨0, _, _, _, _, get0, rfl, rfl, ?_, ?_, ?_, ?_⟩) | (with_reducible refine ⟨1, _, _, _, _, get1, rfl, rfl, ?_, ?_, ?_, ?_⟩) | (with_reducible refine ⟨2, _, _, _, _, get2, rfl, rfl, ?_, ?_, ?_, ?_⟩) | (with_reducible refine ⟨3, _, _, _, _, get3, rfl, rfl, ?_, ?_, ?_, ?_⟩) | (with_reducible refine ⟨4, _, _, _, _, get4, rfl, rfl, ?_, ?_, ?_, ?_⟩) | (with_reducible refine ⟨5, _, _, _, _, get5, rfl, rfl, ?_, ?_, ?_, ?_⟩) | (with_reducible refine ⟨6, _, _, _, _, get6, rfl, rfl, ?_, ?_, ?_, ?_⟩)); (kernel_rfl); (simp [Value.cells]); (rfl); (clear st; intro w st))
                | ((with_reducible refine wl_alloc ?_ (fun K hK => ?_)); rfl; refine owp_alloc (o := ⟨some 7, _, _, _, _, _⟩) rfl st ?_; apply Exists.intro; apply Exists.intro; refine ⟨?_, ?_⟩; (focus (first | (go_simp; done) | (go_simp; rfl))); (clear st; intro b7 w hb st; clear hb))
                | ((with_reducible refine wl_buildSlice ?_ (fun K hK => ?_)); rfl; refine owp_buildSlice (o := ⟨some 61, _, _, _, _, _⟩) rfl st ?_; apply Exists.intro; apply Exists.intro; apply Exists.intro; apply Exists.intro; refine ⟨?_, ?_⟩; (focus (go_simp; (first | done | exact ⟨⟨rfl, rfl⟩, rfl⟩ | rfl))); (clear st; intro b61 w hb st; clear hb))); (try simp only [nsl, Value.cells, unB] at st); (try clear hc); have hc := st.facts; (try simp only [nfl, nft, Nat.reduceAdd] at hc))
          refine (HND.out _).mono ?_
          rintro en w ⟨rfl, hx⟩
          replace st := st.ext hx
          clear hx
          (try clear hc); have hc := st.facts; (try simp only [nfl, nft, Nat.reduceAdd] at hc)
          go_wp2_with ((first
                | ((with_reducible refine wl_alloc ?_ (fun K hK => ?_)); rfl; refine owp_alloc (o := ⟨some 6, _, _, _, _, _⟩) rfl st ?_; apply Exists.intro; apply Exists.intro; refine ⟨?_, ?_⟩; (focus (first | (go_simp; done) | (go_simp; rfl))); (clear st; intro b6 w hb st; clear hb))
                | ((with_reducible refine wl_store ?_ (fun K hK => ?_)); rfl; refine owp_store rfl st ?_; apply Exists.intro; apply Exists.intro; refine ⟨?_, ?_, ?_⟩; (focus (go_simp; try rfl)); (focus (go_simp; try rfl)); (first | (with_reducible refine ⟨0, _, _, _, _, get0, rfl, rfl, ?_, ?_, ?_, ?_⟩) | (with_reducible refine ⟨1, _, _, _, _, get1, rfl, rfl, ?_, ?_, ?_, ?_⟩) | (with_reducible refine ⟨2, _, _, _, _, get2, rfl, rfl, ?_, ?_, ?_, ?_⟩) | (with_reducible refine ⟨3, _, _, _, _, get3, rfl, rfl, ?_, ?_, ?_, ?_⟩) | (with_reducible refine ⟨4, _, _, _, _, get4, rfl, rfl, ?_, ?_, ?_, ?_⟩) | (with_reducible refine ⟨5, _, _, _, _, get5, rfl, rfl, ?_, ?_, ?_, ?_⟩) | (with_reducible refine ⟨6, _, _, _, _, get6, rfl, rfl, ?_, ?_, ?_, ?_⟩)); (kernel_rfl); (simp [Value.cells]); (rfl); (clear st; intro w st))
                | ((with_reducible refine wl_alloc ?_ (fun K hK => ?_)); rfl; refine owp_alloc (o := ⟨some 7, _, _, _, _, _⟩) rfl st ?_; apply Exists.intro; apply Exists.intro; refine ⟨?_, ?_⟩; (focus (first | (go_simp; done) | (go_simp; rfl))); (clear st; intro b7 w hb st; clear hb))
                | ((with_reducible refine wl_buildSlice ?_ (fun K hK => ?_)); rfl; refine owp_buildSlice (o := ⟨some 61, _, _, _, _, _⟩) rfl st ?_; apply Exists.intro; apply Exists.intro; apply Exists.intro; apply Exists.intro; refine ⟨?_, ?_⟩; (focus (go_simp; (first | done | exact ⟨⟨rfl, rfl⟩, rfl⟩ | rfl))); (clear st; intro b61 w hb st; clear hb))); (try simp only [nsl, Value.cells, unB] at st); (try clear hc); have hc := st.facts; (try simp only [nfl, nft, Nat.reduceAdd] at hc))
          (try simp only [Exit.inBlock, Exit.then])
          refine bodyPost_cell rfl rfl (st.blk (i := 2) get2) Try.underlying26 rfl (by kernel_rfl) rfl ?_
          have st2 := st.rowToFl (α := Fm) (i := 4) get4
          have st3 := (st2.mkFm (i := 4) (j := 5) get4 get5 2 0 ([], []) vc HCC.out).keep [0, 1, 6] (by decide) (by simp)
          rw [← HLE.out]
          exact fmGot (.mk 2 0 ([], []) va n vc gs) rfl (by rw [strip_mk, HE.out]) (by simpa [pick] using st3)
    · have HRD : Hid (rdNumber 9223372036854775807 (numB 3 ++ (numB n ++ (bytesL kids ++ ys))) = .ok (3, numB n ++ (bytesL kids ++ ys))) := Lib.hid (rdNumber_put 9223372036854775807 3 _ (by decide) (by decide))
      rw [if_neg (by decide), if_neg (by decide), List.nil_append, show (3 : Int).toNat = 3 from rfl, List.append_assoc, List.append_assoc] at st
      have st' := st
      rw [show bytesL kids = bytesL (kids.drop 0) from rfl] at st' HRN HRD
      clear st
      have st := st'
      clear st' h1
      generalize hx2 : numB n ++ (bytesL (kids.drop 0) ++ ys) = x2 at *
      generalize hx0 : numB 3 ++ x2 = x0 at *
      clear hx2 hx0
      (try simp only [nsl, Value.cells, unB] at st)
      (try clear hc); have hc := st.facts; (try simp only [nfl, nft, Nat.reduceAdd] at hc)
      go_enter Try.func80, Try.ntmps80
      go_wp2_with ((first
            | ((with_reducible refine wl_alloc ?_ (fun K hK => ?_)); rfl; refine owp_alloc (o := ⟨some 6, _, _, _, _, _⟩) rfl st ?_; apply Exists.intro; apply Exists.intro; refine ⟨?_, ?_⟩; (focus (first | (go_simp; done) | (go_simp; rfl))); (clear st; intro b6 w hb st; clear hb))
            | ((with_reducible refine wl_store ?_ (fun K hK => ?_)); rfl; refine owp_store rfl st ?_; apply Exists.intro; apply Exists.intro; refine ⟨?_, ?_, ?_⟩; (focus (go_simp; try rfl)); (focus (go_simp; try rfl)); (first | (with_reducible refine ⟨0, _, _, _, _, get0, rfl, rfl, ?_, ?_, ?_, ?_⟩) | (with_reducible refine ⟨1, _, _, _, _, get1, rfl, rfl, ?_, ?_, ?_, ?_⟩) | (with_reducible refine ⟨2, _, _, _, _, get2, rfl, rfl, ?_, ?_, ?_, ?_⟩) | (with_reducible refine ⟨3, _, _, _, _, get3, rfl, rfl, ?_, ?_, ?_, ?_⟩) | (with_reducible refine ⟨4, _, _, _, _, get4, rfl, rfl, ?_, ?_, ?_, ?_⟩) | (with_reducible refine ⟨5, _, _, _, _, get5, rfl, rfl, ?_, ?_, ?_, ?_⟩) | (with_reducible refine ⟨6, _, _, _, _, get6, rfl, rfl, ?_, ?_, ?_, ?_⟩)); (kernel_rfl); (simp [Value.cells]); (rfl); (clear st; intro w st))
            | ((with_reducible refine wl_alloc ?_ (fun K hK => ?_)); rfl; refine owp_alloc (o := ⟨some 7, _, _, _, _, _⟩) rfl st ?_; apply Exists.intro; apply Exists.intro; refine ⟨?_, ?_⟩; (focus (first | (go_simp; done) | (go_simp; rfl))); (clear st; intro b7 w hb st; clear hb))
            | ((with_reducible refine wl_buildSlice ?_ (fun K hK => ?_)); rfl; refine owp_buildSlice (o := ⟨some 61, _, _, _, _, _⟩) rfl st ?_; apply Exists.intro; apply Exists.intro; apply Exists.intro; apply Exists.intro; refine ⟨?_, ?_⟩; (focus (go_simp; (first | done | exact ⟨⟨rfl, rfl⟩, rfl⟩ | rfl))); (clear st; intro b61 w hb st; clear hb))); (try simp only [nsl, Value.cells, unB] at st); (try clear hc); have hc := st.facts; (try simp only [nfl, nft, Nat.reduceAdd] at hc))
      obtain ⟨fr', al', st', back⟩ := st.sub [0] (by decide) (by simp)
      (try simp only [nsl, Value.cells, unB] at st')
      refine (number_c st' 9223372036854775807).mono ?_
      clear st'
      intro en w hen
      unfold RdC at hen
      rw [HRD.out] at hen
      obtain ⟨v, M, rfl, ⟨rfl, rfl⟩, st'⟩ := hen
      replace st := back _ _ (by simp) st'
      clear back st'
      (try simp only [nsl, Value.cells, unB] at st)
      (try clear hc); have hc := st.facts; (try simp only [nfl, nft, Nat.reduceAdd] at hc)
      go_wp2_with ((first
            | ((with_reducible refine wl_alloc ?_ (fun K hK => ?_)); rfl; refine owp_alloc (o := ⟨some 6, _, _, _, _, _⟩) rfl st ?_; apply Exists.intro; apply Exists.intro; refine ⟨?_, ?_⟩; (focus (first | (go_simp; done) | (go_simp; rfl))); (clear st; intro b6 w hb st; clear hb))
            | ((with_reducible refine wl_store ?_ (fun K hK => ?_)); rfl; refine owp_store rfl st ?_; apply Exists.intro; apply Exists.intro; refine ⟨?_, ?_, ?_⟩; (focus (go_simp; try rfl)); (focus (go_simp; try rfl)); (first | (with_reducible refine ⟨0, _, _, _, _, get0, rfl, rfl, ?_, ?_, ?_, ?_⟩) | (with_reducible refine ⟨1, _, _, _, _, get1, rfl, rfl, ?_, ?_, ?_, ?_⟩) | (with_reducible refine ⟨2, _, _, _, _, get2, rfl, rfl, ?_, ?_, ?_, ?_⟩) | (with_reducible refine ⟨3, _, _, _, _, get3, rfl, rfl, ?_, ?_, ?_, ?_⟩) | (with_reducible refine ⟨4, _, _, _, _, get4, rfl, rfl, ?_, ?_, ?_, ?_⟩) | (with_reducible refine ⟨5, _, _, _, _, get5, rfl, rfl, ?_, ?_, ?_, ?_⟩) | (with_reducible refine ⟨6, _, _, _, _, get6, rfl, rfl, ?_, ?_, ?_, ?_⟩)); (kernel_rfl); (simp [Value.cells]); (rfl); (clear st; intro w st))
            | ((with_reducible refine wl_alloc ?_ (fun K hK => ?_)); rfl; refine owp_alloc (o := ⟨some 7, _, _, _, _, _⟩) rfl st ?_; apply Exists.intro; apply Exists.intro; refine ⟨?_, ?_⟩; (focus (first | (go_simp; done) | (go_simp; rfl))); (clear st; intro b7 w hb st; clear hb))
            | ((with_reducible refine wl_buildSlice ?_ (fun K hK => ?_)); rfl; refine owp_buildSlice (o := ⟨some 61, _, _, _, _, _⟩) rfl st ?_; apply Exists.intro; apply Exists.intro; apply Exists.intro; apply Exists.intro; refine ⟨?_, ?_⟩; (focus (go_simp; (first | done | exact ⟨⟨rfl, rfl⟩, rfl⟩ | rfl))); (clear st; intro b61 w hb st; clear hb))); (try simp only [nsl, Value.cells, unB] at st); (try clear hc); have hc := st.facts; (try simp only [nfl, nft, Nat.reduceAdd] at hc))
      obtain ⟨fr', al', st', back⟩ := st.sub [0] (by decide) (by simp)
      (try simp only [nsl, Value.cells, unB] at st')
      refine (number_c st' 8).mono ?_
      clear st'
      intro en w hen
      unfold RdC at hen
      rw [HRN.out] at hen
      obtain ⟨v, M, rfl, ⟨rfl, rfl⟩, st'⟩ := hen
      replace st := back _ _ (by simp) st'
      clear back st'
      (try simp only [nsl, Value.cells, unB] at st)
      (try clear hc); have hc := st.facts; (try simp only [nfl, nft, Nat.reduceAdd] at hc)
      go_wp2_with ((first
            | ((with_reducible refine wl_alloc ?_ (fun K hK => ?_)); rfl; refine owp_alloc (o := ⟨some 6, _, _, _, _, _⟩) rfl st ?_; apply Exists.intro; apply Exists.intro; refine ⟨?_, ?_⟩; (focus (first | (go_simp; done) | (go_simp; rfl))); (clear st; intro b6 w hb st; clear hb))
            | ((with_reducible refine wl_store ?_ (fun K hK => ?_)); rfl; refine owp_store rfl st ?_; apply Exists.intro; apply Exists.intro; refine ⟨?_, ?_, ?_⟩; (focus (go_simp; try rfl)); (focus (go_simp; try rfl)); (first | (with_reducible refine ⟨0, _, _, _, _, get0, rfl, rfl, ?_, ?_, ?_, ?_⟩) | (with_reducible refine ⟨1, _, _, _, _, get1, rfl, rfl, ?_, ?_, ?_, ?_⟩) | (with_reducible refine ⟨2, _, _, _, _, get2, rfl, rfl, ?_, ?_, ?_, ?_⟩) | (with_reducible refine ⟨3, _, _, _, _, get3, rfl, rfl, ?_, ?_, ?_, ?_⟩) | (with_reducible refine ⟨4, _, _, _, _, get4, rfl, rfl, ?_, ?_, ?_, ?_⟩) | (with_reducible refine ⟨5, _, _, _, _, get5, rfl, rfl, ?_, ?_, ?_, ?_⟩) | (with_reducible refine ⟨6, _, _, _, _, get6, rfl, rfl, ?_, ?_, ?_, ?_⟩)); (kernel_rfl); (simp [Value.cells]); (rfl); (clear st; intro w st))
            | ((with_reducible refine wl_alloc ?_ (fun K hK => ?_)); rfl; refine owp_alloc (o := ⟨some 7, _, _, _, _, _⟩) rfl st ?_; apply Exists.intro; apply Exists.intro; refine ⟨?_, ?_⟩; (focus (first | (go_simp; done) | (go_simp; rfl))); (clear st; intro b7 w hb st; clear hb))
            | ((with_reducible refine wl_buildSlice ?_ (fun K hK => ?_)); rfl; refine owp_buildSlice (o := ⟨some 61, _, _, _, _, _⟩) rfl st ?_; apply Exists.intro; apply Exists.intro; apply Exists.intro; apply Exists.intro; refine ⟨?_, ?_⟩; (focus (go_simp; (first | done | exact ⟨⟨rfl, rfl⟩, rfl⟩ | rfl))); (clear st; intro b61 w hb st; clear hb))); (try simp only [nsl, Value.cells, unB] at st); (try clear hc); have hc := st.facts; (try simp only [nfl, nft, Nat.reduceAdd] at hc))
      replace st := (st.row_nil 26 5).noFms
      simp only [List.cons_append, List.nil_append] at st
      (try simp only [nsl, Value.cells, unB] at st)
      (try clear hc); have hc := st.facts; (try simp only [nfl, nft, Nat.reduceAdd] at hc)
      go_loopg [52] n (fun q i wr => ∃ (j : Nat) (gs : List Fm) (va : Option Addr) (vc : Nat) (lf : Int), j ≤ n ∧ q = n - j ∧ i = .int .i64 (j : Int) ∧ (-1000 ≤ lf ∧ lf ≤ 1000) ∧ Hid (lf = left - 1 - (nodesL (kids.take j) : Nat)) ∧ Hid (gs.map Fm.strip = kids.take j) ∧ Own fr al W [rdI r (bytesL (kids.drop j) ++ ys), blkI b [.int .i64 lf], blkI b6 [.int .i64 0, .int .i64 0, .string ⟨#[]⟩, .string ⟨#[]⟩, .slice none 0 0], blkI b7 [.int .i64 3, .int .i64 0, .string ⟨#[]⟩, .string ⟨#[]⟩, .slice va j vc], rowI 26 5 (.slice va j vc) j (cellsL gs), fmsI gs] wr)
      case atStart => exact ⟨0, [], none, 0, left - 1, by omega, by omega, rfl, by omega, Lib.hid (by simp [nodesL]), Lib.hid (by simp), by simpa [cellsL] using st⟩
      case round =>
        obtain ⟨j, gs, va, vc, lf, hj, rfl, rfl, hlf, HLF, HGS, st'⟩ := hrel
        clear st hc
        have st := st'
        clear st'
        by_cases hjn : j < n
        · have hjl : j < kids.length := by have := HN.out; omega
          have hsn : kids.take (j + 1) = kids.take j ++ [kids[j]] := (List.take_append_getElem hjl).symm
          have hdr : kids.drop j = kids[j] :: kids.drop (j + 1) := List.drop_eq_getElem_cons hjl
          have hnn : nodesL (kids.take (j + 1)) = nodesL (kids.take j) + kids[j].nodes := by rw [hsn, nodesL_snoc]
          have hle := nodesL_take kids (j + 1)
          have hdd := deepL_mem kids kids[j] (List.getElem_mem hjl)
          have hih := HI.out _ (List.getElem_mem hjl)
          have hwk := HWK.out _ (List.getElem_mem hjl)
          have hsz := HS.out
          have hdp := HD.out
          have hyl := HYL.out
          have hbl2 := bytesL_drop_len kids j
          rw [hdr, bytesL, List.length_append] at hbl2
          generalize kids[j] = x at *
          have HC := Lib.hid (fun (fr al : Nat → Prop) (W : World) (st : Own fr al W [rdI r (x.bytes ++ (bytesL (kids.drop (j + 1)) ++ ys)), blkI b [.int .i64 lf]] W) => hih fr al W r b lf (deep - 1) (bytesL (kids.drop (j + 1)) ++ ys) st hwk (by have := HLF.out; omega) (by have := HLF.out; omega) (by omega) (by omega) (by rw [List.length_append]; omega))
          have HLF2 : Hid (lf - (x.nodes : Nat) = left - 1 - (nodesL (kids.take (j + 1)) : Nat)) := Lib.hid (by rw [hnn, HLF.out]; omega)
          have HB2 : Hid (bytesL (kids.drop j) ++ ys = x.bytes ++ (bytesL (kids.drop (j + 1)) ++ ys)) := Lib.hid (by rw [hdr, bytesL, List.append_assoc])
          have HGS2 : Hid (∀ g : Fm, g.strip = x → (gs ++ [g]).map Fm.strip = kids.take (j + 1)) := Lib.hid (fun g hg => by rw [hsn, List.map_append, HGS.out, List.map_cons, List.map_nil, hg])
          have hxn : x.nodes ≤ 64 := by omega
          rw [HB2.out] at st
          obtain ⟨xn, hxe⟩ : ∃ v, x.nodes = v := ⟨_, rfl⟩
          rw [hxe] at HC HLF2 hxn
          obtain ⟨rest, hrest⟩ : ∃ r, bytesL (kids.drop (j + 1)) ++ ys = r := ⟨_, rfl⟩
          have hlf2 : 0 ≤ lf - (xn : Nat) ∧ lf - (xn : Nat) ≤ 1000 := by have := HLF.out; omega
          rw [hrest] at HC st
          have HREST := Lib.hid hrest
          generalize x.bytes = xb at *
          clear hrest hsn hdr hnn hle hdd hih hwk hsz hdp hyl hjl hxe hbl2 HB2
          have hd1 : IntKind.i64.wrap (deep - 1) = deep - 1 := IntWalk.i64_in _ ⟨by omega, by omega⟩
          (try simp only [nsl, Value.cells, unB] at st)
          (try clear hc); have hc := st.facts; (try simp only [nfl, nft, Nat.reduceAdd] at hc)
          go_wp2_with ((first
                | ((with_reducible refine wl_alloc ?_ (fun K hK => ?_)); rfl; refine owp_alloc (o := ⟨some 6, _, _, _, _, _⟩) rfl st ?_; apply Exists.intro; apply Exists.intro; refine ⟨?_, ?_⟩; (focus (first | (go_simp; done) | (go_simp; rfl))); (clear st; intro b6 w hb st; clear hb))
                | ((with_reducible refine wl_store ?_ (fun K hK => ?_)); rfl; refine owp_store rfl st ?_; apply Exists.intro; apply Exists.intro; refine ⟨?_, ?_, ?_⟩; (focus (go_simp; try rfl)); (focus (go_simp; try rfl)); (first | (with_reducible refine ⟨0, _, _, _, _, get0, rfl, rfl, ?_, ?_, ?_, ?_⟩) | (with_reducible refine ⟨1, _, _, _, _, get1, rfl, rfl, ?_, ?_, ?_, ?_⟩) | (with_reducible refine ⟨2, _, _, _, _, get2, rfl, rfl, ?_, ?_, ?_, ?_⟩) | (with_reducible refine ⟨3, _, _, _, _, get3, rfl, rfl, ?_, ?_, ?_, ?_⟩) | (with_reducible refine ⟨4, _, _, _, _, get4, rfl, rfl, ?_, ?_, ?_, ?_⟩) | (with_reducible refine ⟨5, _, _, _, _, get5, rfl, rfl, ?_, ?_, ?_, ?_⟩) | (with_reducible refine ⟨6, _, _, _, _, get6, rfl, rfl, ?_, ?_, ?_, ?_⟩)); (kernel_rfl); (simp [Value.cells]); (rfl); (clear st; intro w st))
                | ((with_reducible refine wl_alloc ?_ (fun K hK => ?_)); rfl; refine owp_alloc (o := ⟨some 7, _, _, _, _, _⟩) rfl st ?_; apply Exists.intro; apply Exists.intro; refine ⟨?_, ?_⟩; (focus (first | (go_simp; done) | (go_simp; rfl))); (clear st; intro b7 w hb st; clear hb))
                | ((with_reducible refine wl_buildSlice ?_ (fun K hK => ?_)); rfl; refine owp_buildSlice (o := ⟨some 61, _, _, _, _, _⟩) rfl st ?_; apply Exists.intro; apply Exists.intro; apply Exists.intro; apply Exists.intro; refine ⟨?_, ?_⟩; (focus (go_simp; (first | done | exact ⟨⟨rfl, rfl⟩, rfl⟩ | rfl))); (clear st; intro b61 w hb st; clear hb))); (try simp only [nsl, Value.cells, unB] at st); (try clear hc); have hc := st.facts; (try simp only [nfl, nft, Nat.reduceAdd] at hc))
          refine Rg4.wp_region6_eq #[0, 1, 0, 0, 0, 16, 60, 124, 255, 511, 1023] [1, 6, 7, 8, 10] [] (fun _ => True) [0, 2, 3, 4, 5] 1 6 7 [8, 9, 10] (by kernel_rfl) (by rfl) (by rfl) (by rfl) (by rfl) (by rfl) (by kernel_rfl) (by kernel_rfl) (by kernel_rfl) (show Rg4.PB _ by repeat (first | with_reducible exact Rg4.pb_body | with_reducible exact Rg4.pb_bodyD rfl | with_reducible refine Rg4.pb_then ?_ | with_reducible refine Rg4.pb_inBlock ?_ | with_reducible refine Rg4.pb_noGoto ?_)) trivial ?_
          replace st := st.drew
          change Rg4.wp5 _ _ _ _ _ _ _ _ _ _ (World.drew _) _ _
          generalize World.drew _ = w at st ⊢
          (try clear hc); have hc := st.facts; (try simp only [nfl, nft, Nat.reduceAdd] at hc)
          iterate 5 (refine Rg4.w5_any (Rg4.want_none rfl) rfl ?_; apply Exists.intro; refine ⟨fun w' => ?_, ?_⟩; (focus (first | (go_simp; done) | (go_simp; first | rfl | (rw [if_neg] <;> first | rfl | omega) | (rw [if_pos] <;> first | rfl | omega)))); (try simp only [Rg4.nrm]))
          refine Rg4.w5_end ?_
          refine Rg4.tree_load' (show Rg4.PB _ by repeat (first | with_reducible exact Rg4.pb_body | with_reducible exact Rg4.pb_bodyD rfl | with_reducible refine Rg4.pb_then ?_ | with_reducible refine Rg4.pb_inBlock ?_ | with_reducible refine Rg4.pb_noGoto ?_)) (fun W' => Blk W' b7 [.int .i64 3, .int .i64 0, .string ⟨#[]⟩, .string ⟨#[]⟩, .slice va j vc]) (by rfl) (by rfl) rfl rfl rfl rfl rfl rfl (by kernel_rfl) (by kernel_rfl) nofun nofun nofun (fun _ => trivial) (st.blk (i := 3) get3) ?_
          apply Exists.intro; refine ⟨fun w' hcl => ?_, ?_⟩; (focus (have q4 := Blk.cell hcl 4; (try simp at q4); (focus (first | (go_simp; done) | (go_simp; first | rfl | (rw [if_neg] <;> first | rfl | omega) | (rw [if_pos] <;> first | rfl | omega)))))); (try simp only [Rg4.nrm])
          intro K hK
          go_wp2_with fail
          obtain ⟨fr', al', st', back⟩ := st.sub [0, 1] (by decide) (by simp)
          (try simp only [nsl, Value.cells, unB] at st')
          refine (HC.out _ _ _ st').mono ?_
          clear st'
          rintro en w ⟨g, rfl, hg, st'⟩
          replace st := back _ _ (by simp) st'
          clear back st'
          (try simp only [nsl, Value.cells, unB] at st)
          (try clear hc); have hc := st.facts; (try simp only [nfl, nft, Nat.reduceAdd] at hc)
          have HG2 := Lib.hid (HGS2.out g hg)
          clear hg
          replace st := st.fmsMore (i := 5) (j := 6) get5 get6
          have st9 := st.keep [0, 1, 2, 3, 4, 7] (by decide) (by simp)
          simp only [pick, List.map_cons, List.map_nil, List.getElem?_cons_zero, List.getElem?_cons_succ, Option.getD_some, List.cons_append, List.nil_append] at st9
          clear st
          have st := st9
          clear st9
          obtain ⟨op', k', ⟨o', d'⟩, a', n', c', kids'⟩ := g
          unfold fmV S
          simp only
          (try simp only [nsl, Value.cells, unB] at st)
          (try clear hc); have hc := st.facts; (try simp only [nfl, nft, Nat.reduceAdd] at hc)
          refine hK _ _ ⟨st.blk (i := 3) get3, ?_⟩
          clear K hK
          intro K hK
          (try simp only [Rg4.nrm])
          (refine owp_buildSlice (o := ⟨some 61, _, _, _, _, _⟩) rfl st ?_; apply Exists.intro; apply Exists.intro; apply Exists.intro; apply Exists.intro; refine ⟨?_, ?_⟩; (focus (go_simp; (first | done | exact ⟨⟨rfl, rfl⟩, rfl⟩ | rfl))); (clear st; intro b61 w hb st; clear hb); (try simp only [nsl, Value.cells, unB] at st); (try clear hc); have hc := st.facts; (try simp only [nfl, nft, Nat.reduceAdd] at hc))
          refine hK _ _ ⟨st.blk (i := 3) get3, ?_⟩
          clear K hK
          (try simp only [Rg4.nrm])

          refine Rg4.w4_bar (Rg4.want_none rfl) rfl (fun w' hw' hcl _ K hK => ?_)
          subst hw'
          obtain ⟨inf, hinf, hz0, hz1, hz2⟩ := fmInfo
          refine owp_append rfl st 4 get4 Try.underlying24 hinf hz0 hz1 hz2 rfl (by decide) rfl rfl ((st.blk (i := 6) get6).flat rfl) (by simp [Value.oneCell']) (by simp only [maxLen]; omega) (by omega) ?_
          clear hinf hz0 hz1 hz2 inf
          clear st
          intro v' w st
          obtain ⟨va', vc', rfl⟩ := own_slice (st.row (i := 4) get4)
          (try simp only [nsl, Value.cells, unB] at st)
          (try clear hc); have hc := st.facts; (try simp only [nfl, nft, Nat.reduceAdd] at hc)
          refine hK _ _ ⟨trivial, ?_⟩
          clear hK
          (try simp only [Rg4.nrm])
          (refine Rg4.w4_any (Rg4.want_none rfl) rfl ?_; apply Exists.intro; refine ⟨fun w' => ?_, ?_⟩; (focus (first | (go_simp; done) | (go_simp; first | rfl | (rw [if_neg] <;> first | rfl | omega) | (rw [if_pos] <;> first | rfl | omega)))); (try simp only [Rg4.nrm]))
          (refine Rg4.w4_bar (Rg4.want_none rfl) rfl (fun w' hw' hcl' _ K hK => ?_); subst hw'; (refine owp_store rfl st ?_; apply Exists.intro; apply Exists.intro; refine ⟨?_, ?_, ?_⟩; (focus (go_simp; try rfl)); (focus (go_simp; try rfl)); (first | (with_reducible refine ⟨0, _, _, _, _, get0, rfl, rfl, ?_, ?_, ?_, ?_⟩) | (with_reducible refine ⟨1, _, _, _, _, get1, rfl, rfl, ?_, ?_, ?_, ?_⟩) | (with_reducible refine ⟨2, _, _, _, _, get2, rfl, rfl, ?_, ?_, ?_, ?_⟩) | (with_reducible refine ⟨3, _, _, _, _, get3, rfl, rfl, ?_, ?_, ?_, ?_⟩) | (with_reducible refine ⟨4, _, _, _, _, get4, rfl, rfl, ?_, ?_, ?_, ?_⟩) | (with_reducible refine ⟨5, _, _, _, _, get5, rfl, rfl, ?_, ?_, ?_, ?_⟩) | (with_reducible refine ⟨6, _, _, _, _, get6, rfl, rfl, ?_, ?_, ?_, ?_⟩)); (kernel_rfl); (simp [Value.cells]); (rfl); (clear st; intro w st); (try simp only [nsl, Value.cells, unB] at st); (try clear hc); have hc := st.facts; (try simp only [nfl, nft, Nat.reduceAdd] at hc)); refine hK _ _ ⟨trivial, ?_⟩; (try simp only [Rg4.nrm]))
          refine Rg4.w4_nil (fun w' hw' hcl' _ => ?_); subst hw'; clear hcl'
          go_wp2_with fail
          have st' := st.keep [0, 1, 2, 3, 4, 5] (by decide) (by simp)
          go_roundg (n - (j + 1))
          case measure => omega
          case rel =>
            refine ⟨j + 1, gs ++ [.mk op' k' (o', d') a' n' c' kids'], va', vc', lf - (xn : Nat), by omega, by omega, by go_num, ⟨by omega, by omega⟩, HLF2, HG2, ?_⟩
            rw [cellsL_append, cellsL_one', HREST.out]
            simpa [pick, Flt.cells, fmC, S] using st'
        · obtain rfl : n = j := by omega
          have HE : Hid (gs.map Fm.strip = kids) := Lib.hid (by rw [HGS.out, List.take_of_length_le (by have := HN.out; omega)])
          have HLE : Hid (lf = left - ((Fo.mk 3 0 ([], []) kids).nodes : Nat)) := Lib.hid (by rw [HLF.out, List.take_of_length_le (by have := HN.out; omega), Fo.nodes]; omega)
          have HD2 : Hid (bytesL (kids.drop n) ++ ys = ys) := Lib.hid (by rw [List.drop_of_length_le (by have := HN.out; omega)]; rfl)
          have HND := Lib.hid (fun W => HNR.out ▸ fmNode_any 3 0 [] [] va n vc W (by simp) (by simp))
          rw [HD2.out] at st
          have hcc := (st.rowFl2 (α := Fm) (i := 4) get4).1
          have HCC := Lib.hid hcc
          clear hcc
          (try simp only [nsl, Value.cells, unB] at st)
          (try clear hc); have hc := st.facts; (try simp only [nfl, nft, Nat.reduceAdd] at hc)
          go_wp2_with ((first
                | ((with_reducible refine wl_alloc ?_ (fun K hK => ?_)); rfl; refine owp_alloc (o := ⟨some 6, _, _, _, _, _⟩) rfl st ?_; apply Exists.intro; apply Exists.intro; refine ⟨?_, ?_⟩; (focus (first | (go_simp; done) | (go_simp; rfl))); (clear st; intro b6 w hb st; clear hb))
                | ((with_reducible refine wl_store ?_ (fun K hK => ?_)); rfl; refine owp_store rfl st ?_; apply Exists.intro; apply Exists.intro; refine ⟨?_, ?_, ?_⟩; (focus (go_simp; try rfl)); (focus (go_simp; try rfl)); (first | (with_reducible refine ⟨0, _, _, _, _, get0, rfl, rfl, ?_, ?_, ?_, ?_⟩) | (with_reducible refine ⟨1, _, _, _, _, get1, rfl, rfl, ?_, ?_, ?_, ?_⟩) | (with_reducible refine ⟨2, _, _, _, _, get2, rfl, rfl, ?_, ?_, ?_, ?_⟩) | (with_reducible refine ⟨3, _, _, _, _, get3, rfl, rfl, ?_, ?_, ?_, ?_⟩) | (with_reducible refine ⟨4, _, _, _, _, get4, rfl, rfl, ?_, ?_, ?_, ?_⟩) | (with_reducible refine ⟨5, _, _, _, _, get5, rfl, rfl, ?_, ?_, ?_, ?_⟩) | (with_reducible refine ⟨6, _, _, _, _, get6, rfl, rfl, ?_, ?_, ?_, ?_⟩)); (kernel_rfl); (simp [Value.cells]); (rfl); (clear st; intro w st))
                | ((with_reducible refine wl_alloc ?_ (fun K hK => ?_)); rfl; refine owp_alloc (o := ⟨some 7, _, _, _, _, _⟩) rfl st ?_; apply Exists.intro; apply Exists.intro; refine ⟨?_, ?_⟩; (focus (first | (go_simp; done) | (go_simp; rfl))); (clear st; intro b7 w hb st; clear hb))
                | ((with_reducible refine wl_buildSlice ?_ (fun K hK => ?_)); rfl; refine owp_buildSlice (o := ⟨some 61, _, _, _, _, _⟩) rfl st ?_; apply Exists.intro; apply Exists.intro; apply Exists.intro; apply Exists.intro; refine ⟨?_, ?_⟩; (focus (go_simp; (first | done | exact ⟨⟨rfl, rfl⟩, rfl⟩ | rfl))); (clear st; intro b61 w hb st; clear hb))); (try simp only [nsl, Value.cells, unB] at st); (try clear hc); have hc := st.facts; (try simp only [nfl, nft, Nat.reduceAdd] at hc))
          refine (HND.out _).mono ?_
          rintro en w ⟨rfl, hx⟩
          replace st := st.ext hx
          clear hx
          (try clear hc); have hc := st.facts; (try simp only [nfl, nft, Nat.reduceAdd] at hc)
          go_wp2_with ((first
                | ((with_reducible refine wl_alloc ?_ (fun K hK => ?_)); rfl; refine owp_alloc (o := ⟨some 6, _, _, _, _, _⟩) rfl st ?_; apply Exists.intro; apply Exists.intro; refine ⟨?_, ?_⟩; (focus (first | (go_simp; done) | (go_simp; rfl))); (clear st; intro b6 w hb st; clear hb))
                | ((with_reducible refine wl_store ?_ (fun K hK => ?_)); rfl; refine owp_store rfl st ?_; apply Exists.intro; apply Exists.intro; refine ⟨?_, ?_, ?_⟩; (focus (go_simp; try rfl)); (focus (go_simp; try rfl)); (first | (with_reducible refine ⟨0, _, _, _, _, get0, rfl, rfl, ?_, ?_, ?_, ?_⟩) | (with_reducible refine ⟨1, _, _, _, _, get1, rfl, rfl, ?_, ?_, ?_, ?_⟩) | (with_reducible refine ⟨2, _, _, _, _, get2, rfl, rfl, ?_, ?_, ?_, ?_⟩) | (with_reducible refine ⟨3, _, _, _, _, get3, rfl, rfl, ?_, ?_, ?_, ?_⟩) | (with_reducible refine ⟨4, _, _, _, _, get4, rfl, rfl, ?_, ?_, ?_, ?_⟩) | (with_reducible refine ⟨5, _, _, _, _, get5, rfl, rfl, ?_, ?_, ?_, ?_⟩) | (with_reducible refine ⟨6, _, _, _, _, get6, rfl, rfl, ?_, ?_, ?_, ?_⟩)); (kernel_rfl); (simp [Value.cells]); (rfl); (clear st; intro w st))
                | ((with_reducible refine wl_alloc ?_ (fun K hK => ?_)); rfl; refine owp_alloc (o := ⟨some 7, _, _, _, _, _⟩) rfl st ?_; apply Exists.intro; apply Exists.intro; refine ⟨?_, ?_⟩; (focus (first | (go_simp; done) | (go_simp; rfl))); (clear st; intro b7 w hb st; clear hb))
                | ((with_reducible refine wl_buildSlice ?_ (fun K hK => ?_)); rfl; refine owp_buildSlice (o := ⟨some 61, _, _, _, _, _⟩) rfl st ?_; apply Exists.intro; apply Exists.intro; apply Exists.intro; apply Exists.intro; refine ⟨?_, ?_⟩; (focus (go_simp; (first | done | exact ⟨⟨rfl, rfl⟩, rfl⟩ | rfl))); (clear st; intro b61 w hb st; clear hb))); (try simp only [nsl, Value.cells, unB] at st); (try clear hc); have hc := st.facts; (try simp only [nfl, nft, Nat.reduceAdd] at hc))
          (try simp only [Exit.inBlock, Exit.then])
          refine bodyPost_cell rfl rfl (st.blk (i := 2) get2) Try.underlying26 rfl (by kernel_rfl) rfl ?_
          have st2 := st.rowToFl (α := Fm) (i := 4) get4
          have st3 := (st2.mkFm (i := 4) (j := 5) get4 get5 3 0 ([], []) vc HCC.out).keep [0, 1, 6] (by decide) (by simp)
          rw [← HLE.out]
          exact fmGot (.mk 3 0 ([], []) va n vc gs) rfl (by rw [strip_mk, HE.out]) (by simpa [pick] using st3)
  · have HNR := Lib.hid h1
    obtain ⟨kq, rfl⟩ : ∃ q : Nat, k = q := ⟨k.toNat, by omega⟩
    have hnn : n < 9223372036854775808 := by omega
    have HRN : Hid (rdNumber 8 (numB n ++ (bytesL kids ++ ys)) = .ok (n, bytesL kids ++ ys)) := Lib.hid (rdNumber_put 8 n _ h2 (by decide))
    have HRK : Hid (rdNumber 8 (numB kq ++ (numB n ++ (bytesL kids ++ ys))) = .ok (kq, numB n ++ (bytesL kids ++ ys))) := Lib.hid (rdNumber_put 8 kq _ (by omega) (by decide))
    rw [HN.out.symm] at st
    have HRD : Hid (rdNumber 9223372036854775807 (numB 4 ++ (numB kq ++ (numB n ++ (bytesL kids ++ ys)))) = .ok (4, numB kq ++ (numB n ++ (bytesL kids ++ ys)))) := Lib.hid (rdNumber_put 9223372036854775807 4 _ (by decide) (by decide))
    rw [if_neg (by decide), if_pos rfl, show (4 : Int).toNat = 4 from rfl, Int.toNat_natCast, List.append_assoc, List.append_assoc, List.append_assoc] at st
    have st' := st
    rw [show bytesL kids = bytesL (kids.drop 0) from rfl] at st' HRN HRD HRK
    clear st
    have st := st'
    clear st' h1 hk0 hkq
    generalize hx2 : numB n ++ (bytesL (kids.drop 0) ++ ys) = x2 at *
    generalize hx1 : numB kq ++ x2 = x1 at *
    generalize hx0 : numB 4 ++ x1 = x0 at *
    clear hx2 hx1 hx0
    (try simp only [nsl, Value.cells, unB] at st)
    (try clear hc); have hc := st.facts; (try simp only [nfl, nft, Nat.reduceAdd] at hc)
    go_enter Try.func80, Try.ntmps80
    go_wp2_with ((first
          | ((with_reducible refine wl_alloc ?_ (fun K hK => ?_)); rfl; refine owp_alloc (o := ⟨some 6, _, _, _, _, _⟩) rfl st ?_; apply Exists.intro; apply Exists.intro; refine ⟨?_, ?_⟩; (focus (first | (go_simp; done) | (go_simp; rfl))); (clear st; intro b6 w hb st; clear hb))
          | ((with_reducible refine wl_store ?_ (fun K hK => ?_)); rfl; refine owp_store rfl st ?_; apply Exists.intro; apply Exists.intro; refine ⟨?_, ?_, ?_⟩; (focus (go_simp; try rfl)); (focus (go_simp; try rfl)); (first | (with_reducible refine ⟨0, _, _, _, _, get0, rfl, rfl, ?_, ?_, ?_, ?_⟩) | (with_reducible refine ⟨1, _, _, _, _, get1, rfl, rfl, ?_, ?_, ?_, ?_⟩) | (with_reducible refine ⟨2, _, _, _, _, get2, rfl, rfl, ?_, ?_, ?_, ?_⟩) | (with_reducible refine ⟨3, _, _, _, _, get3, rfl, rfl, ?_, ?_, ?_, ?_⟩) | (with_reducible refine ⟨4, _, _, _, _, get4, rfl, rfl, ?_, ?_, ?_, ?_⟩) | (with_reducible refine ⟨5, _, _, _, _, get5, rfl, rfl, ?_, ?_, ?_, ?_⟩) | (with_reducible refine ⟨6, _, _, _, _, get6, rfl, rfl, ?_, ?_, ?_, ?_⟩)); (kernel_rfl); (simp [Value.cells]); (rfl); (clear st; intro w st))
          | ((with_reducible refine wl_alloc ?_ (fun K hK => ?_)); rfl; refine owp_alloc (o := ⟨some 7, _, _, _, _, _⟩) rfl st ?_; apply Exists.intro; apply Exists.intro; refine ⟨?_, ?_⟩; (focus (first | (go_simp; done) | (go_simp; rfl))); (clear st; intro b7 w hb st; clear hb))
          | ((with_reducible refine wl_buildSlice ?_ (fun K hK => ?_)); rfl; refine owp_buildSlice (o := ⟨some 61, _, _, _, _, _⟩) rfl st ?_; apply Exists.intro; apply Exists.intro; apply Exists.intro; apply Exists.intro; refine ⟨?_, ?_⟩; (focus (go_simp; (first | done | exact ⟨⟨rfl, rfl⟩, rfl⟩ | rfl))); (clear st; intro b61 w hb st; clear hb))); (try simp only [nsl, Value.cells, unB] at st); (try clear hc); have hc := st.facts; (try simp only [nfl, nft, Nat.reduceAdd] at hc))
    obtain ⟨fr', al', st', back⟩ := st.sub [0] (by decide) (by simp)
    (try simp only [nsl, Value.cells, unB] at st')
    refine (number_c st' 9223372036854775807).mono ?_
    clear st'
    intro en w hen
    unfold RdC at hen
    rw [HRD.out] at hen
    obtain ⟨v, M, rfl, ⟨rfl, rfl⟩, st'⟩ := hen
    replace st := back _ _ (by simp) st'
    clear back st'
    (try simp only [nsl, Value.cells, unB] at st)
    (try clear hc); have hc := st.facts; (try simp only [nfl, nft, Nat.reduceAdd] at hc)
    go_wp2_with ((first
          | ((with_reducible refine wl_alloc ?_ (fun K hK => ?_)); rfl; refine owp_alloc (o := ⟨some 6, _, _, _, _, _⟩) rfl st ?_; apply Exists.intro; apply Exists.intro; refine ⟨?_, ?_⟩; (focus (first | (go_simp; done) | (go_simp; rfl))); (clear st; intro b6 w hb st; clear hb))
          | ((with_reducible refine wl_store ?_ (fun K hK => ?_)); rfl; refine owp_store rfl st ?_; apply Exists.intro; apply Exists.intro; refine ⟨?_, ?_, ?_⟩; (focus (go_simp; try rfl)); (focus (go_simp; try rfl)); (first | (with_reducible refine ⟨0, _, _, _, _, get0, rfl, rfl, ?_, ?_, ?_, ?_⟩) | (with_reducible refine ⟨1, _, _, _, _, get1, rfl, rfl, ?_, ?_, ?_, ?_⟩) | (with_reducible refine ⟨2, _, _, _, _, get2, rfl, rfl, ?_, ?_, ?_, ?_⟩) | (with_reducible refine ⟨3, _, _, _, _, get3, rfl, rfl, ?_, ?_, ?_, ?_⟩) | (with_reducible refine ⟨4, _, _, _, _, get4, rfl, rfl, ?_, ?_, ?_, ?_⟩) | (with_reducible refine ⟨5, _, _, _, _, get5, rfl, rfl, ?_, ?_, ?_, ?_⟩) | (with_reducible refine ⟨6, _, _, _, _, get6, rfl, rfl, ?_, ?_, ?_, ?_⟩)); (kernel_rfl); (simp [Value.cells]); (rfl); (clear st; intro w st))
          | ((with_reducible refine wl_alloc ?_ (fun K hK => ?_)); rfl; refine owp_alloc (o := ⟨some 7, _, _, _, _, _⟩) rfl st ?_; apply Exists.intro; apply Exists.intro; refine ⟨?_, ?_⟩; (focus (first | (go_simp; done) | (go_simp; rfl))); (clear st; intro b7 w hb st; clear hb))
          | ((with_reducible refine wl_buildSlice ?_ (fun K hK => ?_)); rfl; refine owp_buildSlice (o := ⟨some 61, _, _, _, _, _⟩) rfl st ?_; apply Exists.intro; apply Exists.intro; apply Exists.intro; apply Exists.intro; refine ⟨?_, ?_⟩; (focus (go_simp; (first | done | exact ⟨⟨rfl, rfl⟩, rfl⟩ | rfl))); (clear st; intro b61 w hb st; clear hb))); (try simp only [nsl, Value.cells, unB] at st); (try clear hc); have hc := st.facts; (try simp only [nfl, nft, Nat.reduceAdd] at hc))
    obtain ⟨fr', al', st', back⟩ := st.sub [0] (by decide) (by simp)
    (try simp only [nsl, Value.cells, unB] at st')
    refine (number_c st' 8).mono ?_
    clear st'
    intro en w hen
    unfold RdC at hen
    rw [HRK.out] at hen
    obtain ⟨v, M, rfl, ⟨rfl, rfl⟩, st'⟩ := hen
    replace st := back _ _ (by simp) st'
    clear back st'
    (try simp only [nsl, Value.cells, unB] at st)
    (try clear hc); have hc := st.facts; (try simp only [nfl, nft, Nat.reduceAdd] at hc)
    go_wp2_with ((first
          | ((with_reducible refine wl_alloc ?_ (fun K hK => ?_)); rfl; refine owp_alloc (o := ⟨some 6, _, _, _, _, _⟩) rfl st ?_; apply Exists.intro; apply Exists.intro; refine ⟨?_, ?_⟩; (focus (first | (go_simp; done) | (go_simp; rfl))); (clear st; intro b6 w hb st; clear hb))
          | ((with_reducible refine wl_store ?_ (fun K hK => ?_)); rfl; refine owp_store rfl st ?_; apply Exists.intro; apply Exists.intro; refine ⟨?_, ?_, ?_⟩; (focus (go_simp; try rfl)); (focus (go_simp; try rfl)); (first | (with_reducible refine ⟨0, _, _, _, _, get0, rfl, rfl, ?_, ?_, ?_, ?_⟩) | (with_reducible refine ⟨1, _, _, _, _, get1, rfl, rfl, ?_, ?_, ?_, ?_⟩) | (with_reducible refine ⟨2, _, _, _, _, get2, rfl, rfl, ?_, ?_, ?_, ?_⟩) | (with_reducible refine ⟨3, _, _, _, _, get3, rfl, rfl, ?_, ?_, ?_, ?_⟩) | (with_reducible refine ⟨4, _, _, _, _, get4, rfl, rfl, ?_, ?_, ?_, ?_⟩) | (with_reducible refine ⟨5, _, _, _, _, get5, rfl, rfl, ?_, ?_, ?_, ?_⟩) | (with_reducible refine ⟨6, _, _, _, _, get6, rfl, rfl, ?_, ?_, ?_, ?_⟩)); (kernel_rfl); (simp [Value.cells]); (rfl); (clear st; intro w st))
          | ((with_reducible refine wl_alloc ?_ (fun K hK => ?_)); rfl; refine owp_alloc (o := ⟨some 7, _, _, _, _, _⟩) rfl st ?_; apply Exists.intro; apply Exists.intro; refine ⟨?_, ?_⟩; (focus (first | (go_simp; done) | (go_simp; rfl))); (clear st; intro b7 w hb st; clear hb))
          | ((with_reducible refine wl_buildSlice ?_ (fun K hK => ?_)); rfl; refine owp_buildSlice (o := ⟨some 61, _, _, _, _, _⟩) rfl st ?_; apply Exists.intro; apply Exists.intro; apply Exists.intro; apply Exists.intro; refine ⟨?_, ?_⟩; (focus (go_simp; (first | done | exact ⟨⟨rfl, rfl⟩, rfl⟩ | rfl))); (clear st; intro b61 w hb st; clear hb))); (try simp only [nsl, Value.cells, unB] at st); (try clear hc); have hc := st.facts; (try simp only [nfl, nft, Nat.reduceAdd] at hc))
    obtain ⟨fr', al', st', back⟩ := st.sub [0] (by decide) (by simp)
    (try simp only [nsl, Value.cells, unB] at st')
    refine (number_c st' 8).mono ?_
    clear st'
    intro en w hen
    unfold RdC at hen
    rw [HRN.out] at hen
    obtain ⟨v, M, rfl, ⟨rfl, rfl⟩, st'⟩ := hen
    replace st := back _ _ (by simp) st'
    clear back st'
    (try simp only [nsl, Value.cells, unB] at st)
    (try clear hc); have hc := st.facts; (try simp only [nfl, nft, Nat.reduceAdd] at hc)
    go_wp2_with ((first
          | ((with_reducible refine wl_alloc ?_ (fun K hK => ?_)); rfl; refine owp_alloc (o := ⟨some 6, _, _, _, _, _⟩) rfl st ?_; apply Exists.intro; apply Exists.intro; refine ⟨?_, ?_⟩; (focus (first | (go_simp; done) | (go_simp; rfl))); (clear st; intro b6 w hb st; clear hb))
          | ((with_reducible refine wl_store ?_ (fun K hK => ?_)); rfl; refine owp_store rfl st ?_; apply Exists.intro; apply Exists.intro; refine ⟨?_, ?_, ?_⟩; (focus (go_simp; try rfl)); (focus (go_simp; try rfl)); (first | (with_reducible refine ⟨0, _, _, _, _, get0, rfl, rfl, ?_, ?_, ?_, ?_⟩) | (with_reducible refine ⟨1, _, _, _, _, get1, rfl, rfl, ?_, ?_, ?_, ?_⟩) | (with_reducible refine ⟨2, _, _, _, _, get2, rfl, rfl, ?_, ?_, ?_, ?_⟩) | (with_reducible refine ⟨3, _, _, _, _, get3, rfl, rfl, ?_, ?_, ?_, ?_⟩) | (with_reducible refine ⟨4, _, _, _, _, get4, rfl, rfl, ?_, ?_, ?_, ?_⟩) | (with_reducible refine ⟨5, _, _, _, _, get5, rfl, rfl, ?_, ?_, ?_, ?_⟩) | (with_reducible refine ⟨6, _, _, _, _, get6, rfl, rfl, ?_, ?_, ?_, ?_⟩)); (kernel_rfl); (simp [Value.cells]); (rfl); (clear st; intro w st))
          | ((with_reducible refine wl_alloc ?_ (fun K hK => ?_)); rfl; refine owp_alloc (o := ⟨some 7, _, _, _, _, _⟩) rfl st ?_; apply Exists.intro; apply Exists.intro; refine ⟨?_, ?_⟩; (focus (first | (go_simp; done) | (go_simp; rfl))); (clear st; intro b7 w hb st; clear hb))
          | ((with_reducible refine wl_buildSlice ?_ (fun K hK => ?_)); rfl; refine owp_buildSlice (o := ⟨some 61, _, _, _, _, _⟩) rfl st ?_; apply Exists.intro; apply Exists.intro; apply Exists.intro; apply Exists.intro; refine ⟨?_, ?_⟩; (focus (go_simp; (first | done | exact ⟨⟨rfl, rfl⟩, rfl⟩ | rfl))); (clear st; intro b61 w hb st; clear hb))); (try simp only [nsl, Value.cells, unB] at st); (try clear hc); have hc := st.facts; (try simp only [nfl, nft, Nat.reduceAdd] at hc))
    replace st := (st.row_nil 26 5).noFms
    simp only [List.cons_append, List.nil_append] at st
    (try simp only [nsl, Value.cells, unB] at st)
    (try clear hc); have hc := st.facts; (try simp only [nfl, nft, Nat.reduceAdd] at hc)
    go_loopg [52] n (fun q i wr => ∃ (j : Nat) (gs : List Fm) (va : Option Addr) (vc : Nat) (lf : Int), j ≤ n ∧ q = n - j ∧ i = .int .i64 (j : Int) ∧ (-1000 ≤ lf ∧ lf ≤ 1000) ∧ Hid (lf = left - 1 - (nodesL (kids.take j) : Nat)) ∧ Hid (gs.map Fm.strip = kids.take j) ∧ Own fr al W [rdI r (bytesL (kids.drop j) ++ ys), blkI b [.int .i64 lf], blkI b6 [.int .i64 0, .int .i64 0, .string ⟨#[]⟩, .string ⟨#[]⟩, .slice none 0 0], blkI b7 [.int .i64 4, .int .i64 (kq : Int), .string ⟨#[]⟩, .string ⟨#[]⟩, .slice va j vc], rowI 26 5 (.slice va j vc) j (cellsL gs), fmsI gs] wr)
    case atStart => exact ⟨0, [], none, 0, left - 1, by omega, by omega, rfl, by omega, Lib.hid (by simp [nodesL]), Lib.hid (by simp), by simpa [cellsL] using st⟩
    case round =>
      obtain ⟨j, gs, va, vc, lf, hj, rfl, rfl, hlf, HLF, HGS, st'⟩ := hrel
      clear st hc
      have st := st'
      clear st'
      by_cases hjn : j < n
      · have hjl : j < kids.length := by have := HN.out; omega
        have hsn : kids.take (j + 1) = kids.take j ++ [kids[j]] := (List.take_append_getElem hjl).symm
        have hdr : kids.drop j = kids[j] :: kids.drop (j + 1) := List.drop_eq_getElem_cons hjl
        have hnn : nodesL (kids.take (j + 1)) = nodesL (kids.take j) + kids[j].nodes := by rw [hsn, nodesL_snoc]
        have hle := nodesL_take kids (j + 1)
        have hdd := deepL_mem kids kids[j] (List.getElem_mem hjl)
        have hih := HI.out _ (List.getElem_mem hjl)
        have hwk := HWK.out _ (List.getElem_mem hjl)
        have hsz := HS.out
        have hdp := HD.out
        have hyl := HYL.out
        have hbl2 := bytesL_drop_len kids j
        rw [hdr, bytesL, List.length_append] at hbl2
        generalize kids[j] = x at *
        have HC := Lib.hid (fun (fr al : Nat → Prop) (W : World) (st : Own fr al W [rdI r (x.bytes ++ (bytesL (kids.drop (j + 1)) ++ ys)), blkI b [.int .i64 lf]] W) => hih fr al W r b lf (deep - 1) (bytesL (kids.drop (j + 1)) ++ ys) st hwk (by have := HLF.out; omega) (by have := HLF.out; omega) (by omega) (by omega) (by rw [List.length_append]; omega))
        have HLF2 : Hid (lf - (x.nodes : Nat) = left - 1 - (nodesL (kids.take (j + 1)) : Nat)) := Lib.hid (by rw [hnn, HLF.out]; omega)
        have HB2 : Hid (bytesL (kids.drop j) ++ ys = x.bytes ++ (bytesL (kids.drop (j + 1)) ++ ys)) := Lib.hid (by rw [hdr, bytesL, List.append_assoc])
        have HGS2 : Hid (∀ g : Fm, g.strip = x → (gs ++ [g]).map Fm.strip = kids.take (j + 1)) := Lib.hid (fun g hg => by rw [hsn, List.map_append, HGS.out, List.map_cons, List.map_nil, hg])
        have hxn : x.nodes ≤ 64 := by omega
        rw [HB2.out] at st
        obtain ⟨xn, hxe⟩ : ∃ v, x.nodes = v := ⟨_, rfl⟩
        rw [hxe] at HC HLF2 hxn
        obtain ⟨rest, hrest⟩ : ∃ r, bytesL (kids.drop (j + 1)) ++ ys = r := ⟨_, rfl⟩
        have hlf2 : 0 ≤ lf - (xn : Nat) ∧ lf - (xn : Nat) ≤ 1000 := by have := HLF.out; omega
        rw [hrest] at HC st
        have HREST := Lib.hid hrest
        generalize x.bytes = xb at *
        clear hrest hsn hdr hnn hle hdd hih hwk hsz hdp hyl hjl hxe hbl2 HB2
        have hd1 : IntKind.i64.wrap (deep - 1) = deep - 1 := IntWalk.i64_in _ ⟨by omega, by omega⟩
        (try simp only [nsl, Value.cells, unB] at st)
        (try clear hc); have hc := st.facts; (try simp only [nfl, nft, Nat.reduceAdd] at hc)
        go_wp2_with ((first
              | ((with_reducible refine wl_alloc ?_ (fun K hK => ?_)); rfl; refine owp_alloc (o := ⟨some 6, _, _, _, _, _⟩) rfl st ?_; apply Exists.intro; apply Exists.intro; refine ⟨?_, ?_⟩; (focus (first | (go_simp; done) | (go_simp; rfl))); (clear st; intro b6 w hb st; clear hb))
              | ((with_reducible refine wl_store ?_ (fun K hK => ?_)); rfl; refine owp_store rfl st ?_; apply Exists.intro; apply Exists.intro; refine ⟨?_, ?_, ?_⟩; (focus (go_simp; try rfl)); (focus (go_simp; try rfl)); (first | (with_reducible refine ⟨0, _, _, _, _, get0, rfl, rfl, ?_, ?_, ?_, ?_⟩) | (with_reducible refine ⟨1, _, _, _, _, get1, rfl, rfl, ?_, ?_, ?_, ?_⟩) | (with_reducible refine ⟨2, _, _, _, _, get2, rfl, rfl, ?_, ?_, ?_, ?_⟩) | (with_reducible refine ⟨3, _, _, _, _, get3, rfl, rfl, ?_, ?_, ?_, ?_⟩) | (with_reducible refine ⟨4, _, _, _, _, get4, rfl, rfl, ?_, ?_, ?_, ?_⟩) | (with_reducible refine ⟨5, _, _, _, _, get5, rfl, rfl, ?_, ?_, ?_, ?_⟩) | (with_reducible refine ⟨6, _, _, _, _, get6, rfl, rfl, ?_, ?_, ?_, ?_⟩)); (kernel_rfl); (simp [Value.cells]); (rfl); (clear st; intro w st))
              | ((with_reducible refine wl_alloc ?_ (fun K hK => ?_)); rfl; refine owp_alloc (o := ⟨some 7, _, _, _, _, _⟩) rfl st ?_; apply Exists.intro; apply Exists.intro; refine ⟨?_, ?_⟩; (focus (first | (go_simp; done) | (go_simp; rfl))); (clear st; intro b7 w hb st; clear hb))
              | ((with_reducible refine wl_buildSlice ?_ (fun K hK => ?_)); rfl; refine owp_buildSlice (o := ⟨some 61, _, _, _, _, _⟩) rfl st ?_; apply Exists.intro; apply Exists.intro; apply Exists.intro; apply Exists.intro; refine ⟨?_, ?_⟩; (focus (go_simp; (first | done | exact ⟨⟨rfl, rfl⟩, rfl⟩ | rfl))); (clear st; intro b61 w hb st; clear hb))); (try simp only [nsl, Value.cells, unB] at st); (try clear hc); have hc := st.facts; (try simp only [nfl, nft, Nat.reduceAdd] at hc))
        refine Rg4.wp_region6_eq #[0, 1, 0, 0, 0, 16, 60, 124, 255, 511, 1023] [1, 6, 7, 8, 10] [] (fun _ => True) [0, 2, 3, 4, 5] 1 6 7 [8, 9, 10] (by kernel_rfl) (by rfl) (by rfl) (by rfl) (by rfl) (by rfl) (by kernel_rfl) (by kernel_rfl) (by kernel_rfl) (show Rg4.PB _ by repeat (first | with_reducible exact Rg4.pb_body | with_reducible exact Rg4.pb_bodyD rfl | with_reducible refine Rg4.pb_then ?_ | with_reducible refine Rg4.pb_inBlock ?_ | with_reducible refine Rg4.pb_noGoto ?_)) trivial ?_
        replace st := st.drew
        change Rg4.wp5 _ _ _ _ _ _ _ _ _ _ (World.drew _) _ _
        generalize World.drew _ = w at st ⊢
        (try clear hc); have hc := st.facts; (try simp only [nfl, nft, Nat.reduceAdd] at hc)
        iterate 5 (refine Rg4.w5_any (Rg4.want_none rfl) rfl ?_; apply Exists.intro; refine ⟨fun w' => ?_, ?_⟩; (focus (first | (go_simp; done) | (go_simp; first | rfl | (rw [if_neg] <;> first | rfl | omega) | (rw [if_pos] <;> first | rfl | omega)))); (try simp only [Rg4.nrm]))
        refine Rg4.w5_end ?_
        refine Rg4.tree_load' (show Rg4.PB _ by repeat (first | with_reducible exact Rg4.pb_body | with_reducible exact Rg4.pb_bodyD rfl | with_reducible refine Rg4.pb_then ?_ | with_reducible refine Rg4.pb_inBlock ?_ | with_reducible refine Rg4.pb_noGoto ?_)) (fun W' => Blk W' b7 [.int .i64 4, .int .i64 (kq : Int), .string ⟨#[]⟩, .string ⟨#[]⟩, .slice va j vc]) (by rfl) (by rfl) rfl rfl rfl rfl rfl rfl (by kernel_rfl) (by kernel_rfl) nofun nofun nofun (fun _ => trivial) (st.blk (i := 3) get3) ?_
        apply Exists.intro; refine ⟨fun w' hcl => ?_, ?_⟩; (focus (have q4 := Blk.cell hcl 4; (try simp at q4); (focus (first | (go_simp; done) | (go_simp; first | rfl | (rw [if_neg] <;> first | rfl | omega) | (rw [if_pos] <;> first | rfl | omega)))))); (try simp only [Rg4.nrm])
        intro K hK
        go_wp2_with fail
        obtain ⟨fr', al', st', back⟩ := st.sub [0, 1] (by decide) (by simp)
        (try simp only [nsl, Value.cells, unB] at st')
        refine (HC.out _ _ _ st').mono ?_
        clear st'
        rintro en w ⟨g, rfl, hg, st'⟩
        replace st := back _ _ (by simp) st'
        clear back st'
        (try simp only [nsl, Value.cells, unB] at st)
        (try clear hc); have hc := st.facts; (try simp only [nfl, nft, Nat.reduceAdd] at hc)
        have HG2 := Lib.hid (HGS2.out g hg)
        clear hg
        replace st := st.fmsMore (i := 5) (j := 6) get5 get6
        have st9 := st.keep [0, 1, 2, 3, 4, 7] (by decide) (by simp)
        simp only [pick, List.map_cons, List.map_nil, List.getElem?_cons_zero, List.getElem?_cons_succ, Option.getD_some, List.cons_append, List.nil_append] at st9
        clear st
        have st := st9
        clear st9
        obtain ⟨op', k', ⟨o', d'⟩, a', n', c', kids'⟩ := g
        unfold fmV S
        simp only
        (try simp only [nsl, Value.cells, unB] at st)
        (try clear hc); have hc := st.facts; (try simp only [nfl, nft, Nat.reduceAdd] at hc)
        refine hK _ _ ⟨st.blk (i := 3) get3, ?_⟩
        clear K hK
        intro K hK
        (try simp only [Rg4.nrm])
        (refine owp_buildSlice (o := ⟨some 61, _, _, _, _, _⟩) rfl st ?_; apply Exists.intro; apply Exists.intro; apply Exists.intro; apply Exists.intro; refine ⟨?_, ?_⟩; (focus (go_simp; (first | done | exact ⟨⟨rfl, rfl⟩, rfl⟩ | rfl))); (clear st; intro b61 w hb st; clear hb); (try simp only [nsl, Value.cells, unB] at st); (try clear hc); have hc := st.facts; (try simp only [nfl, nft, Nat.reduceAdd] at hc))
        refine hK _ _ ⟨st.blk (i := 3) get3, ?_⟩
        clear K hK
        (try simp only [Rg4.nrm])

        refine Rg4.w4_bar (Rg4.want_none rfl) rfl (fun w' hw' hcl _ K hK => ?_)
        subst hw'
        obtain ⟨inf, hinf, hz0, hz1, hz2⟩ := fmInfo
        refine owp_append rfl st 4 get4 Try.underlying24 hinf hz0 hz1 hz2 rfl (by decide) rfl rfl ((st.blk (i := 6) get6).flat rfl) (by simp [Value.oneCell']) (by simp only [maxLen]; omega) (by omega) ?_
        clear hinf hz0 hz1 hz2 inf
        clear st
        intro v' w st
        obtain ⟨va', vc', rfl⟩ := own_slice (st.row (i := 4) get4)
        (try simp only [nsl, Value.cells, unB] at st)
        (try clear hc); have hc := st.facts; (try simp only [nfl, nft, Nat.reduceAdd] at hc)
        refine hK _ _ ⟨trivial, ?_⟩
        clear hK
        (try simp only [Rg4.nrm])
        (refine Rg4.w4_any (Rg4.want_none rfl) rfl ?_; apply Exists.intro; refine ⟨fun w' => ?_, ?_⟩; (focus (first | (go_simp; done) | (go_simp; first | rfl | (rw [if_neg] <;> first | rfl | omega) | (rw [if_pos] <;> first | rfl | omega)))); (try simp only [Rg4.nrm]))
        (refine Rg4.w4_bar (Rg4.want_none rfl) rfl (fun w' hw' hcl' _ K hK => ?_); subst hw'; (refine owp_store rfl st ?_; apply Exists.intro; apply Exists.intro; refine ⟨?_, ?_, ?_⟩; (focus (go_simp; try rfl)); (focus (go_simp; try rfl)); (first | (with_reducible refine ⟨0, _, _, _, _, get0, rfl, rfl, ?_, ?_, ?_, ?_⟩) | (with_reducible refine ⟨1, _, _, _, _, get1, rfl, rfl, ?_, ?_, ?_, ?_⟩) | (with_reducible refine ⟨2, _, _, _, _, get2, rfl, rfl, ?_, ?_, ?_, ?_⟩) | (with_reducible refine ⟨3, _, _, _, _, get3, rfl, rfl, ?_, ?_, ?_, ?_⟩) | (with_reducible refine ⟨4, _, _, _, _, get4, rfl, rfl, ?_, ?_, ?_, ?_⟩) | (with_reducible refine ⟨5, _, _, _, _, get5, rfl, rfl, ?_, ?_, ?_, ?_⟩) | (with_reducible refine ⟨6, _, _, _, _, get6, rfl, rfl, ?_, ?_, ?_, ?_⟩)); (kernel_rfl); (simp [Value.cells]); (rfl); (clear st; intro w st); (try simp only [nsl, Value.cells, unB] at st); (try clear hc); have hc := st.facts; (try simp only [nfl, nft, Nat.reduceAdd] at hc)); refine hK _ _ ⟨trivial, ?_⟩; (try simp only [Rg4.nrm]))
        refine Rg4.w4_nil (fun w' hw' hcl' _ => ?_); subst hw'; clear hcl'
        go_wp2_with fail
        have st' := st.keep [0, 1, 2, 3, 4, 5] (by decide) (by simp)
        go_roundg (n - (j + 1))
        case measure => omega
        case rel =>
          refine ⟨j + 1, gs ++ [.mk op' k' (o', d') a' n' c' kids'], va', vc', lf - (xn : Nat), by omega, by omega, by go_num, ⟨by omega, by omega⟩, HLF2, HG2, ?_⟩
          rw [cellsL_append, cellsL_one', HREST.out]
          simpa [pick, Flt.cells, fmC, S] using st'
      · obtain rfl : n = j := by omega
        have HE : Hid (gs.map Fm.strip = kids) := Lib.hid (by rw [HGS.out, List.take_of_length_le (by have := HN.out; omega)])
        have HLE : Hid (lf = left - ((Fo.mk 4 (kq : Int) ([], []) kids).nodes : Nat)) := Lib.hid (by rw [HLF.out, List.take_of_length_le (by have := HN.out; omega), Fo.nodes]; omega)
        have HD2 : Hid (bytesL (kids.drop n) ++ ys = ys) := Lib.hid (by rw [List.drop_of_length_le (by have := HN.out; omega)]; rfl)
        have HND := Lib.hid (fun W => HNR.out ▸ fmNode_any 4 (kq : Int) [] [] va n vc W (by simp) (by simp))
        rw [HD2.out] at st
        have hcc := (st.rowFl2 (α := Fm) (i := 4) get4).1
        have HCC := Lib.hid hcc
        clear hcc
        (try simp only [nsl, Value.cells, unB] at st)
        (try clear hc); have hc := st.facts; (try simp only [nfl, nft, Nat.reduceAdd] at hc)
        go_wp2_with ((first
              | ((with_reducible refine wl_alloc ?_ (fun K hK => ?_)); rfl; refine owp_alloc (o := ⟨some 6, _, _, _, _, _⟩) rfl st ?_; apply Exists.intro; apply Exists.intro; refine ⟨?_, ?_⟩; (focus (first | (go_simp; done) | (go_simp; rfl))); (clear st; intro b6 w hb st; clear hb))
              | ((with_reducible refine wl_store ?_ (fun K hK => ?_)); rfl; refine owp_store rfl st ?_; apply Exists.intro; apply Exists.intro; refine ⟨?_, ?_, ?_⟩; (focus (go_simp; try rfl)); (focus (go_simp; try rfl)); (first | (with_reducible refine ⟨0, _, _, _, _, get0, rfl, rfl, ?_, ?_, ?_, ?_⟩) | (with_reducible refine ⟨1, _, _, _, _, get1, rfl, rfl, ?_, ?_, ?_, ?_⟩) | (with_reducible refine ⟨2, _, _, _, _, get2, rfl, rfl, ?_, ?_, ?_, ?_⟩) | (with_reducible refine ⟨3, _, _, _, _, get3, rfl, rfl, ?_, ?_, ?_, ?_⟩) | (with_reducible refine ⟨4, _, _, _, _, get4, rfl, rfl, ?_, ?_, ?_, ?_⟩) | (with_reducible refine ⟨5, _, _, _, _, get5, rfl, rfl, ?_, ?_, ?_, ?_⟩) | (with_reducible refine ⟨6, _, _, _, _, get6, rfl, rfl, ?_, ?_, ?_, ?_⟩)); (kernel_rfl); (simp [Value.cells]); (rfl); (clear st; intro w st))
              | ((with_reducible refine wl_alloc ?_ (fun K hK => ?_)); rfl; refine owp_alloc (o := ⟨some 7, _, _, _, _, _⟩) rfl st ?_; apply Exists.intro; apply Exists.intro; refine ⟨?_, ?_⟩; (focus (first | (go_simp; done) | (go_simp; rfl))); (clear st; intro b7 w hb st; clear hb))
              | ((with_reducible refine wl_buildSlice ?_ (fun K hK => ?_)); rfl; refine owp_buildSlice (o := ⟨some 61, _, _, _, _, _⟩) rfl st ?_; apply Exists.intro; apply Exists.intro; apply Exists.intro; apply Exists.intro; refine ⟨?_, ?_⟩; (focus (go_simp; (first | done | exact ⟨⟨rfl, rfl⟩, rfl⟩ | rfl))); (clear st; intro b61 w hb st; clear hb))); (try simp only [nsl, Value.cells, unB] at st); (try clear hc); have hc := st.facts; (try simp only [nfl, nft, Nat.reduceAdd] at hc))
        refine (HND.out _).mono ?_
        rintro en w ⟨rfl, hx⟩
        replace st := st.ext hx
        clear hx
        (try clear hc); have hc := st.facts; (try simp only [nfl, nft, Nat.reduceAdd] at hc)
        go_wp2_with ((first
              | ((with_reducible refine wl_alloc ?_ (fun K hK => ?_)); rfl; refine owp_alloc (o := ⟨some 6, _, _, _, _, _⟩) rfl st ?_; apply Exists.intro; apply Exists.intro; refine ⟨?_, ?_⟩; (focus (first | (go_simp; done) | (go_simp; rfl))); (clear st; intro b6 w hb st; clear hb))
              | ((with_reducible refine wl_store ?_ (fun K hK => ?_)); rfl; refine owp_store rfl st ?_; apply Exists.intro; apply Exists.intro; refine ⟨?_, ?_, ?_⟩; (focus (go_simp; try rfl)); (focus (go_simp; try rfl)); (first | (with_reducible refine ⟨0, _, _, _, _, get0, rfl, rfl, ?_, ?_, ?_, ?_⟩) | (with_reducible refine ⟨1, _, _, _, _, get1, rfl, rfl, ?_, ?_, ?_, ?_⟩) | (with_reducible refine ⟨2, _, _, _, _, get2, rfl, rfl, ?_, ?_, ?_, ?_⟩) | (with_reducible refine ⟨3, _, _, _, _, get3, rfl, rfl, ?_, ?_, ?_, ?_⟩) | (with_reducible refine ⟨4, _, _, _, _, get4, rfl, rfl, ?_, ?_, ?_, ?_⟩) | (with_reducible refine ⟨5, _, _, _, _, get5, rfl, rfl, ?_, ?_, ?_, ?_⟩) | (with_reducible refine ⟨6, _, _, _, _, get6, rfl, rfl, ?_, ?_, ?_, ?_⟩)); (kernel_rfl); (simp [Value.cells]); (rfl); (clear st; intro w st))
              | ((with_reducible refine wl_alloc ?_ (fun K hK => ?_)); rfl; refine owp_alloc (o := ⟨some 7, _, _, _, _, _⟩) rfl st ?_; apply Exists.intro; apply Exists.intro; refine ⟨?_, ?_⟩; (focus (first | (go_simp; done) | (go_simp; rfl))); (clear st; intro b7 w hb st; clear hb))
              | ((with_reducible refine wl_buildSlice ?_ (fun K hK => ?_)); rfl; refine owp_buildSlice (o := ⟨some 61, _, _, _, _, _⟩) rfl st ?_; apply Exists.intro; apply Exists.intro; apply Exists.intro; apply Exists.intro; refine ⟨?_, ?_⟩; (focus (go_simp; (first | done | exact ⟨⟨rfl, rfl⟩, rfl⟩ | rfl))); (clear st; intro b61 w hb st; clear hb))); (try simp only [nsl, Value.cells, unB] at st); (try clear hc); have hc := st.facts; (try simp only [nfl, nft, Nat.reduceAdd] at hc))
        (try simp only [Exit.inBlock, Exit.then])
        refine bodyPost_cell rfl rfl (st.blk (i := 2) get2) Try.underlying26 rfl (by kernel_rfl) rfl ?_
        have st2 := st.rowToFl (α := Fm) (i := 4) get4
        have st3 := (st2.mkFm (i := 4) (j := 5) get4 get5 4 (kq : Int) ([], []) vc HCC.out).keep [0, 1, 6] (by decide) (by simp)
        rw [← HLE.out]
        exact fmGot (.mk 4 (kq : Int) ([], []) va n vc gs) rfl (by rw [strip_mk, HE.out]) (by simpa [pick] using st3)
end Go.Proofs.Ythjaopojlhdjpaa

namespace Go.Proofs.Ythjaopojlhdjpaa
set_option linter.unusedSimpArgs false
set_option linter.unusedVariables false
open Go Go.RowKit
end Go.Proofs.Ythjaopojlhdjpaa

namespace Go.Proofs.Ythjaopojlhdjpaa
set_option linter.unusedSimpArgs false
set_option linter.unusedVariables false
open Go Go.RowKit
@[go_sem high] theorem neqNilFunc (F : FuncId) (cs : Array Value) (w : World) : (binOp .neq 39 (.func (.func F) #[] cs) .nilFunc).run Try.prog w = .ok (.bool true) w := by
  have h : ∀ d : Nat, (Op.equalIn (d + 1) 39 (.func (.func F) #[] cs) .nilFunc).run Try.prog w = .ok false w := fun d => by
    simp [Op.equalIn, run_underlying Try.underlying39]
  simp only [binOp]
  simp [Op.equal, Op.maxDepth, h 9999]
theorem atomsL_nodes (l : List Fo) : (atomsL l).length ≤ nodesL l := by
  have := atoms_nodes (.mk 0 0 ([], []) l)
  rw [Fo.atoms, Fo.nodes, if_neg (by decide)] at this
  induction l with
  | nil => simp [atomsL]
  | cons x l ih =>
    have h1 := atoms_nodes x
    have h2 := ih (by
      have := atoms_nodes (.mk 0 0 ([], []) l)
      rw [Fo.atoms, Fo.nodes, if_neg (by decide)] at this
      exact this)
    rw [atomsL, nodesL, List.length_append]
    omega
theorem atomsL_mem : ∀ (l : List Fo) (x : Fo), x ∈ l → ∀ r ∈ x.atoms, r ∈ atomsL l
  | [], x, h, r, hr => by simp at h
  | y :: l, x, h, r, hr => by
    rw [atomsL]
    rcases List.mem_cons.1 h with e | e
    · subst e; exact List.mem_append_left _ hr
    · exact List.mem_append_right _ (atomsL_mem l x e r hr)
/-- A slice of roles, laid anew. -/
def RolesAre (W : World) (l : List Role) (e : Ending) (w' : World) : Prop := ∃ va n vc, e = .returned (.slice va n vc) ∧ Own (fun _ => False) (fun _ => False) W [flI va n l] w'
theorem roleRes {W w : World} {va : Option Addr} {n vc : Nat} {l : List Role} (st : Own (fun _ => False) (fun _ => False) W [flI va n l] w) : RolesAre W l (.returned (.slice va n vc)) w := ⟨va, n, vc, rfl, st⟩
set_option maxRecDepth 100000 in
set_option maxHeartbeats 2000000 in
theorem fmRoles_f (f : Fm) : ∀ (W : World), FmOk W f → f.strip.nodes ≤ 1000000000 →
    Calls Try.prog 92 #[fmV f] W (RolesAre W f.strip.atoms) := by
  induction f using Fm.ind
  rename_i op k r a n c kids ih
  intro W hok hs
  obtain ⟨o, d⟩ := r
  rw [strip_mk] at *
  rw [Fo.nodes] at hs
  rw [Fo.atoms]
  have st := Own.start (fun _ => False) (fun _ => False) W
  unfold fmV S
  simp only
  by_cases o1 : op = 1
  · subst o1
    rw [if_pos rfl]
    clear hok ih hs
    (try simp only [nsl, Value.cells, unB] at st)
    (try clear hc); have hc := st.facts; (try simp only [nfl, nft, Nat.reduceAdd] at hc)
    go_enter Try.func92, Try.ntmps92
    go_wp2_with ((first
          | ((with_reducible refine wl_box ?_ (fun K hK => ?_)); rfl; refine owp_box (o := ⟨some 1, _, _, _, _, _⟩) rfl st ?_; apply Exists.intro; refine ⟨?_, ?_⟩; (focus (go_simp; try rfl)); (clear st; intro b1 w hb st; clear hb))
          | ((with_reducible refine wl_buildSlice ?_ (fun K hK => ?_)); rfl; refine owp_buildSlice (o := ⟨some 11, _, _, _, _, _⟩) rfl st ?_; apply Exists.intro; apply Exists.intro; apply Exists.intro; apply Exists.intro; refine ⟨?_, ?_⟩; (focus (go_simp; (first | done | exact ⟨⟨rfl, rfl⟩, rfl⟩ | rfl))); (clear st; intro b11 w hb st; clear hb))
          | ((with_reducible refine wl_alloc ?_ (fun K hK => ?_)); rfl; refine owp_alloc (o := ⟨some 5, _, _, _, _, _⟩) rfl st ?_; apply Exists.intro; apply Exists.intro; refine ⟨?_, ?_⟩; (focus (first | (go_simp; done) | (go_simp; rfl))); (clear st; intro b5 w hb st; clear hb))
          | ((with_reducible refine wl_store ?_ (fun K hK => ?_)); rfl; refine owp_store rfl st ?_; apply Exists.intro; apply Exists.intro; refine ⟨?_, ?_, ?_⟩; (focus (go_simp; try rfl)); (focus (go_simp; try rfl)); (first | (with_reducible refine ⟨0, _, _, _, _, get0, rfl, rfl, ?_, ?_, ?_, ?_⟩) | (with_reducible refine ⟨1, _, _, _, _, get1, rfl, rfl, ?_, ?_, ?_, ?_⟩) | (with_reducible refine ⟨2, _, _, _, _, get2, rfl, rfl, ?_, ?_, ?_, ?_⟩) | (with_reducible refine ⟨3, _, _, _, _, get3, rfl, rfl, ?_, ?_, ?_, ?_⟩) | (with_reducible refine ⟨4, _, _, _, _, get4, rfl, rfl, ?_, ?_, ?_, ?_⟩)); (kernel_rfl); (simp [Value.cells]); (rfl); (clear st; intro w st))); (try simp only [nsl, Value.cells, unB] at st); (try clear hc); have hc := st.facts; (try simp only [nfl, nft, Nat.reduceAdd] at hc))
    go_ret
    have st2 := st.keep [1] (by decide) (by simp)
    simp only [pick, List.map_cons, List.map_nil, List.getElem?_cons_zero, List.getElem?_cons_succ, Option.getD_some] at st2
    have st' := st2.blkToFl (i := 0) (n := 1) ([(o, d)] : List Role) get0 rfl rfl
    exact roleRes st' 
  · rw [if_neg o1]
    have hob : (op == 1) = false := by simpa using o1
    have HOK := Lib.hid hok
    have HI := Lib.hid ih
    have HN : Hid (n = kids.length) := Lib.hid hok.fl.1
    have hn : n ≤ 1000000000 := by have := nodesL_len (kids.map Fm.strip); rw [List.length_map] at this; have := hok.fl.1; omega
    have HS := Lib.hid hs
    clear hok ih hs o1
    (try simp only [nsl, Value.cells, unB] at st)
    (try clear hc); have hc := st.facts; (try simp only [nfl, nft, Nat.reduceAdd] at hc)
    go_enter Try.func92, Try.ntmps92
    go_wp2_with ((first
          | ((with_reducible refine wl_box ?_ (fun K hK => ?_)); rfl; refine owp_box (o := ⟨some 1, _, _, _, _, _⟩) rfl st ?_; apply Exists.intro; refine ⟨?_, ?_⟩; (focus (go_simp; try rfl)); (clear st; intro b1 w hb st; clear hb))
          | ((with_reducible refine wl_buildSlice ?_ (fun K hK => ?_)); rfl; refine owp_buildSlice (o := ⟨some 11, _, _, _, _, _⟩) rfl st ?_; apply Exists.intro; apply Exists.intro; apply Exists.intro; apply Exists.intro; refine ⟨?_, ?_⟩; (focus (go_simp; (first | done | exact ⟨⟨rfl, rfl⟩, rfl⟩ | rfl))); (clear st; intro b11 w hb st; clear hb))
          | ((with_reducible refine wl_alloc ?_ (fun K hK => ?_)); rfl; refine owp_alloc (o := ⟨some 5, _, _, _, _, _⟩) rfl st ?_; apply Exists.intro; apply Exists.intro; refine ⟨?_, ?_⟩; (focus (first | (go_simp; done) | (go_simp; rfl))); (clear st; intro b5 w hb st; clear hb))
          | ((with_reducible refine wl_store ?_ (fun K hK => ?_)); rfl; refine owp_store rfl st ?_; apply Exists.intro; apply Exists.intro; refine ⟨?_, ?_, ?_⟩; (focus (go_simp; try rfl)); (focus (go_simp; try rfl)); (first | (with_reducible refine ⟨0, _, _, _, _, get0, rfl, rfl, ?_, ?_, ?_, ?_⟩) | (with_reducible refine ⟨1, _, _, _, _, get1, rfl, rfl, ?_, ?_, ?_, ?_⟩) | (with_reducible refine ⟨2, _, _, _, _, get2, rfl, rfl, ?_, ?_, ?_, ?_⟩) | (with_reducible refine ⟨3, _, _, _, _, get3, rfl, rfl, ?_, ?_, ?_, ?_⟩) | (with_reducible refine ⟨4, _, _, _, _, get4, rfl, rfl, ?_, ?_, ?_, ?_⟩)); (kernel_rfl); (simp [Value.cells]); (rfl); (clear st; intro w st))); (try simp only [nsl, Value.cells, unB] at st); (try clear hc); have hc := st.facts; (try simp only [nfl, nft, Nat.reduceAdd] at hc))
    have st9 := (st.keep [0] (by decide) (by simp)).row_nil 23 2
    clear st
    have st := st9
    clear st9
    simp only [pick, List.map_cons, List.map_nil, List.getElem?_cons_zero, List.getElem?_cons_succ, Option.getD_some, List.cons_append, List.nil_append] at st
    go_loopg [3, 15] n (fun q ov i wr => ∃ (j r : Nat) (xs : List Role), j ≤ n ∧ q = n - j ∧ i = .int .i64 (j : Int) ∧ r ≤ 1000000000 ∧ Hid (xs = atomsL ((kids.take j).map Fm.strip)) ∧ Hid (r = xs.length) ∧ Own (fun _ => False) (fun _ => False) W [blkI b1 [.int .i64 op, .int .i64 k, .string ⟨o.toArray⟩, .string ⟨d.toArray⟩, .slice a n c], rowI 23 2 ov r (cellsL xs)] wr)
    case atStart => exact ⟨0, 0, [], by omega, by omega, rfl, by omega, Lib.hid (by simp [atomsL]), Lib.hid rfl, by simpa [cellsL] using st⟩
    case round =>
      obtain ⟨j, r, xs, hj, rfl, rfl, hr, HX, HR, st'⟩ := hrel
      clear st hc
      have st := st'
      clear st'
      obtain ⟨oa, oc, rfl⟩ := own_slice (st.row (i := 1) get1)
      by_cases hjn : j < n
      · obtain ⟨b, off, ha, hcell⟩ := (HOK.out.ext st.ext0).fl.fm (by omega)
        have hjl : j < kids.length := by have := HN.out; omega
        have hsn := map_snoc_strip kids j hjl
        have hle := nodesL_take (kids.map Fm.strip) (j + 1)
        rw [← List.map_take, hsn, nodesL_snoc] at hle
        have hsv := HS.out
        have hok := HOK.out.kids _ (List.getElem_mem hjl)
        have hih := HI.out _ (List.getElem_mem hjl)
        have hgt := List.getElem?_eq_getElem hjl
        generalize kids[j] = x at *
        have HC := Lib.hid (fun W' (hx : Ext W W') => hih W' (hok.ext hx) (by omega))
        obtain ⟨sx, hsx⟩ : ∃ v, x.strip = v := ⟨_, rfl⟩
        rw [hsx] at HC hsn hle
        have hax := atoms_nodes sx
        have hal := atomsL_nodes ((kids.take j).map Fm.strip)
        have HAX : Hid (sx.atoms.length ≤ 1000000000 - r) := Lib.hid (by have := HR.out; rw [HX.out] at this; omega)
        have HX2 : Hid (xs ++ sx.atoms = atomsL ((kids.take (j + 1)).map Fm.strip)) := Lib.hid (by rw [hsn, atomsL_snoc, HX.out])
        generalize sx.atoms = ys at *
        clear hsx hsn hle hsv hih hjl hax hal hok
        obtain ⟨op', k', ⟨o', d'⟩, a', n', c', kids'⟩ := x
        obtain ⟨r0, r1, r2, r3, r4⟩ := hcell j op' k' (o', d') a' n' c' kids' hgt
        unfold fmV S at HC
        simp only at HC
        clear hcell hgt
        subst ha
        unfold S at r2 r3
        simp only at r2 r3
        (try simp only [nsl, Value.cells, unB] at st)
        (try clear hc); have hc := st.facts; (try simp only [nfl, nft, Nat.reduceAdd] at hc)
        go_wp2_with ((first
              | ((with_reducible refine wl_box ?_ (fun K hK => ?_)); rfl; refine owp_box (o := ⟨some 1, _, _, _, _, _⟩) rfl st ?_; apply Exists.intro; refine ⟨?_, ?_⟩; (focus (go_simp; try rfl)); (clear st; intro b1 w hb st; clear hb))
              | ((with_reducible refine wl_buildSlice ?_ (fun K hK => ?_)); rfl; refine owp_buildSlice (o := ⟨some 11, _, _, _, _, _⟩) rfl st ?_; apply Exists.intro; apply Exists.intro; apply Exists.intro; apply Exists.intro; refine ⟨?_, ?_⟩; (focus (go_simp; (first | done | exact ⟨⟨rfl, rfl⟩, rfl⟩ | rfl))); (clear st; intro b11 w hb st; clear hb))
              | ((with_reducible refine wl_alloc ?_ (fun K hK => ?_)); rfl; refine owp_alloc (o := ⟨some 5, _, _, _, _, _⟩) rfl st ?_; apply Exists.intro; apply Exists.intro; refine ⟨?_, ?_⟩; (focus (first | (go_simp; done) | (go_simp; rfl))); (clear st; intro b5 w hb st; clear hb))
              | ((with_reducible refine wl_store ?_ (fun K hK => ?_)); rfl; refine owp_store rfl st ?_; apply Exists.intro; apply Exists.intro; refine ⟨?_, ?_, ?_⟩; (focus (go_simp; try rfl)); (focus (go_simp; try rfl)); (first | (with_reducible refine ⟨0, _, _, _, _, get0, rfl, rfl, ?_, ?_, ?_, ?_⟩) | (with_reducible refine ⟨1, _, _, _, _, get1, rfl, rfl, ?_, ?_, ?_, ?_⟩) | (with_reducible refine ⟨2, _, _, _, _, get2, rfl, rfl, ?_, ?_, ?_, ?_⟩) | (with_reducible refine ⟨3, _, _, _, _, get3, rfl, rfl, ?_, ?_, ?_, ?_⟩) | (with_reducible refine ⟨4, _, _, _, _, get4, rfl, rfl, ?_, ?_, ?_, ?_⟩)); (kernel_rfl); (simp [Value.cells]); (rfl); (clear st; intro w st))); (try simp only [nsl, Value.cells, unB] at st); (try clear hc); have hc := st.facts; (try simp only [nfl, nft, Nat.reduceAdd] at hc))
        clear r0 r1 r2 r3 r4
        refine (HC.out _ st.ext0).mono ?_
        rintro en w ⟨va, m, vc, rfl, h2⟩
        have hm := (h2.flAt (i := 0) get0).1
        have hmb : m ≤ 1000000000 - r := by rw [hm]; exact HAX.out
        have HM := Lib.hid hm
        clear hm
        replace st := st.join h2
        clear h2
        simp only [List.cons_append, List.nil_append] at st
        (try simp only [nsl, Value.cells, unB] at st)
        (try clear hc); have hc := st.facts; (try simp only [nfl, nft, Nat.reduceAdd] at hc)
        go_wp2_with (first
            | ((with_reducible refine wl_append ?_ (fun K hK => ?_)); (rfl); (obtain ⟨inf, hinf, hz0, hz1, hz2⟩ := roleInfo); (refine owp_append rfl st 1 get1 Try.underlying37 hinf hz0 hz1 hz2 rfl (by decide) rfl rfl ((st.flAt (i := 3) get3).flat) (by first | exact cellsL_all _ | simp [Value.oneCell']) (by simp only [maxLen]; omega) (by omega) ?_); (clear hinf hz0 hz1 hz2 inf); (clear st; intro v' w st); (obtain ⟨va', vc', rfl⟩ := own_slice (st.row (i := 1) get1)); (try simp only [nsl, Value.cells, unB] at st); (try simp only [Nat.zero_add] at st); (try clear hc); have hc := st.facts; (try simp only [nfl, nft, Nat.reduceAdd] at hc))
            | ((first
              | ((with_reducible refine wl_box ?_ (fun K hK => ?_)); rfl; refine owp_box (o := ⟨some 1, _, _, _, _, _⟩) rfl st ?_; apply Exists.intro; refine ⟨?_, ?_⟩; (focus (go_simp; try rfl)); (clear st; intro b1 w hb st; clear hb))
              | ((with_reducible refine wl_buildSlice ?_ (fun K hK => ?_)); rfl; refine owp_buildSlice (o := ⟨some 11, _, _, _, _, _⟩) rfl st ?_; apply Exists.intro; apply Exists.intro; apply Exists.intro; apply Exists.intro; refine ⟨?_, ?_⟩; (focus (go_simp; (first | done | exact ⟨⟨rfl, rfl⟩, rfl⟩ | rfl))); (clear st; intro b11 w hb st; clear hb))
              | ((with_reducible refine wl_alloc ?_ (fun K hK => ?_)); rfl; refine owp_alloc (o := ⟨some 5, _, _, _, _, _⟩) rfl st ?_; apply Exists.intro; apply Exists.intro; refine ⟨?_, ?_⟩; (focus (first | (go_simp; done) | (go_simp; rfl))); (clear st; intro b5 w hb st; clear hb))
              | ((with_reducible refine wl_store ?_ (fun K hK => ?_)); rfl; refine owp_store rfl st ?_; apply Exists.intro; apply Exists.intro; refine ⟨?_, ?_, ?_⟩; (focus (go_simp; try rfl)); (focus (go_simp; try rfl)); (first | (with_reducible refine ⟨0, _, _, _, _, get0, rfl, rfl, ?_, ?_, ?_, ?_⟩) | (with_reducible refine ⟨1, _, _, _, _, get1, rfl, rfl, ?_, ?_, ?_, ?_⟩) | (with_reducible refine ⟨2, _, _, _, _, get2, rfl, rfl, ?_, ?_, ?_, ?_⟩) | (with_reducible refine ⟨3, _, _, _, _, get3, rfl, rfl, ?_, ?_, ?_, ?_⟩) | (with_reducible refine ⟨4, _, _, _, _, get4, rfl, rfl, ?_, ?_, ?_, ?_⟩)); (kernel_rfl); (simp [Value.cells]); (rfl); (clear st; intro w st))); (try simp only [nsl, Value.cells, unB] at st); (try clear hc); have hc := st.facts; (try simp only [nfl, nft, Nat.reduceAdd] at hc)))
        have st' := st.keep [0, 1] (by decide) (by simp)
        have HR2 : Hid (r + m = (xs ++ ys).length) := Lib.hid (by rw [List.length_append, HR.out, HM.out])
        go_roundg (n - (j + 1))
        case measure => omega
        case rel => exact ⟨j + 1, r + m, xs ++ ys, by omega, by omega, by go_num, by omega, HX2, HR2, by rw [cellsL_append]; simpa [pick] using st'⟩
      · obtain rfl : n = j := by omega
        have HE : Hid (xs = atomsL (kids.map Fm.strip)) := Lib.hid (by rw [HX.out, List.take_of_length_le (by have := HN.out; omega)])
        (try simp only [nsl, Value.cells, unB] at st)
        (try clear hc); have hc := st.facts; (try simp only [nfl, nft, Nat.reduceAdd] at hc)
        go_wp2_with fail
        go_ret
        have st2 := st.keep [1] (by decide) (by simp)
        simp only [pick, List.map_cons, List.map_nil, List.getElem?_cons_zero, List.getElem?_cons_succ, Option.getD_some] at st2
        have st' := st2.rowToFl (α := Role) (i := 0) get0
        rw [← HE.out]
        exact roleRes st' 
set_option maxRecDepth 100000 in
set_option maxHeartbeats 1000000 in
theorem fmAtoms_f (f : Fm) (W : World) (h : FmOk W f) (hs : f.strip.nodes ≤ 1000000) (hl : FoL 100000 f.strip) :
    Calls Try.prog 57 #[fmV f] W fun e w' => ∃ va vc, e = .returned (.slice va (roleSet f.strip.atoms).length vc) ∧ Own (fun _ => False) (fun _ => False) W [rowI 23 2 (.slice va (roleSet f.strip.atoms).length vc) (roleSet f.strip.atoms).length (cellsL (roleSet f.strip.atoms))] w' := by
  have HC := Lib.hid (fun W' (hx : Ext W W') => fmRoles_f f W' (h.ext hx) (by omega))
  have hn := atoms_nodes f.strip
  have HS := Lib.hid (fun a n c W (hf : Fl W a n f.strip.atoms) => roleSet_any a n c f.strip.atoms W hf (by have := hf.1; omega) (fun x hx => hl.atoms x hx))
  generalize f.strip.atoms = xs at *
  generalize roleSet xs = ys at *
  obtain ⟨m, hm⟩ : ∃ m, ys.length = m := ⟨_, rfl⟩
  rw [hm] at HS ⊢
  clear hm hn hl hs
  obtain ⟨op, k, ⟨o, d⟩, a, n, c, kids⟩ := f
  clear h
  have st := Own.start (fun _ => False) (fun _ => False) W
  unfold fmV S at HC ⊢
  simp only at HC ⊢
  (try simp only [nsl, Value.cells, unB] at st)
  (try clear hc); have hc := st.facts; (try simp only [nfl, nft, Nat.reduceAdd] at hc)
  go_enter Try.func57, Try.ntmps57
  go_wp2_with ((((with_reducible refine wl_box ?_ (fun K hK => ?_)); rfl; refine owp_box (o := ⟨some 1, _, _, _, _, _⟩) rfl st ?_; apply Exists.intro; refine ⟨?_, ?_⟩; (focus (go_simp; try rfl)); (clear st; intro b1 w hb st; clear hb))); (try simp only [nsl, Value.cells, unB] at st); (try clear hc); have hc := st.facts; (try simp only [nfl, nft, Nat.reduceAdd] at hc))
  refine (HC.out _ st.ext0).mono ?_
  rintro en w ⟨va, q, vc, rfl, h2⟩
  replace st := st.join h2
  clear h2
  simp only [List.cons_append, List.nil_append] at st
  (try simp only [nsl, Value.cells, unB] at st)
  (try clear hc); have hc := st.facts; (try simp only [nfl, nft, Nat.reduceAdd] at hc)
  go_wp2_with ((((with_reducible refine wl_box ?_ (fun K hK => ?_)); rfl; refine owp_box (o := ⟨some 1, _, _, _, _, _⟩) rfl st ?_; apply Exists.intro; refine ⟨?_, ?_⟩; (focus (go_simp; try rfl)); (clear st; intro b1 w hb st; clear hb))); (try simp only [nsl, Value.cells, unB] at st); (try clear hc); have hc := st.facts; (try simp only [nfl, nft, Nat.reduceAdd] at hc))
  refine (HS.out _ _ _ _ (st.flAt (i := 1) get1)).mono ?_
  rintro en w ⟨va2, vc2, rfl, h2⟩
  replace st := st.fresh h2
  clear h2
  (try simp only [nsl, Value.cells, unB] at st)
  (try clear hc); have hc := st.facts; (try simp only [nfl, nft, Nat.reduceAdd] at hc)
  go_wp2_with ((((with_reducible refine wl_box ?_ (fun K hK => ?_)); rfl; refine owp_box (o := ⟨some 1, _, _, _, _, _⟩) rfl st ?_; apply Exists.intro; refine ⟨?_, ?_⟩; (focus (go_simp; try rfl)); (clear st; intro b1 w hb st; clear hb))); (try simp only [nsl, Value.cells, unB] at st); (try clear hc); have hc := st.facts; (try simp only [nfl, nft, Nat.reduceAdd] at hc))
  go_ret
  have st' := st.keep [2] (by decide) (by simp)
  exact ⟨_, _, rfl, by simpa [pick] using st'⟩
set_option maxRecDepth 100000 in
set_option maxHeartbeats 2000000 in
theorem fmHolds_any (F : FuncId) (cap : Array Value) (p : Role → Bool) (hi : ∀ w x, (callFunc F (#[x] ++ cap)).run Try.prog w = .ok (.enter F (#[x] ++ cap)) w) (f : Fm) : ∀ (W : World), FmOk W f →
    (∀ r ∈ f.strip.atoms, ∀ w, Ext W w → Calls Try.prog F (#[rV r] ++ cap) w fun e w' => e = .returned (.bool (p r)) ∧ Ext w w') →
    Calls Try.prog 53 #[fmV f, .func (.func F) #[] cap] W fun e w' => e = .returned (.bool (f.strip.holds p)) ∧ Ext W w' := by
  induction f using Fm.ind
  rename_i op k r a n c kids ih
  intro W hok hp
  obtain ⟨o, d⟩ := r
  rw [strip_mk] at *
  rw [Fo.holds, List.length_map]
  rw [Fo.atoms] at hp
  have st := Own.startOld W
  unfold fmV S
  simp only
  by_cases o1 : op = 1
  · subst o1
    rw [if_pos rfl] at hp ⊢
    have HP := Lib.hid (fun w hx => hp (o, d) (by simp) w hx)
    unfold rV S at HP
    simp only at HP
    obtain ⟨v, hv⟩ : ∃ v, p (o, d) = v := ⟨_, rfl⟩
    rw [hv] at HP ⊢
    clear hok ih hp hv
    (try simp only [nsl, Value.cells, unB] at st)
    (try clear hc); have hc := st.facts; (try simp only [nfl, nft, Nat.reduceAdd] at hc)
    go_enter Try.func53, Try.ntmps53
    go_wp2_with ((first
          | ((with_reducible refine wl_box ?_ (fun K hK => ?_)); rfl; refine owp_box (o := ⟨some 2, _, _, _, _, _⟩) rfl st ?_; apply Exists.intro; refine ⟨?_, ?_⟩; (focus (go_simp; try rfl)); (clear st; intro b2 w hb st; clear hb))
          | ((with_reducible refine wl_alloc ?_ (fun K hK => ?_)); rfl; refine owp_alloc (o := ⟨some 7, _, _, _, _, _⟩) rfl st ?_; apply Exists.intro; apply Exists.intro; refine ⟨?_, ?_⟩; (focus (first | (go_simp; done) | (go_simp; rfl))); (clear st; intro b7 w hb st; clear hb))
          | ((with_reducible refine wl_store ?_ (fun K hK => ?_)); rfl; refine owp_store rfl st ?_; apply Exists.intro; apply Exists.intro; refine ⟨?_, ?_, ?_⟩; (focus (go_simp; try rfl)); (focus (go_simp; try rfl)); (first | (with_reducible refine ⟨0, _, _, _, _, get0, rfl, rfl, ?_, ?_, ?_, ?_⟩) | (with_reducible refine ⟨1, _, _, _, _, get1, rfl, rfl, ?_, ?_, ?_, ?_⟩) | (with_reducible refine ⟨2, _, _, _, _, get2, rfl, rfl, ?_, ?_, ?_, ?_⟩) | (with_reducible refine ⟨3, _, _, _, _, get3, rfl, rfl, ?_, ?_, ?_, ?_⟩) | (with_reducible refine ⟨4, _, _, _, _, get4, rfl, rfl, ?_, ?_, ?_, ?_⟩)); (kernel_rfl); (simp [Value.cells]); (rfl); (clear st; intro w st))); (try simp only [nsl, Value.cells, unB] at st); (try clear hc); have hc := st.facts; (try simp only [nfl, nft, Nat.reduceAdd] at hc))
    refine (HP.out _ st.ext0).mono ?_
    rintro en w ⟨rfl, hx⟩
    replace st := st.ext hx
    clear hx
    (try clear hc); have hc := st.facts; (try simp only [nfl, nft, Nat.reduceAdd] at hc)
    go_wp2_with ((first
          | ((with_reducible refine wl_box ?_ (fun K hK => ?_)); rfl; refine owp_box (o := ⟨some 2, _, _, _, _, _⟩) rfl st ?_; apply Exists.intro; refine ⟨?_, ?_⟩; (focus (go_simp; try rfl)); (clear st; intro b2 w hb st; clear hb))
          | ((with_reducible refine wl_alloc ?_ (fun K hK => ?_)); rfl; refine owp_alloc (o := ⟨some 7, _, _, _, _, _⟩) rfl st ?_; apply Exists.intro; apply Exists.intro; refine ⟨?_, ?_⟩; (focus (first | (go_simp; done) | (go_simp; rfl))); (clear st; intro b7 w hb st; clear hb))
          | ((with_reducible refine wl_store ?_ (fun K hK => ?_)); rfl; refine owp_store rfl st ?_; apply Exists.intro; apply Exists.intro; refine ⟨?_, ?_, ?_⟩; (focus (go_simp; try rfl)); (focus (go_simp; try rfl)); (first | (with_reducible refine ⟨0, _, _, _, _, get0, rfl, rfl, ?_, ?_, ?_, ?_⟩) | (with_reducible refine ⟨1, _, _, _, _, get1, rfl, rfl, ?_, ?_, ?_, ?_⟩) | (with_reducible refine ⟨2, _, _, _, _, get2, rfl, rfl, ?_, ?_, ?_, ?_⟩) | (with_reducible refine ⟨3, _, _, _, _, get3, rfl, rfl, ?_, ?_, ?_, ?_⟩) | (with_reducible refine ⟨4, _, _, _, _, get4, rfl, rfl, ?_, ?_, ?_, ?_⟩)); (kernel_rfl); (simp [Value.cells]); (rfl); (clear st; intro w st))); (try simp only [nsl, Value.cells, unB] at st); (try clear hc); have hc := st.facts; (try simp only [nfl, nft, Nat.reduceAdd] at hc))
    go_ret
    exact ⟨rfl, st.ext0⟩
  · rw [if_neg o1] at hp ⊢
    have hob : (op == 1) = false := by simpa using o1
    have HOK := Lib.hid hok
    have HI := Lib.hid ih
    have HP := Lib.hid hp
    have HN : Hid (n = kids.length) := Lib.hid hok.fl.1
    have hn : n ≤ 9223372036854775807 := by have := hok.cap; simp only [maxLen] at this; omega
    have HT : Hid (∀ j, holdsL p ((kids.take j).map Fm.strip) ≤ n) := Lib.hid (fun j => by have := holdsL_le p ((kids.take j).map Fm.strip); rw [List.length_map, List.length_take] at this; have := hok.fl.1; omega)
    obtain ⟨v, hv⟩ : ∃ v, truth op k kids.length (holdsL p (kids.map Fm.strip)) = v := ⟨_, rfl⟩
    have HV0 := Lib.hid hv
    rw [hv]
    clear hok ih hp o1 hv
    (try simp only [nsl, Value.cells, unB] at st)
    (try clear hc); have hc := st.facts; (try simp only [nfl, nft, Nat.reduceAdd] at hc)
    go_enter Try.func53, Try.ntmps53
    go_wp2_with ((first
          | ((with_reducible refine wl_box ?_ (fun K hK => ?_)); rfl; refine owp_box (o := ⟨some 2, _, _, _, _, _⟩) rfl st ?_; apply Exists.intro; refine ⟨?_, ?_⟩; (focus (go_simp; try rfl)); (clear st; intro b2 w hb st; clear hb))
          | ((with_reducible refine wl_alloc ?_ (fun K hK => ?_)); rfl; refine owp_alloc (o := ⟨some 7, _, _, _, _, _⟩) rfl st ?_; apply Exists.intro; apply Exists.intro; refine ⟨?_, ?_⟩; (focus (first | (go_simp; done) | (go_simp; rfl))); (clear st; intro b7 w hb st; clear hb))
          | ((with_reducible refine wl_store ?_ (fun K hK => ?_)); rfl; refine owp_store rfl st ?_; apply Exists.intro; apply Exists.intro; refine ⟨?_, ?_, ?_⟩; (focus (go_simp; try rfl)); (focus (go_simp; try rfl)); (first | (with_reducible refine ⟨0, _, _, _, _, get0, rfl, rfl, ?_, ?_, ?_, ?_⟩) | (with_reducible refine ⟨1, _, _, _, _, get1, rfl, rfl, ?_, ?_, ?_, ?_⟩) | (with_reducible refine ⟨2, _, _, _, _, get2, rfl, rfl, ?_, ?_, ?_, ?_⟩) | (with_reducible refine ⟨3, _, _, _, _, get3, rfl, rfl, ?_, ?_, ?_, ?_⟩) | (with_reducible refine ⟨4, _, _, _, _, get4, rfl, rfl, ?_, ?_, ?_, ?_⟩)); (kernel_rfl); (simp [Value.cells]); (rfl); (clear st; intro w st))); (try simp only [nsl, Value.cells, unB] at st); (try clear hc); have hc := st.facts; (try simp only [nfl, nft, Nat.reduceAdd] at hc))
    go_loopg [5, 18] n (fun q s i wr => ∃ (j g : Nat), j ≤ n ∧ q = n - j ∧ s = .int .i64 (g : Int) ∧ i = .int .i64 (j : Int) ∧ g ≤ j ∧ Hid (g = holdsL p ((kids.take j).map Fm.strip)) ∧ Own (fun _ => False) (fun _ => True) W [oldI W, blkI b2 [.int .i64 op, .int .i64 k, .string ⟨o.toArray⟩, .string ⟨d.toArray⟩, .slice a n c]] wr)
    case atStart => exact ⟨0, 0, by omega, by omega, rfl, rfl, by omega, Lib.hid (by simp [holdsL]), st⟩
    case round =>
      obtain ⟨j, g, hj, rfl, rfl, rfl, hg, HG, st'⟩ := hrel
      clear st hc
      have st := st'
      clear st'
      by_cases hjn : j < n
      · obtain ⟨b, off, ha, hcell⟩ := (HOK.out.ext st.ext0).fl.fm (by omega)
        have hjl : j < kids.length := by have := HN.out; omega
        have hsn := map_snoc_strip kids j hjl
        have hok := HOK.out.kids _ (List.getElem_mem hjl)
        have hih := HI.out _ (List.getElem_mem hjl)
        have hgt := List.getElem?_eq_getElem hjl
        have hmm : ∀ r ∈ (kids[j].strip).atoms, r ∈ atomsL (kids.map Fm.strip) := atomsL_mem _ _ (List.mem_map.2 ⟨_, List.getElem_mem hjl, rfl⟩)
        generalize kids[j] = x at *
        have HC := Lib.hid (fun W' (hx : Ext W W') => hih W' (hok.ext hx) (fun r hr w hw => HP.out r (hmm r hr) w (hx.trans hw)))
        obtain ⟨sx, hsx⟩ : ∃ v, x.strip = v := ⟨_, rfl⟩
        rw [hsx] at HC hsn
        obtain ⟨hv, hhv⟩ : ∃ v, sx.holds p = v := ⟨_, rfl⟩
        have HG2 : Hid (g + (if hv then 1 else 0) = holdsL p ((kids.take (j + 1)).map Fm.strip)) := Lib.hid (by rw [hsn, holdsL_snoc, HG.out, hhv])
        rw [hhv] at HC
        clear hsx hsn hih hjl hok hmm hhv
        obtain ⟨op', k', ⟨o', d'⟩, a', n', c', kids'⟩ := x
        obtain ⟨r0, r1, r2, r3, r4⟩ := hcell j op' k' (o', d') a' n' c' kids' hgt
        unfold fmV S at HC
        simp only at HC
        clear hcell hgt
        subst ha
        unfold S at r2 r3
        simp only at r2 r3
        (try simp only [nsl, Value.cells, unB] at st)
        (try clear hc); have hc := st.facts; (try simp only [nfl, nft, Nat.reduceAdd] at hc)
        go_wp2_with ((first
              | ((with_reducible refine wl_box ?_ (fun K hK => ?_)); rfl; refine owp_box (o := ⟨some 2, _, _, _, _, _⟩) rfl st ?_; apply Exists.intro; refine ⟨?_, ?_⟩; (focus (go_simp; try rfl)); (clear st; intro b2 w hb st; clear hb))
              | ((with_reducible refine wl_alloc ?_ (fun K hK => ?_)); rfl; refine owp_alloc (o := ⟨some 7, _, _, _, _, _⟩) rfl st ?_; apply Exists.intro; apply Exists.intro; refine ⟨?_, ?_⟩; (focus (first | (go_simp; done) | (go_simp; rfl))); (clear st; intro b7 w hb st; clear hb))
              | ((with_reducible refine wl_store ?_ (fun K hK => ?_)); rfl; refine owp_store rfl st ?_; apply Exists.intro; apply Exists.intro; refine ⟨?_, ?_, ?_⟩; (focus (go_simp; try rfl)); (focus (go_simp; try rfl)); (first | (with_reducible refine ⟨0, _, _, _, _, get0, rfl, rfl, ?_, ?_, ?_, ?_⟩) | (with_reducible refine ⟨1, _, _, _, _, get1, rfl, rfl, ?_, ?_, ?_, ?_⟩) | (with_reducible refine ⟨2, _, _, _, _, get2, rfl, rfl, ?_, ?_, ?_, ?_⟩) | (with_reducible refine ⟨3, _, _, _, _, get3, rfl, rfl, ?_, ?_, ?_, ?_⟩) | (with_reducible refine ⟨4, _, _, _, _, get4, rfl, rfl, ?_, ?_, ?_, ?_⟩)); (kernel_rfl); (simp [Value.cells]); (rfl); (clear st; intro w st))); (try simp only [nsl, Value.cells, unB] at st); (try clear hc); have hc := st.facts; (try simp only [nfl, nft, Nat.reduceAdd] at hc))
        clear r0 r1 r2 r3 r4
        refine (HC.out _ st.ext0).mono ?_
        rintro en w ⟨rfl, hx⟩
        replace st := st.ext hx
        clear hx
        (try clear hc); have hc := st.facts; (try simp only [nfl, nft, Nat.reduceAdd] at hc)
        cases hv with
        | true =>
          go_wp2_with fail
          have st' := st.keep [0, 1] (by decide) (by simp)
          go_roundg (n - (j + 1))
          case measure => omega
          case rel => exact ⟨j + 1, g + 1, by omega, by omega, by go_num, by go_num, by omega, HG2, by simpa [pick] using st'⟩
        | false =>
          go_wp2_with fail
          have st' := st.keep [0, 1] (by decide) (by simp)
          go_roundg (n - (j + 1))
          case measure => omega
          case rel => exact ⟨j + 1, g, by omega, by omega, rfl, by go_num, by omega, HG2, by simpa [pick] using st'⟩
      · obtain rfl : n = j := by omega
        have HE : Hid (holdsL p (kids.map Fm.strip) = g) := Lib.hid (by rw [HG.out, List.take_of_length_le (by have := HN.out; omega)])
        have HV : Hid (v = if op = 2 then decide (g = n) else if op = 3 then decide (0 < g) else decide (k ≤ (g : Int))) := Lib.hid (by rw [← HV0.out, HE.out, ← HN.out]; rfl)
        by_cases o2 : op = 2
        · subst o2
          have H := Lib.hid (HV.out.trans (if_pos rfl))
          by_cases gn : g = n
          · have H2 : Hid (v = true) := Lib.hid (by rw [H.out]; simpa using gn)
            have gb : ((g : Int) == (n : Int)) = true := by simp; omega
            clear gn
            (try simp only [nsl, Value.cells, unB] at st)
            (try clear hc); have hc := st.facts; (try simp only [nfl, nft, Nat.reduceAdd] at hc)
            go_wp2_with fail
            go_ret
            exact ⟨by rw [H2.out] <;> first | rfl | (simp; omega) | simp, st.ext0⟩
          · have H2 : Hid (v = false) := Lib.hid (by rw [H.out]; simpa using gn)
            have gb : ((g : Int) == (n : Int)) = false := by simp; omega
            clear gn
            (try simp only [nsl, Value.cells, unB] at st)
            (try clear hc); have hc := st.facts; (try simp only [nfl, nft, Nat.reduceAdd] at hc)
            go_wp2_with fail
            go_ret
            exact ⟨by rw [H2.out] <;> first | rfl | (simp; omega) | simp, st.ext0⟩
        · have hb2 : (op == 2) = false := by simpa using o2
          by_cases o3 : op = 3
          · subst o3
            have H := Lib.hid (HV.out.trans ((if_neg (by decide)).trans (if_pos rfl)))
            clear o2
            by_cases gn : 0 < g
            · have H2 : Hid (v = true) := Lib.hid (by rw [H.out]; simpa using gn)
              have gi : (0 : Int) < (g : Int) := by omega
              clear gn
              (try simp only [nsl, Value.cells, unB] at st)
              (try clear hc); have hc := st.facts; (try simp only [nfl, nft, Nat.reduceAdd] at hc)
              go_wp2_with fail
              go_ret
              exact ⟨by rw [H2.out] <;> first | rfl | (simp; omega) | simp, st.ext0⟩
            · have H2 : Hid (v = false) := Lib.hid (by rw [H.out]; simpa using gn)
              have gi : ¬ (0 : Int) < (g : Int) := by omega
              clear gn
              (try simp only [nsl, Value.cells, unB] at st)
              (try clear hc); have hc := st.facts; (try simp only [nfl, nft, Nat.reduceAdd] at hc)
              go_wp2_with fail
              go_ret
              exact ⟨by rw [H2.out] <;> first | rfl | (simp; omega) | simp, st.ext0⟩
          · have hb3 : (op == 3) = false := by simpa using o3
            have H := Lib.hid (HV.out.trans ((if_neg o2).trans (if_neg o3)))
            clear o2 o3
            by_cases gn : k ≤ (g : Int)
            · have H2 : Hid (v = true) := Lib.hid (by rw [H.out]; simpa using gn)
              (try simp only [nsl, Value.cells, unB] at st)
              (try clear hc); have hc := st.facts; (try simp only [nfl, nft, Nat.reduceAdd] at hc)
              go_wp2_with fail
              go_ret
              exact ⟨by rw [H2.out] <;> first | rfl | (simp; omega) | simp, st.ext0⟩
            · have H2 : Hid (v = false) := Lib.hid (by rw [H.out]; simpa using gn)
              (try simp only [nsl, Value.cells, unB] at st)
              (try clear hc); have hc := st.facts; (try simp only [nfl, nft, Nat.reduceAdd] at hc)
              go_wp2_with fail
              go_ret
              exact ⟨by rw [H2.out] <;> first | rfl | (simp; omega) | simp, st.ext0⟩
set_option maxRecDepth 100000 in
set_option maxHeartbeats 1000000 in
theorem fmTrue_any (F : FuncId) (cap : Array Value) (p : Role → Bool) (hi : ∀ w x, (callFunc F (#[x] ++ cap)).run Try.prog w = .ok (.enter F (#[x] ++ cap)) w) (f : Fm) (W : World) (h : FmOk W f) (hs : f.strip.nodes ≤ 1000000000) (hl : FoL 100000 f.strip)
    (hp : ∀ r ∈ f.strip.atoms, ∀ w, Ext W w → Calls Try.prog F (#[rV r] ++ cap) w fun e w' => e = .returned (.bool (p r)) ∧ Ext w w') :
    Calls Try.prog 19 #[fmV f, .func (.func F) #[] cap] W fun e w' => e = .returned (.bool (foR f.strip && f.strip.holds p)) ∧ Ext W w' := by
  have HR := Lib.hid (fun W' (hx : Ext W W') => fmRight_any f W' (h.ext hx) hs hl)
  have HH := Lib.hid (fun W' (hx : Ext W W') => fmHolds_any F cap p hi f W' (h.ext hx) (fun r hr w hw => hp r hr w (hx.trans hw)))
  obtain ⟨op, k, ⟨o, d⟩, a, n, c, kids⟩ := f
  generalize (Fm.mk op k (o, d) a n c kids).strip.holds p = hv at *
  generalize foR (Fm.mk op k (o, d) a n c kids).strip = rv at *
  clear h hs hl hp
  have st := Own.startOld W
  unfold fmV S at HR HH ⊢
  simp only at HR HH ⊢
  (try simp only [nsl, Value.cells, unB] at st)
  (try clear hc); have hc := st.facts; (try simp only [nfl, nft, Nat.reduceAdd] at hc)
  go_enter Try.func19, Try.ntmps19
  go_wp2_with ((((with_reducible refine wl_box ?_ (fun K hK => ?_)); rfl; refine owp_box (o := ⟨some 2, _, _, _, _, _⟩) rfl st ?_; apply Exists.intro; refine ⟨?_, ?_⟩; (focus (go_simp; try rfl)); (clear st; intro b2 w hb st; clear hb))); (try simp only [nsl, Value.cells, unB] at st); (try clear hc); have hc := st.facts; (try simp only [nfl, nft, Nat.reduceAdd] at hc))
  refine (HR.out _ st.ext0).mono ?_
  rintro en w ⟨rfl, hx⟩
  replace st := st.ext hx
  clear hx
  (try clear hc); have hc := st.facts; (try simp only [nfl, nft, Nat.reduceAdd] at hc)
  cases rv with
  | false =>
    go_wp2_with ((((with_reducible refine wl_box ?_ (fun K hK => ?_)); rfl; refine owp_box (o := ⟨some 2, _, _, _, _, _⟩) rfl st ?_; apply Exists.intro; refine ⟨?_, ?_⟩; (focus (go_simp; try rfl)); (clear st; intro b2 w hb st; clear hb))); (try simp only [nsl, Value.cells, unB] at st); (try clear hc); have hc := st.facts; (try simp only [nfl, nft, Nat.reduceAdd] at hc))
    go_ret
    exact ⟨rfl, st.ext0⟩
  | true =>
    go_wp2_with ((((with_reducible refine wl_box ?_ (fun K hK => ?_)); rfl; refine owp_box (o := ⟨some 2, _, _, _, _, _⟩) rfl st ?_; apply Exists.intro; refine ⟨?_, ?_⟩; (focus (go_simp; try rfl)); (clear st; intro b2 w hb st; clear hb))); (try simp only [nsl, Value.cells, unB] at st); (try clear hc); have hc := st.facts; (try simp only [nfl, nft, Nat.reduceAdd] at hc))
    refine (HH.out _ st.ext0).mono ?_
    rintro en w ⟨rfl, hx⟩
    replace st := st.ext hx
    clear hx
    (try clear hc); have hc := st.facts; (try simp only [nfl, nft, Nat.reduceAdd] at hc)
    go_wp2_with fail
    go_ret
    exact ⟨by simp, st.ext0⟩
end Go.Proofs.Ythjaopojlhdjpaa

namespace Go.Proofs.Ythjaopojlhdjpaa
set_option linter.unusedSimpArgs false
set_option linter.unusedVariables false
open Go Go.RowKit
def GetPostM {α : Type} (fr al : Nat → Prop) (w : World) (r b : Nat) (res : Except Int (α × List UInt8)) (z : List Value) (okM : α → List Value → List It → Prop) (en : Ending) (w' : World) : Prop :=
  match res with
  | .error e => en = .panicked [{ v := failV r e, recovered := false }] ∧ Own fr al w [rdAnyI r, blkI b z] w'
  | .ok (s, ys) => en = .returned (.tuple #[]) ∧ ∃ cs M, okM s cs M ∧ Own fr al w (rdI r ys :: blkI b cs :: M) w'
/-- What the block holds behind it, and what more lies there. -/
def GotM {α : Type} (res : Except Int (α × List UInt8)) (z : List Value) (okM : α → List Value → List It → Prop) (cs : List Value) (M : List It) : Prop := match res with
  | .error _ => cs = z ∧ M = []
  | .ok (s, _) => okM s cs M
theorem pick_mid (X M : List It) (a : It) : pick (X ++ [a] ++ M) (X.length :: (List.range X.length ++ (List.range M.length).map (X.length + 1 + ·))) = a :: (X ++ M) := by
  unfold pick
  rw [List.map_cons, List.map_append]
  congr 1
  · simp
  · congr 1
    · apply List.ext_getElem
      · simp
      · intro i h1 h2
        simp [List.getElem?_append_left h2, List.getElem?_eq_getElem h2, List.append_assoc]
    · apply List.ext_getElem
      · simp
      · intro i h1 h2
        simp only [List.map_map, List.getElem_map, List.getElem_range, Function.comp]
        rw [List.getElem?_append_right (by simp)]
        simp only [List.length_append, List.length_singleton]
        rw [show X.length + 1 + i - (X.length + 1) = i by omega, List.getElem?_eq_getElem h2, Option.getD_some]
theorem putIt_twoM (L M : List It) (I A B : It) (i : Nat) (hi : i < L.length) : putIt (L ++ [I]) (A :: B :: M) 0 [L.length, i] = L.set i B ++ [A] ++ M := by
  simp only [putIt, List.getElem?_cons_zero, List.getElem?_cons_succ, Option.getD_some, List.drop_succ_cons, List.drop_zero]
  rw [List.set_append_right _ _ (Nat.le_refl _), Nat.sub_self, List.set_cons_zero, List.set_append_left _ _ hi]
theorem readGetM_c {α : Type} {fr al : Nat → Prop} {w0 w : World} {L : List It} (st : Own fr al w0 L w) (i : Nat) {b : Nat} {z : List Value} (hi : L[i]? = some (blkI b z)) {a : Option Addr} {n c : Nat} {xs : List UInt8} (h : By w a n xs) (hc : n ≤ c ∧ c ≤ maxLen) (hn : n ≤ 100000000000) (F : FuncId)
    (hinv : ∀ w r, (callFunc F (#[.pointer (some ⟨r, 0, none⟩)] ++ #[.pointer (some ⟨b, 0, none⟩)])).run Try.prog w = .ok (.enter F (#[.pointer (some ⟨r, 0, none⟩)] ++ #[.pointer (some ⟨b, 0, none⟩)])) w)
    (res : Except Int (α × List UInt8)) (okM : α → List Value → List It → Prop)
    (hclo : ∀ fr al w r, Own fr al w [rdI r xs, blkI b z] w → Calls Try.prog F #[.pointer (some ⟨r, 0, none⟩), .pointer (some ⟨b, 0, none⟩)] w (GetPostM fr al w r b res z okM)) :
    Calls Try.prog 43 #[.slice a n c, .func (.func F) #[] #[.pointer (some ⟨b, 0, none⟩)]] w fun en w' => ∃ r cs M, en = .returned (.int .i64 (gotE res)) ∧ GotM res z okM cs M ∧ Own fr al w0 (rdOverI r :: (L.set i (blkI b cs) ++ M)) w' := by
  have hil := get_lt hi
  have fin : ∀ {fr' al' : Nat → Prop} {w1 w2 : World} {A B I : It} {M : List It}, Own fr' al' w1 (putIt (L ++ [I]) (A :: B :: M) 0 [L.length, i]) w2 → Own fr' al' w1 (A :: (L.set i B ++ M)) w2 := by
    intro fr' al' w1 w2 A B I M st3
    rw [putIt_twoM L M I A B i hil] at st3
    have hk := st3.keep ((L.set i B).length :: (List.range (L.set i B).length ++ (List.range M.length).map ((L.set i B).length + 1 + ·))) (by
      rw [List.nodup_cons, List.nodup_append]
      refine ⟨?_, List.nodup_range, ?_, ?_⟩
      · simp only [List.mem_append, List.mem_range, List.mem_map, not_or, not_exists, not_and]
        exact ⟨by omega, fun q _ => by omega⟩
      · exact List.pairwise_map.2 (List.Pairwise.imp (fun {x y} h e => h (by omega)) List.nodup_range)
      · intro x hx y hy
        simp only [List.mem_range, List.mem_map] at hx hy
        obtain ⟨q, _, rfl⟩ := hy
        omega) (by
      intro q hq
      simp only [List.mem_cons, List.mem_append, List.mem_range, List.mem_map] at hq
      simp only [List.length_append, List.length_singleton]
      rcases hq with e | e | ⟨q', e1, rfl⟩ <;> omega)
    rwa [pick_mid] at hk
  refine (read_c st h hc hn F #[.pointer (some ⟨b, 0, none⟩)] hinv (fun r e M => e = gotE res ∧ ∃ cs M', GotM res z okM cs M' ∧ M = L.set i (blkI b cs) ++ M') fun fr' al' w1 r hr st1 => ?_).mono ?_
  · obtain ⟨fr2, al2, st2, back⟩ := st1.sub [L.length, i] (by simp; omega) (by
      intro q hq; simp at hq ⊢; omega)
    have hp : pick (L ++ [rdI r xs]) [L.length, i] = [rdI r xs, blkI b z] := by
      simp [pick, List.getElem?_append_left hil, hi]
    rw [hp] at st2
    refine (hclo _ _ _ r st2).mono ?_
    intro en w2 hen
    unfold GetPostM at hen
    cases hres : res with
    | error e =>
      rw [hres] at hen
      obtain ⟨rfl, st3⟩ := hen
      exact .inr ⟨e, [], _, rfl, rfl, ⟨rfl, z, [], ⟨rfl, rfl⟩, rfl⟩, fin (back _ _ (by simp) st3)⟩
    | ok p =>
      obtain ⟨s, ys⟩ := p
      rw [hres] at hen
      obtain ⟨rfl, cs, M, hok, st3⟩ := hen
      exact .inl ⟨_, ys, _, rfl, ⟨rfl, cs, M, hok, rfl⟩, fin (back _ _ (by simp) st3)⟩
  · rintro en w' ⟨r, e, M, rfl, ⟨rfl, cs, M', h1, rfl⟩, st'⟩
    exact ⟨r, cs, M', rfl, h1, st'⟩
end Go.Proofs.Ythjaopojlhdjpaa

namespace Go.Proofs.Ythjaopojlhdjpaa
set_option linter.unusedSimpArgs false
set_option linter.unusedVariables false
open Go Go.RowKit
/-- What is got, and nothing else. -/
def FmGotR (fr al : Nat → Prop) (W : World) (r : Nat) (ys : List UInt8) (f : Fo) (e : Ending) (w' : World) : Prop := ∃ g, e = .returned (fmV g) ∧ g.strip = f ∧ Own fr al W [rdI r ys, fmI g] w'
theorem fmGotR {fr al : Nat → Prop} {W w : World} {r : Nat} {ys : List UInt8} {f : Fo} (g : Fm) {v : Value} (hv : v = fmV g) (hg : g.strip = f) (st : Own fr al W [rdI r ys, fmI g] w) : FmGotR fr al W r ys f (.returned v) w := ⟨g, by rw [hv], hg, st⟩
theorem foR_parts {f : Fo} (h : foR f = true) : f.nodes ≤ 64 ∧ f.deep ≤ 6 ∧ f.well = true := by
  unfold foR at h
  rw [Bool.and_eq_true, Bool.and_eq_true, decide_eq_true_eq, decide_eq_true_eq] at h
  exact ⟨h.1.1, h.1.2, h.2⟩
set_option maxRecDepth 100000 in
set_option maxHeartbeats 1000000 in
theorem fmGet_c {fr al : Nat → Prop} {W : World} {r : Nat} (f : Fo) (ys : List UInt8) (st : Own fr al W [rdI r (f.bytes ++ ys)] W) (hr : foR f = true) (hy : ys.length ≤ 50000) :
    Calls Try.prog 45 #[.pointer (some ⟨r, 0, none⟩)] W (FmGotR fr al W r ys f) := by
  obtain ⟨h1, h2, h3⟩ := foR_parts hr
  have hbl := bytes_len f h3
  have HG := Lib.hid (fun (fr al : Nat → Prop) (W : World) (b : Nat) (st : Own fr al W [rdI r (f.bytes ++ ys), blkI b [.int .i64 64]] W) => fmGet0_c f fr al W r b 64 6 ys st h3 (by omega) (by omega) (by omega) (by omega) (by omega))
  generalize f.bytes ++ ys = x0 at *
  clear hr h1 h2 h3 hbl
  (try simp only [nsl, Value.cells, unB] at st)
  (try clear hc); have hc := st.facts; (try simp only [nfl, nft, Nat.reduceAdd] at hc)
  go_enter Try.func45, Try.ntmps45
  go_wp2_with ((first
        | ((with_reducible refine wl_alloc ?_ (fun K hK => ?_)); rfl; refine owp_alloc (o := ⟨some 2, _, _, _, _, _⟩) rfl st ?_; apply Exists.intro; apply Exists.intro; refine ⟨?_, ?_⟩; (focus (first | (go_simp; done) | (go_simp; rfl))); (clear st; intro b2 w hb st; clear hb))
        | ((with_reducible refine wl_alloc ?_ (fun K hK => ?_)); rfl; refine owp_alloc (o := ⟨some 3, _, _, _, _, _⟩) rfl st ?_; apply Exists.intro; apply Exists.intro; refine ⟨?_, ?_⟩; (focus (first | (go_simp; done) | (go_simp; rfl))); (clear st; intro b3 w hb st; clear hb))
        | ((with_reducible refine wl_store ?_ (fun K hK => ?_)); rfl; refine owp_store rfl st ?_; apply Exists.intro; apply Exists.intro; refine ⟨?_, ?_, ?_⟩; (focus (go_simp; try rfl)); (focus (go_simp; try rfl)); (first | (with_reducible refine ⟨0, _, _, _, _, get0, rfl, rfl, ?_, ?_, ?_, ?_⟩) | (with_reducible refine ⟨1, _, _, _, _, get1, rfl, rfl, ?_, ?_, ?_, ?_⟩) | (with_reducible refine ⟨2, _, _, _, _, get2, rfl, rfl, ?_, ?_, ?_, ?_⟩) | (with_reducible refine ⟨3, _, _, _, _, get3, rfl, rfl, ?_, ?_, ?_, ?_⟩) | (with_reducible refine ⟨4, _, _, _, _, get4, rfl, rfl, ?_, ?_, ?_, ?_⟩) | (with_reducible refine ⟨5, _, _, _, _, get5, rfl, rfl, ?_, ?_, ?_, ?_⟩) | (with_reducible refine ⟨6, _, _, _, _, get6, rfl, rfl, ?_, ?_, ?_, ?_⟩)); (kernel_rfl); (simp [Value.cells]); (rfl); (clear st; intro w st))); (try simp only [nsl, Value.cells, unB] at st); (try clear hc); have hc := st.facts; (try simp only [nfl, nft, Nat.reduceAdd] at hc))
  obtain ⟨fr', al', st', back⟩ := st.sub [0, 2] (by decide) (by simp)
  (try simp only [nsl, Value.cells, unB] at st')
  refine (HG.out _ _ _ _ st').mono ?_
  clear st'
  rintro en w ⟨g, rfl, hg, st'⟩
  replace st := back _ _ (by simp) st'
  clear back st'
  (try simp only [nsl, Value.cells, unB] at st)
  (try clear hc); have hc := st.facts; (try simp only [nfl, nft, Nat.reduceAdd] at hc)
  have HGS := Lib.hid hg
  clear hg
  obtain ⟨gx, hgx⟩ : ∃ x, g = x := ⟨_, rfl⟩
  obtain ⟨op, k, ⟨o, d⟩, a, n, c, kids⟩ := g
  have HV : Hid (fmV gx = .agg #[.int .i64 op, .int .i64 k, .string ⟨o.toArray⟩, .string ⟨d.toArray⟩, .slice a n c]) := Lib.hid (by rw [← hgx]; rfl)
  rw [hgx] at HGS st ⊢
  rw [HV.out]
  clear hgx
  (try simp only [nsl, Value.cells, unB] at st)
  (try clear hc); have hc := st.facts; (try simp only [nfl, nft, Nat.reduceAdd] at hc)
  go_wp2_with ((first
        | ((with_reducible refine wl_alloc ?_ (fun K hK => ?_)); rfl; refine owp_alloc (o := ⟨some 2, _, _, _, _, _⟩) rfl st ?_; apply Exists.intro; apply Exists.intro; refine ⟨?_, ?_⟩; (focus (first | (go_simp; done) | (go_simp; rfl))); (clear st; intro b2 w hb st; clear hb))
        | ((with_reducible refine wl_alloc ?_ (fun K hK => ?_)); rfl; refine owp_alloc (o := ⟨some 3, _, _, _, _, _⟩) rfl st ?_; apply Exists.intro; apply Exists.intro; refine ⟨?_, ?_⟩; (focus (first | (go_simp; done) | (go_simp; rfl))); (clear st; intro b3 w hb st; clear hb))
        | ((with_reducible refine wl_store ?_ (fun K hK => ?_)); rfl; refine owp_store rfl st ?_; apply Exists.intro; apply Exists.intro; refine ⟨?_, ?_, ?_⟩; (focus (go_simp; try rfl)); (focus (go_simp; try rfl)); (first | (with_reducible refine ⟨0, _, _, _, _, get0, rfl, rfl, ?_, ?_, ?_, ?_⟩) | (with_reducible refine ⟨1, _, _, _, _, get1, rfl, rfl, ?_, ?_, ?_, ?_⟩) | (with_reducible refine ⟨2, _, _, _, _, get2, rfl, rfl, ?_, ?_, ?_, ?_⟩) | (with_reducible refine ⟨3, _, _, _, _, get3, rfl, rfl, ?_, ?_, ?_, ?_⟩) | (with_reducible refine ⟨4, _, _, _, _, get4, rfl, rfl, ?_, ?_, ?_, ?_⟩) | (with_reducible refine ⟨5, _, _, _, _, get5, rfl, rfl, ?_, ?_, ?_, ?_⟩) | (with_reducible refine ⟨6, _, _, _, _, get6, rfl, rfl, ?_, ?_, ?_, ?_⟩)); (kernel_rfl); (simp [Value.cells]); (rfl); (clear st; intro w st))); (try simp only [nsl, Value.cells, unB] at st); (try clear hc); have hc := st.facts; (try simp only [nfl, nft, Nat.reduceAdd] at hc))
  (try simp only [Exit.inBlock, Exit.then])
  refine bodyPost_cell rfl rfl (st.blk (i := 1) get1) Try.underlying26 rfl (by kernel_rfl) rfl ?_
  have st' := st.keep [0, 3] (by decide) (by simp)
  exact fmGotR gx (by rw [HV.out] <;> rfl) HGS.out (by simpa [pick] using st')
def fmM (f : Fo) (cs : List Value) (M : List It) : Prop := ∃ g, cs = fmC g ∧ g.strip = f ∧ M = [fmI g]
set_option maxRecDepth 100000 in
set_option maxHeartbeats 1000000 in
theorem risesGet_c {fr al : Nat → Prop} {W : World} {r b : Nat} (f : Fo) (st : Own fr al W [rdI r f.bytes, blkI b zF] W) (hr : foR f = true) :
    Calls Try.prog 44 #[.pointer (some ⟨r, 0, none⟩), .pointer (some ⟨b, 0, none⟩)] W (GetPostM fr al W r b (.ok (f, [])) zF fmM) := by
  have HG := Lib.hid (fun (fr al : Nat → Prop) (W : World) (st : Own fr al W [rdI r f.bytes] W) => fmGet_c f [] (by rw [List.append_nil]; exact st) hr (by simp))
  generalize f.bytes = x0 at *
  clear hr
  unfold zF at st
  (try simp only [nsl, Value.cells, unB] at st)
  (try clear hc); have hc := st.facts; (try simp only [nfl, nft, Nat.reduceAdd] at hc)
  go_enter Try.func44, Try.ntmps44
  go_wp2_with ((((with_reducible refine wl_store ?_ (fun K hK => ?_)); rfl; refine owp_store rfl st ?_; apply Exists.intro; apply Exists.intro; refine ⟨?_, ?_, ?_⟩; (focus (go_simp; try rfl)); (focus (go_simp; try rfl)); (first | (with_reducible refine ⟨0, _, _, _, _, get0, rfl, rfl, ?_, ?_, ?_, ?_⟩) | (with_reducible refine ⟨1, _, _, _, _, get1, rfl, rfl, ?_, ?_, ?_, ?_⟩) | (with_reducible refine ⟨2, _, _, _, _, get2, rfl, rfl, ?_, ?_, ?_, ?_⟩) | (with_reducible refine ⟨3, _, _, _, _, get3, rfl, rfl, ?_, ?_, ?_, ?_⟩) | (with_reducible refine ⟨4, _, _, _, _, get4, rfl, rfl, ?_, ?_, ?_, ?_⟩) | (with_reducible refine ⟨5, _, _, _, _, get5, rfl, rfl, ?_, ?_, ?_, ?_⟩) | (with_reducible refine ⟨6, _, _, _, _, get6, rfl, rfl, ?_, ?_, ?_, ?_⟩)); (kernel_rfl); (simp [Value.cells]); (rfl); (clear st; intro w st))); (try simp only [nsl, Value.cells, unB] at st); (try clear hc); have hc := st.facts; (try simp only [nfl, nft, Nat.reduceAdd] at hc))
  obtain ⟨fr', al', st', back⟩ := st.sub [0] (by decide) (by simp)
  (try simp only [nsl, Value.cells, unB] at st')
  refine (HG.out _ _ _ st').mono ?_
  clear st'
  rintro en w ⟨g, rfl, hg, st'⟩
  replace st := back _ _ (by simp) st'
  clear back st'
  (try simp only [nsl, Value.cells, unB] at st)
  (try clear hc); have hc := st.facts; (try simp only [nfl, nft, Nat.reduceAdd] at hc)
  have HGS := Lib.hid hg
  clear hg
  obtain ⟨gx, hgx⟩ : ∃ x, g = x := ⟨_, rfl⟩
  obtain ⟨op, k, ⟨o, d⟩, a, n, c, kids⟩ := g
  have HV : Hid (fmV gx = .agg #[.int .i64 op, .int .i64 k, .string ⟨o.toArray⟩, .string ⟨d.toArray⟩, .slice a n c]) := Lib.hid (by rw [← hgx]; rfl)
  have HC : Hid (fmC gx = [.int .i64 op, .int .i64 k, .string ⟨o.toArray⟩, .string ⟨d.toArray⟩, .slice a n c]) := Lib.hid (by rw [← hgx]; rfl)
  rw [hgx] at HGS st ⊢
  rw [HV.out]
  clear hgx
  (try simp only [nsl, Value.cells, unB] at st)
  (try clear hc); have hc := st.facts; (try simp only [nfl, nft, Nat.reduceAdd] at hc)
  go_wp2_with ((((with_reducible refine wl_store ?_ (fun K hK => ?_)); rfl; refine owp_store rfl st ?_; apply Exists.intro; apply Exists.intro; refine ⟨?_, ?_, ?_⟩; (focus (go_simp; try rfl)); (focus (go_simp; try rfl)); (first | (with_reducible refine ⟨0, _, _, _, _, get0, rfl, rfl, ?_, ?_, ?_, ?_⟩) | (with_reducible refine ⟨1, _, _, _, _, get1, rfl, rfl, ?_, ?_, ?_, ?_⟩) | (with_reducible refine ⟨2, _, _, _, _, get2, rfl, rfl, ?_, ?_, ?_, ?_⟩) | (with_reducible refine ⟨3, _, _, _, _, get3, rfl, rfl, ?_, ?_, ?_, ?_⟩) | (with_reducible refine ⟨4, _, _, _, _, get4, rfl, rfl, ?_, ?_, ?_, ?_⟩) | (with_reducible refine ⟨5, _, _, _, _, get5, rfl, rfl, ?_, ?_, ?_, ?_⟩) | (with_reducible refine ⟨6, _, _, _, _, get6, rfl, rfl, ?_, ?_, ?_, ?_⟩)); (kernel_rfl); (simp [Value.cells]); (rfl); (clear st; intro w st))); (try simp only [nsl, Value.cells, unB] at st); (try clear hc); have hc := st.facts; (try simp only [nfl, nft, Nat.reduceAdd] at hc))
  go_end0
  unfold GetPostM
  exact ⟨rfl, _, _, ⟨gx, rfl, HGS.out, rfl⟩, by rw [HC.out]; exact st⟩
set_option maxRecDepth 100000 in
set_option maxHeartbeats 1000000 in
theorem first11Get_c {fr al : Nat → Prop} {W : World} {r b : Nat} (f : Fo) (st : Own fr al W [rdI r f.bytes, blkI b zF] W) (hr : foR f = true) :
    Calls Try.prog 72 #[.pointer (some ⟨r, 0, none⟩), .pointer (some ⟨b, 0, none⟩)] W (GetPostM fr al W r b (.ok (f, [])) zF fmM) := by
  have HG := Lib.hid (fun (fr al : Nat → Prop) (W : World) (st : Own fr al W [rdI r f.bytes] W) => fmGet_c f [] (by rw [List.append_nil]; exact st) hr (by simp))
  generalize f.bytes = x0 at *
  clear hr
  unfold zF at st
  (try simp only [nsl, Value.cells, unB] at st)
  (try clear hc); have hc := st.facts; (try simp only [nfl, nft, Nat.reduceAdd] at hc)
  go_enter Try.func72, Try.ntmps72
  go_wp2_with ((((with_reducible refine wl_store ?_ (fun K hK => ?_)); rfl; refine owp_store rfl st ?_; apply Exists.intro; apply Exists.intro; refine ⟨?_, ?_, ?_⟩; (focus (go_simp; try rfl)); (focus (go_simp; try rfl)); (first | (with_reducible refine ⟨0, _, _, _, _, get0, rfl, rfl, ?_, ?_, ?_, ?_⟩) | (with_reducible refine ⟨1, _, _, _, _, get1, rfl, rfl, ?_, ?_, ?_, ?_⟩) | (with_reducible refine ⟨2, _, _, _, _, get2, rfl, rfl, ?_, ?_, ?_, ?_⟩) | (with_reducible refine ⟨3, _, _, _, _, get3, rfl, rfl, ?_, ?_, ?_, ?_⟩) | (with_reducible refine ⟨4, _, _, _, _, get4, rfl, rfl, ?_, ?_, ?_, ?_⟩) | (with_reducible refine ⟨5, _, _, _, _, get5, rfl, rfl, ?_, ?_, ?_, ?_⟩) | (with_reducible refine ⟨6, _, _, _, _, get6, rfl, rfl, ?_, ?_, ?_, ?_⟩)); (kernel_rfl); (simp [Value.cells]); (rfl); (clear st; intro w st))); (try simp only [nsl, Value.cells, unB] at st); (try clear hc); have hc := st.facts; (try simp only [nfl, nft, Nat.reduceAdd] at hc))
  obtain ⟨fr', al', st', back⟩ := st.sub [0] (by decide) (by simp)
  (try simp only [nsl, Value.cells, unB] at st')
  refine (HG.out _ _ _ st').mono ?_
  clear st'
  rintro en w ⟨g, rfl, hg, st'⟩
  replace st := back _ _ (by simp) st'
  clear back st'
  (try simp only [nsl, Value.cells, unB] at st)
  (try clear hc); have hc := st.facts; (try simp only [nfl, nft, Nat.reduceAdd] at hc)
  have HGS := Lib.hid hg
  clear hg
  obtain ⟨gx, hgx⟩ : ∃ x, g = x := ⟨_, rfl⟩
  obtain ⟨op, k, ⟨o, d⟩, a, n, c, kids⟩ := g
  have HV : Hid (fmV gx = .agg #[.int .i64 op, .int .i64 k, .string ⟨o.toArray⟩, .string ⟨d.toArray⟩, .slice a n c]) := Lib.hid (by rw [← hgx]; rfl)
  have HC : Hid (fmC gx = [.int .i64 op, .int .i64 k, .string ⟨o.toArray⟩, .string ⟨d.toArray⟩, .slice a n c]) := Lib.hid (by rw [← hgx]; rfl)
  rw [hgx] at HGS st ⊢
  rw [HV.out]
  clear hgx
  (try simp only [nsl, Value.cells, unB] at st)
  (try clear hc); have hc := st.facts; (try simp only [nfl, nft, Nat.reduceAdd] at hc)
  go_wp2_with ((((with_reducible refine wl_store ?_ (fun K hK => ?_)); rfl; refine owp_store rfl st ?_; apply Exists.intro; apply Exists.intro; refine ⟨?_, ?_, ?_⟩; (focus (go_simp; try rfl)); (focus (go_simp; try rfl)); (first | (with_reducible refine ⟨0, _, _, _, _, get0, rfl, rfl, ?_, ?_, ?_, ?_⟩) | (with_reducible refine ⟨1, _, _, _, _, get1, rfl, rfl, ?_, ?_, ?_, ?_⟩) | (with_reducible refine ⟨2, _, _, _, _, get2, rfl, rfl, ?_, ?_, ?_, ?_⟩) | (with_reducible refine ⟨3, _, _, _, _, get3, rfl, rfl, ?_, ?_, ?_, ?_⟩) | (with_reducible refine ⟨4, _, _, _, _, get4, rfl, rfl, ?_, ?_, ?_, ?_⟩) | (with_reducible refine ⟨5, _, _, _, _, get5, rfl, rfl, ?_, ?_, ?_, ?_⟩) | (with_reducible refine ⟨6, _, _, _, _, get6, rfl, rfl, ?_, ?_, ?_, ?_⟩)); (kernel_rfl); (simp [Value.cells]); (rfl); (clear st; intro w st))); (try simp only [nsl, Value.cells, unB] at st); (try clear hc); have hc := st.facts; (try simp only [nfl, nft, Nat.reduceAdd] at hc))
  go_end0
  unfold GetPostM
  exact ⟨rfl, _, _, ⟨gx, rfl, HGS.out, rfl⟩, by rw [HC.out]; exact st⟩
set_option maxRecDepth 100000 in
set_option maxHeartbeats 1000000 in
theorem risesIs1_any (b : Nat) (a : Option Addr) (n c : Nat) (l : List Role) (r : Role) (W : World) (hb : Blk W b [.slice a n c]) (h : Fl W a n l) (hn : n ≤ 2000000) :
    Calls Try.prog 38 #[rV r, .pointer (some ⟨b, 0, none⟩)] W fun e w' => e = .returned (.bool (decide (r ∈ l))) ∧ Ext W w' := by
  have HH := Lib.hid (fun W' (hx : Ext W W') => refRoleHas_any a n c l r W' (Arr.ext h hx) hn)
  have HB := Lib.hid hb
  obtain ⟨v, hv⟩ : ∃ v, decide (r ∈ l) = v := ⟨_, rfl⟩
  rw [hv] at HH ⊢
  clear h hb hv
  obtain ⟨o, d⟩ := r
  have st := Own.startOld W
  unfold rV S at HH ⊢
  simp only at HH ⊢
  have r0 := HB.out.cell 0
  simp only [List.getElem?_cons_zero] at r0
  have hr0 := st.addEl (i := 0) get0 b 0 (.slice a n c) [] ⟨r0, trivial⟩
  replace st := hr0
  clear r0 hr0
  simp only [List.cons_append, List.nil_append] at st
  (try simp only [nsl, Value.cells, unB] at st)
  (try clear hc); have hc := st.facts; (try simp only [nfl, nft, elI, elF, Nat.reduceAdd] at hc)
  go_enter Try.func38, Try.ntmps38
  go_wp2_with ((((with_reducible refine wl_box ?_ (fun K hK => ?_)); rfl; refine owp_box (o := ⟨some 2, _, _, _, _, _⟩) rfl st ?_; apply Exists.intro; refine ⟨?_, ?_⟩; (focus (go_simp; try rfl)); (clear st; intro b2 w hb st; clear hb))); (try simp only [nsl, Value.cells, unB] at st); (try clear hc); have hc := st.facts; (try simp only [nfl, nft, elI, elF, Nat.reduceAdd] at hc))
  refine (HH.out _ st.ext0).mono ?_
  rintro en w ⟨rfl, hx⟩
  replace st := st.ext hx
  clear hx
  (try clear hc); have hc := st.facts; (try simp only [nfl, nft, elI, elF, Nat.reduceAdd] at hc)
  go_wp2_with ((((with_reducible refine wl_box ?_ (fun K hK => ?_)); rfl; refine owp_box (o := ⟨some 2, _, _, _, _, _⟩) rfl st ?_; apply Exists.intro; refine ⟨?_, ?_⟩; (focus (go_simp; try rfl)); (clear st; intro b2 w hb st; clear hb))); (try simp only [nsl, Value.cells, unB] at st); (try clear hc); have hc := st.facts; (try simp only [nfl, nft, elI, elF, Nat.reduceAdd] at hc))
  go_ret
  exact ⟨rfl, st.ext0⟩
set_option maxRecDepth 100000 in
set_option maxHeartbeats 1000000 in
theorem risesIs2_any (b : Nat) (a : Option Addr) (n c : Nat) (l : List Role) (r : Role) (W : World) (hb : Blk W b [.slice a n c]) (h : Fl W a n l) (hn : n ≤ 2000000) :
    Calls Try.prog 39 #[rV r, .pointer (some ⟨b, 0, none⟩)] W fun e w' => e = .returned (.bool (decide (r ∈ l))) ∧ Ext W w' := by
  have HH := Lib.hid (fun W' (hx : Ext W W') => refRoleHas_any a n c l r W' (Arr.ext h hx) hn)
  have HB := Lib.hid hb
  obtain ⟨v, hv⟩ : ∃ v, decide (r ∈ l) = v := ⟨_, rfl⟩
  rw [hv] at HH ⊢
  clear h hb hv
  obtain ⟨o, d⟩ := r
  have st := Own.startOld W
  unfold rV S at HH ⊢
  simp only at HH ⊢
  have r0 := HB.out.cell 0
  simp only [List.getElem?_cons_zero] at r0
  have hr0 := st.addEl (i := 0) get0 b 0 (.slice a n c) [] ⟨r0, trivial⟩
  replace st := hr0
  clear r0 hr0
  simp only [List.cons_append, List.nil_append] at st
  (try simp only [nsl, Value.cells, unB] at st)
  (try clear hc); have hc := st.facts; (try simp only [nfl, nft, elI, elF, Nat.reduceAdd] at hc)
  go_enter Try.func39, Try.ntmps39
  go_wp2_with ((((with_reducible refine wl_box ?_ (fun K hK => ?_)); rfl; refine owp_box (o := ⟨some 2, _, _, _, _, _⟩) rfl st ?_; apply Exists.intro; refine ⟨?_, ?_⟩; (focus (go_simp; try rfl)); (clear st; intro b2 w hb st; clear hb))); (try simp only [nsl, Value.cells, unB] at st); (try clear hc); have hc := st.facts; (try simp only [nfl, nft, elI, elF, Nat.reduceAdd] at hc))
  refine (HH.out _ st.ext0).mono ?_
  rintro en w ⟨rfl, hx⟩
  replace st := st.ext hx
  clear hx
  (try clear hc); have hc := st.facts; (try simp only [nfl, nft, elI, elF, Nat.reduceAdd] at hc)
  go_wp2_with ((((with_reducible refine wl_box ?_ (fun K hK => ?_)); rfl; refine owp_box (o := ⟨some 2, _, _, _, _, _⟩) rfl st ?_; apply Exists.intro; refine ⟨?_, ?_⟩; (focus (go_simp; try rfl)); (clear st; intro b2 w hb st; clear hb))); (try simp only [nsl, Value.cells, unB] at st); (try clear hc); have hc := st.facts; (try simp only [nfl, nft, elI, elF, Nat.reduceAdd] at hc))
  go_ret
  exact ⟨rfl, st.ext0⟩
set_option maxRecDepth 100000 in
set_option maxHeartbeats 1000000 in
theorem first11Is2_any (b : Nat) (q r : Role) (x y z : Value) (W : World) (hb : Blk W b [x, y, .string ⟨q.1.toArray⟩, .string ⟨q.2.toArray⟩, z]) :
    Calls Try.prog 74 #[rV r, .pointer (some ⟨b, 0, none⟩)] W fun e w' => e = .returned (.bool (roleEq r q)) ∧ Ext W w' := by
  obtain ⟨o, d⟩ := r
  obtain ⟨o2, d2⟩ := q
  have heq := eqRole o d o2 d2
  obtain ⟨v, hv⟩ : ∃ v, roleEq (o, d) (o2, d2) = v := ⟨_, rfl⟩
  rw [hv] at heq ⊢
  clear hv
  have st := Own.startOld W
  unfold rV S
  simp only
  have r2 := hb.cell 2
  have r3 := hb.cell 3
  simp at r2 r3
  replace st := st.addEl (i := 0) get0 b 2 (.string ⟨o2.toArray⟩) [(3, .string ⟨d2.toArray⟩)] ⟨r2, r3, trivial⟩
  clear r2 r3 hb
  simp only [List.cons_append, List.nil_append] at st
  (try simp only [nsl, Value.cells, unB] at st)
  (try clear hc); have hc := st.facts; (try simp only [nfl, nft, elI, elF, Nat.reduceAdd] at hc)
  go_enter Try.func74, Try.ntmps74
  go_wp2_with ((((with_reducible refine wl_box ?_ (fun K hK => ?_)); rfl; refine owp_box (o := ⟨some 2, _, _, _, _, _⟩) rfl st ?_; apply Exists.intro; refine ⟨?_, ?_⟩; (focus (go_simp; try rfl)); (clear st; intro b2 w hb st; clear hb))); (try simp only [nsl, Value.cells, unB] at st); (try clear hc); have hc := st.facts; (try simp only [nfl, nft, elI, elF, Nat.reduceAdd] at hc))
  go_ret
  exact ⟨rfl, st.ext0⟩
set_option maxRecDepth 100000 in
set_option maxHeartbeats 1000000 in
theorem first11Is3_any (b : Nat) (q r : Role) (x y z : Value) (W : World) (hb : Blk W b [x, y, .string ⟨q.1.toArray⟩, .string ⟨q.2.toArray⟩, z]) :
    Calls Try.prog 75 #[rV r, .pointer (some ⟨b, 0, none⟩)] W fun e w' => e = .returned (.bool (roleEq r q)) ∧ Ext W w' := by
  obtain ⟨o, d⟩ := r
  obtain ⟨o2, d2⟩ := q
  have heq := eqRole o d o2 d2
  obtain ⟨v, hv⟩ : ∃ v, roleEq (o, d) (o2, d2) = v := ⟨_, rfl⟩
  rw [hv] at heq ⊢
  clear hv
  have st := Own.startOld W
  unfold rV S
  simp only
  have r2 := hb.cell 2
  have r3 := hb.cell 3
  simp at r2 r3
  replace st := st.addEl (i := 0) get0 b 2 (.string ⟨o2.toArray⟩) [(3, .string ⟨d2.toArray⟩)] ⟨r2, r3, trivial⟩
  clear r2 r3 hb
  simp only [List.cons_append, List.nil_append] at st
  (try simp only [nsl, Value.cells, unB] at st)
  (try clear hc); have hc := st.facts; (try simp only [nfl, nft, elI, elF, Nat.reduceAdd] at hc)
  go_enter Try.func75, Try.ntmps75
  go_wp2_with ((((with_reducible refine wl_box ?_ (fun K hK => ?_)); rfl; refine owp_box (o := ⟨some 2, _, _, _, _, _⟩) rfl st ?_; apply Exists.intro; refine ⟨?_, ?_⟩; (focus (go_simp; try rfl)); (clear st; intro b2 w hb st; clear hb))); (try simp only [nsl, Value.cells, unB] at st); (try clear hc); have hc := st.facts; (try simp only [nfl, nft, elI, elF, Nat.reduceAdd] at hc))
  go_ret
  exact ⟨rfl, st.ext0⟩
end Go.Proofs.Ythjaopojlhdjpaa

namespace Go.Proofs.Ythjaopojlhdjpaa
set_option linter.unusedSimpArgs false
set_option linter.unusedVariables false
open Go Go.RowKit
theorem FoL.mono {b b' : Nat} (hb : b ≤ b') {f : Fo} (h : FoL b f) : FoL b' f := by
  induction h with
  | mk h1 h2 _ ih => exact .mk (Nat.le_trans h1 hb) (Nat.le_trans h2 hb) ih
def foA : Fo := .mk 1 0 ([97], [114]) []
def foB : Fo := .mk 1 0 ([98], [114]) []
def foAB : Fo := .mk 4 1 ([], []) [foA, foB]
theorem foAB_R : foR foAB = true := by decide +kernel
theorem fo0_R : foR (.mk 0 0 ([], []) []) = false := by decide +kernel
theorem foAB_nodes : foAB.nodes = 3 := by decide +kernel
theorem foAB_deep : foAB.deep = 2 := by decide +kernel
theorem foAB_atoms : foAB.atoms = [([97], [114]), ([98], [114])] := by decide +kernel
theorem foAB_holds : foAB.holds (fun r => roleEq r ([98], [114])) = true := by decide +kernel
theorem foA_holds : foA.holds (fun r => roleEq r ([98], [114])) = false := by decide +kernel
theorem foA_cmp : cmp2 (wrF foA) (wrF foAB) = -1 := by decide +kernel
theorem two_set : (roleSet [(([97], [114]) : Role), ([98], [114])]).length = 2 := by
  have h := roleSet_set [(([97], [114]) : Role), ([98], [114])]
  have h2 : SSet roleLt roleR [(([97], [114]) : Role), ([98], [114])] [([97], [114]), ([98], [114])] := ⟨by decide +kernel, fun x => by
    constructor
    · intro q
      rcases List.mem_cons.1 q with e | e
      · rw [e]; exact ⟨by simp, by decide +kernel⟩
      · rw [List.mem_singleton.1 e]; exact ⟨by simp, by decide +kernel⟩
    · exact fun q => q.1⟩
  rw [SSet.uniq (roleOrd roleR) h h2]
  rfl
theorem L_fo {b : Nat} {op k : Int} {o d : List UInt8} {kids : List Fo} (h1 : o.length ≤ b) (h2 : d.length ≤ b) (hk : ∀ x ∈ kids, FoL b x) : FoL b (.mk op k (o, d) kids) := .mk h1 h2 hk
theorem foA_L : FoL 100000 foA := L_fo (by decide) (by decide) (by simp)
theorem foB_L : FoL 100000 foB := L_fo (by decide) (by decide) (by simp)
theorem foAB_L : FoL 100000 foAB := L_fo (by decide) (by decide) (fun x hx => by
  rcases List.mem_cons.1 hx with e | e
  · rw [e]; exact foA_L
  · rw [List.mem_singleton.1 e]; exact foB_L)
theorem ok_leaf (W : World) (op k : Int) (r : Role) : FmOk W (.mk op k r none 0 0 []) := FmIn.mk ⟨Nat.le_refl _, by simp [maxLen]⟩ (Fl.nil _ _) (fun h => by omega) (by simp)
def fmA : Fm := .mk 1 0 ([97], [114]) none 0 0 []
def fmB : Fm := .mk 1 0 ([98], [114]) none 0 0 []
theorem fmA_strip : fmA.strip = foA := rfl
set_option maxRecDepth 100000 in
set_option maxHeartbeats 8000000 in
theorem first11_any (W : World) : Calls Try.prog 37 #[] W fun e w' => e = .returned (.bool true) ∧ Ext W w' := by
  have st := Own.startOld W
  (try simp only [nsl, Value.cells, unB] at st)
  (try clear hc); have hc := st.facts; (try simp only [nfl, nft, Nat.reduceAdd] at hc)
  go_enter Try.func37, Try.ntmps37
  go_wp2_with ((first
        | ((with_reducible refine wl_alloc ?_ (fun K hK => ?_)); rfl; refine owp_alloc (o := ⟨some 1, _, _, _, _, _⟩) rfl st ?_; apply Exists.intro; apply Exists.intro; refine ⟨?_, ?_⟩; (focus (first | (go_simp; done) | (go_simp; rfl))); (clear st; intro b1 w hb st; clear hb))
        | ((with_reducible refine wl_store ?_ (fun K hK => ?_)); rfl; refine owp_store rfl st ?_; apply Exists.intro; apply Exists.intro; refine ⟨?_, ?_, ?_⟩; (focus (go_simp; try rfl)); (focus (go_simp; try rfl)); (first | (with_reducible refine ⟨0, _, _, _, _, get0, rfl, rfl, ?_, ?_, ?_, ?_⟩) | (with_reducible refine ⟨1, _, _, _, _, get1, rfl, rfl, ?_, ?_, ?_, ?_⟩) | (with_reducible refine ⟨2, _, _, _, _, get2, rfl, rfl, ?_, ?_, ?_, ?_⟩) | (with_reducible refine ⟨3, _, _, _, _, get3, rfl, rfl, ?_, ?_, ?_, ?_⟩) | (with_reducible refine ⟨4, _, _, _, _, get4, rfl, rfl, ?_, ?_, ?_, ?_⟩) | (with_reducible refine ⟨5, _, _, _, _, get5, rfl, rfl, ?_, ?_, ?_, ?_⟩) | (with_reducible refine ⟨6, _, _, _, _, get6, rfl, rfl, ?_, ?_, ?_, ?_⟩) | (with_reducible refine ⟨7, _, _, _, _, get7, rfl, rfl, ?_, ?_, ?_, ?_⟩) | (with_reducible refine ⟨8, _, _, _, _, get8, rfl, rfl, ?_, ?_, ?_, ?_⟩) | (with_reducible refine ⟨9, _, _, _, _, get9, rfl, rfl, ?_, ?_, ?_, ?_⟩)); (kernel_rfl); (simp [Value.cells]); (rfl); (clear st; intro w st))
        | ((with_reducible refine wl_alloc ?_ (fun K hK => ?_)); rfl; refine owp_alloc (o := ⟨some 2, _, _, _, _, _⟩) rfl st ?_; apply Exists.intro; apply Exists.intro; refine ⟨?_, ?_⟩; (focus (first | (go_simp; done) | (go_simp; rfl))); (clear st; intro b2 w hb st; clear hb))
        | ((with_reducible refine wl_buildSlice ?_ (fun K hK => ?_)); rfl; refine owp_buildSlice (o := ⟨some 16, _, _, _, _, _⟩) rfl st ?_; apply Exists.intro; apply Exists.intro; apply Exists.intro; apply Exists.intro; refine ⟨?_, ?_⟩; (focus (go_simp; (first | done | exact ⟨⟨rfl, rfl⟩, rfl⟩ | rfl))); (clear st; intro b16 w hb st; clear hb))
        | ((with_reducible refine wl_alloc ?_ (fun K hK => ?_)); rfl; refine owp_alloc (o := ⟨some 3, _, _, _, _, _⟩) rfl st ?_; apply Exists.intro; apply Exists.intro; refine ⟨?_, ?_⟩; (focus (first | (go_simp; done) | (go_simp; rfl))); (clear st; intro b3 w hb st; clear hb))
        | ((with_reducible refine wl_box ?_ (fun K hK => ?_)); rfl; refine owp_box (o := ⟨some 19, _, _, _, _, _⟩) rfl st ?_; apply Exists.intro; refine ⟨?_, ?_⟩; (focus (go_simp; try rfl)); (clear st; intro b19 w hb st; clear hb))
        | ((with_reducible refine wl_alloc ?_ (fun K hK => ?_)); rfl; refine owp_alloc (o := ⟨some 6, _, _, _, _, _⟩) rfl st ?_; apply Exists.intro; apply Exists.intro; refine ⟨?_, ?_⟩; (focus (first | (go_simp; done) | (go_simp; rfl))); (clear st; intro b6 w hb st; clear hb))); (try simp only [nsl, Value.cells, unB] at st); (try clear hc); have hc := st.facts; (try simp only [nfl, nft, Nat.reduceAdd] at hc))
  replace st := (st.blkToFl (i := 3) (n := 2) [fmA, fmB] get3 rfl rfl).bare (I := fmsI [fmA, fmB]) (fun f hf => by
    rcases List.mem_cons.1 hf with e | e
    · rw [e]; exact FmIn.mk ⟨Nat.le_refl _, by simp [maxLen]⟩ (Fl.nil _ _) (fun h => by omega) (by simp)
    · rw [List.mem_singleton.1 e]; exact FmIn.mk ⟨Nat.le_refl _, by simp [maxLen]⟩ (Fl.nil _ _) (fun h => by omega) (by simp))
  simp only [List.set, List.cons_append, List.nil_append] at st
  replace st := st.mkFm (i := 3) (j := 6) get3 get6 4 1 ([], []) 2 ⟨Nat.le_refl _, by simp [maxLen]⟩
  simp only [List.cons_append, List.nil_append] at st
  replace st := st.newPen (i := 5) get5
  simp only [List.set] at st
  obtain ⟨fx, hfx⟩ : ∃ g, Fm.mk 4 1 ([], []) (some ⟨b16, 0, none⟩) 2 2 [fmA, fmB] = g := ⟨_, rfl⟩
  have hsx : fx.strip = foAB := by rw [← hfx]; rfl
  have HV : Hid (fmV fx = .agg #[.int .i64 4, .int .i64 1, .string ⟨#[]⟩, .string ⟨#[]⟩, .slice (some ⟨b16, 0, none⟩) 2 2]) := Lib.hid (by rw [← hfx]; rfl)
  rw [hfx] at st
  clear hfx
  have HP := Lib.hid (fun (fr al : Nat → Prop) (W : World) (p : Nat) (st : Own fr al W [penI p [], fmI fx] W) => fmPut_yes fx st (by rw [hsx]; exact foAB_R) (by rw [hsx]; exact foAB_L) (by simp))
  have HS := Lib.hid (fun W' (h : FmOk W' fx) => fmSize_any fx W' h (by rw [hsx, foAB_nodes]; omega))
  have HAT := Lib.hid (fun W' (h : FmOk W' fx) => fmAtoms_f fx W' h (by rw [hsx, foAB_nodes]; omega) (by rw [hsx]; exact foAB_L))
  have HR := Lib.hid (fun W' (h : FmOk W' fx) => fmRight_any fx W' h (by rw [hsx, foAB_nodes]; omega) (by rw [hsx]; exact foAB_L))
  have HT1 := Lib.hid (fun W' b x y z (h : FmOk W' fx) (hb : Blk W' b [x, y, .string ⟨#[98]⟩, .string ⟨#[114]⟩, z]) => fmTrue_any 74 #[.pointer (some ⟨b, 0, none⟩)] (fun r => roleEq r ([98], [114])) (fun _ _ => by kernel_rfl) fx W' h (by rw [hsx, foAB_nodes]; omega) (by rw [hsx]; exact foAB_L) (fun r _ w hw => first11Is2_any b ([98], [114]) r x y z w (hb.ext hw)))
  have HT2 := Lib.hid (fun W' b x y z (hb : Blk W' b [x, y, .string ⟨#[98]⟩, .string ⟨#[114]⟩, z]) => fmTrue_any 75 #[.pointer (some ⟨b, 0, none⟩)] (fun r => roleEq r ([98], [114])) (fun _ _ => by kernel_rfl) fmA W' (ok_leaf _ _ _ _) (by rw [fmA_strip]; decide) (by rw [fmA_strip]; exact foA_L) (fun r _ w hw => first11Is3_any b ([98], [114]) r x y z w (hb.ext hw)))
  have HCM := Lib.hid (fun W' (h : FmOk W' fx) => fmCompare_any fmA fx W' (ok_leaf _ _ _ _) h (by rw [fmA_strip]; decide) (by rw [hsx, foAB_nodes]; omega) (by rw [fmA_strip]; exact foA_L) (by rw [hsx]; exact foAB_L))
  have HSM := Lib.hid (fun (g : Fm) W' (hg : FmOk W' g) (h : FmOk W' fx) => fmSame_any g fx W' hg h)
  have HR0 := Lib.hid (fun W' => fmRight_any (.mk 0 0 ([], []) none 0 0 []) W' (ok_leaf _ _ _ _) (by decide +kernel) (L_fo (by decide) (by decide) (by simp [stripL])))
  rw [show (Fm.mk 0 0 ([], []) none 0 0 []).strip = .mk 0 0 ([], []) [] from rfl, fo0_R] at HR0
  rw [fmA_strip, foA_holds, Bool.and_false] at HT2
  rw [hsx] at HP HS HAT HR HT1 HCM HSM
  rw [foAB_nodes, foAB_deep] at HS
  rw [foAB_atoms, two_set] at HAT
  rw [foAB_R] at HR HT1
  rw [foAB_holds] at HT1
  rw [fmA_strip, foA_cmp] at HCM
  have hbl := bytes_len foAB (foR_parts foAB_R).2.2
  rw [foAB_nodes] at hbl
  have HRG := Lib.hid (fun (fr al : Nat → Prop) (W : World) (r b : Nat) (st : Own fr al W [rdI r foAB.bytes, blkI b zF] W) => first11Get_c foAB st foAB_R)
  obtain ⟨u, hu⟩ : ∃ u, foAB.bytes = u := ⟨_, rfl⟩
  rw [hu] at HP HRG hbl
  generalize roleSet [(([97], [114]) : Role), ([98], [114])] = rs at *
  rw [HV.out] at HP HS HAT HR HT1 HCM HSM
  rw [show fmV fmA = .agg #[.int .i64 1, .int .i64 0, .string ⟨#[97]⟩, .string ⟨#[114]⟩, .slice none 0 0] from rfl] at HT2 HCM
  rw [show fmV (Fm.mk 0 0 ([], []) none 0 0 []) = .agg #[.int .i64 0, .int .i64 0, .string ⟨#[]⟩, .string ⟨#[]⟩, .slice none 0 0] from rfl] at HR0
  clear hu hsx
  (try simp only [nsl, Value.cells, unB] at st)
  (try clear hc); have hc := st.facts; (try simp only [nfl, nft, Nat.reduceAdd] at hc)
  obtain ⟨fr', al', st', back⟩ := st.sub [5, 7] (by decide) (by simp)
  (try simp only [nsl, Value.cells, unB] at st')
  refine (HP.out _ _ _ _ st').mono ?_
  clear st'
  rintro en w ⟨rfl, st'⟩
  replace st := back _ _ (by simp) st'
  clear back st'
  (try simp only [nsl, Value.cells, unB] at st)
  (try clear hc); have hc := st.facts; (try simp only [nfl, nft, Nat.reduceAdd] at hc)
  (try simp only [List.nil_append] at st)
  (try simp only [nsl, Value.cells, unB] at st)
  (try clear hc); have hc := st.facts; (try simp only [nfl, nft, Nat.reduceAdd] at hc)
  go_wp2_with ((first
        | ((with_reducible refine wl_alloc ?_ (fun K hK => ?_)); rfl; refine owp_alloc (o := ⟨some 1, _, _, _, _, _⟩) rfl st ?_; apply Exists.intro; apply Exists.intro; refine ⟨?_, ?_⟩; (focus (first | (go_simp; done) | (go_simp; rfl))); (clear st; intro b1 w hb st; clear hb))
        | ((with_reducible refine wl_store ?_ (fun K hK => ?_)); rfl; refine owp_store rfl st ?_; apply Exists.intro; apply Exists.intro; refine ⟨?_, ?_, ?_⟩; (focus (go_simp; try rfl)); (focus (go_simp; try rfl)); (first | (with_reducible refine ⟨0, _, _, _, _, get0, rfl, rfl, ?_, ?_, ?_, ?_⟩) | (with_reducible refine ⟨1, _, _, _, _, get1, rfl, rfl, ?_, ?_, ?_, ?_⟩) | (with_reducible refine ⟨2, _, _, _, _, get2, rfl, rfl, ?_, ?_, ?_, ?_⟩) | (with_reducible refine ⟨3, _, _, _, _, get3, rfl, rfl, ?_, ?_, ?_, ?_⟩) | (with_reducible refine ⟨4, _, _, _, _, get4, rfl, rfl, ?_, ?_, ?_, ?_⟩) | (with_reducible refine ⟨5, _, _, _, _, get5, rfl, rfl, ?_, ?_, ?_, ?_⟩) | (with_reducible refine ⟨6, _, _, _, _, get6, rfl, rfl, ?_, ?_, ?_, ?_⟩) | (with_reducible refine ⟨7, _, _, _, _, get7, rfl, rfl, ?_, ?_, ?_, ?_⟩) | (with_reducible refine ⟨8, _, _, _, _, get8, rfl, rfl, ?_, ?_, ?_, ?_⟩) | (with_reducible refine ⟨9, _, _, _, _, get9, rfl, rfl, ?_, ?_, ?_, ?_⟩)); (kernel_rfl); (simp [Value.cells]); (rfl); (clear st; intro w st))
        | ((with_reducible refine wl_alloc ?_ (fun K hK => ?_)); rfl; refine owp_alloc (o := ⟨some 2, _, _, _, _, _⟩) rfl st ?_; apply Exists.intro; apply Exists.intro; refine ⟨?_, ?_⟩; (focus (first | (go_simp; done) | (go_simp; rfl))); (clear st; intro b2 w hb st; clear hb))
        | ((with_reducible refine wl_buildSlice ?_ (fun K hK => ?_)); rfl; refine owp_buildSlice (o := ⟨some 16, _, _, _, _, _⟩) rfl st ?_; apply Exists.intro; apply Exists.intro; apply Exists.intro; apply Exists.intro; refine ⟨?_, ?_⟩; (focus (go_simp; (first | done | exact ⟨⟨rfl, rfl⟩, rfl⟩ | rfl))); (clear st; intro b16 w hb st; clear hb))
        | ((with_reducible refine wl_alloc ?_ (fun K hK => ?_)); rfl; refine owp_alloc (o := ⟨some 3, _, _, _, _, _⟩) rfl st ?_; apply Exists.intro; apply Exists.intro; refine ⟨?_, ?_⟩; (focus (first | (go_simp; done) | (go_simp; rfl))); (clear st; intro b3 w hb st; clear hb))
        | ((with_reducible refine wl_box ?_ (fun K hK => ?_)); rfl; refine owp_box (o := ⟨some 19, _, _, _, _, _⟩) rfl st ?_; apply Exists.intro; refine ⟨?_, ?_⟩; (focus (go_simp; try rfl)); (clear st; intro b19 w hb st; clear hb))
        | ((with_reducible refine wl_alloc ?_ (fun K hK => ?_)); rfl; refine owp_alloc (o := ⟨some 6, _, _, _, _, _⟩) rfl st ?_; apply Exists.intro; apply Exists.intro; refine ⟨?_, ?_⟩; (focus (first | (go_simp; done) | (go_simp; rfl))); (clear st; intro b6 w hb st; clear hb))); (try simp only [nsl, Value.cells, unB] at st); (try clear hc); have hc := st.facts; (try simp only [nfl, nft, Nat.reduceAdd] at hc))
  obtain ⟨fr', al', st', back⟩ := st.sub [5] (by decide) (by simp)
  (try simp only [nsl, Value.cells, unB] at st')
  refine (penBytes_c st' (by omega)).mono ?_
  clear st'
  rintro en w ⟨pa, pc, rfl, hpc, st'⟩
  replace st := back _ _ (by simp) st'
  clear back st'
  (try simp only [nsl, Value.cells, unB] at st)
  (try clear hc); have hc := st.facts; (try simp only [nfl, nft, Nat.reduceAdd] at hc)
  go_wp2_with ((first
        | ((with_reducible refine wl_alloc ?_ (fun K hK => ?_)); rfl; refine owp_alloc (o := ⟨some 1, _, _, _, _, _⟩) rfl st ?_; apply Exists.intro; apply Exists.intro; refine ⟨?_, ?_⟩; (focus (first | (go_simp; done) | (go_simp; rfl))); (clear st; intro b1 w hb st; clear hb))
        | ((with_reducible refine wl_store ?_ (fun K hK => ?_)); rfl; refine owp_store rfl st ?_; apply Exists.intro; apply Exists.intro; refine ⟨?_, ?_, ?_⟩; (focus (go_simp; try rfl)); (focus (go_simp; try rfl)); (first | (with_reducible refine ⟨0, _, _, _, _, get0, rfl, rfl, ?_, ?_, ?_, ?_⟩) | (with_reducible refine ⟨1, _, _, _, _, get1, rfl, rfl, ?_, ?_, ?_, ?_⟩) | (with_reducible refine ⟨2, _, _, _, _, get2, rfl, rfl, ?_, ?_, ?_, ?_⟩) | (with_reducible refine ⟨3, _, _, _, _, get3, rfl, rfl, ?_, ?_, ?_, ?_⟩) | (with_reducible refine ⟨4, _, _, _, _, get4, rfl, rfl, ?_, ?_, ?_, ?_⟩) | (with_reducible refine ⟨5, _, _, _, _, get5, rfl, rfl, ?_, ?_, ?_, ?_⟩) | (with_reducible refine ⟨6, _, _, _, _, get6, rfl, rfl, ?_, ?_, ?_, ?_⟩) | (with_reducible refine ⟨7, _, _, _, _, get7, rfl, rfl, ?_, ?_, ?_, ?_⟩) | (with_reducible refine ⟨8, _, _, _, _, get8, rfl, rfl, ?_, ?_, ?_, ?_⟩) | (with_reducible refine ⟨9, _, _, _, _, get9, rfl, rfl, ?_, ?_, ?_, ?_⟩)); (kernel_rfl); (simp [Value.cells]); (rfl); (clear st; intro w st))
        | ((with_reducible refine wl_alloc ?_ (fun K hK => ?_)); rfl; refine owp_alloc (o := ⟨some 2, _, _, _, _, _⟩) rfl st ?_; apply Exists.intro; apply Exists.intro; refine ⟨?_, ?_⟩; (focus (first | (go_simp; done) | (go_simp; rfl))); (clear st; intro b2 w hb st; clear hb))
        | ((with_reducible refine wl_buildSlice ?_ (fun K hK => ?_)); rfl; refine owp_buildSlice (o := ⟨some 16, _, _, _, _, _⟩) rfl st ?_; apply Exists.intro; apply Exists.intro; apply Exists.intro; apply Exists.intro; refine ⟨?_, ?_⟩; (focus (go_simp; (first | done | exact ⟨⟨rfl, rfl⟩, rfl⟩ | rfl))); (clear st; intro b16 w hb st; clear hb))
        | ((with_reducible refine wl_alloc ?_ (fun K hK => ?_)); rfl; refine owp_alloc (o := ⟨some 3, _, _, _, _, _⟩) rfl st ?_; apply Exists.intro; apply Exists.intro; refine ⟨?_, ?_⟩; (focus (first | (go_simp; done) | (go_simp; rfl))); (clear st; intro b3 w hb st; clear hb))
        | ((with_reducible refine wl_box ?_ (fun K hK => ?_)); rfl; refine owp_box (o := ⟨some 19, _, _, _, _, _⟩) rfl st ?_; apply Exists.intro; refine ⟨?_, ?_⟩; (focus (go_simp; try rfl)); (clear st; intro b19 w hb st; clear hb))
        | ((with_reducible refine wl_alloc ?_ (fun K hK => ?_)); rfl; refine owp_alloc (o := ⟨some 6, _, _, _, _, _⟩) rfl st ?_; apply Exists.intro; apply Exists.intro; refine ⟨?_, ?_⟩; (focus (first | (go_simp; done) | (go_simp; rfl))); (clear st; intro b6 w hb st; clear hb))); (try simp only [nsl, Value.cells, unB] at st); (try clear hc); have hc := st.facts; (try simp only [nfl, nft, Nat.reduceAdd] at hc))
  have hby := st.by (i := 9) get9
  refine (readGetM_c (i := 8) (b := b6) (z := zF) st get8 hby hpc (by omega) 72 (fun _ _ => by kernel_rfl) (.ok (foAB, [])) fmM (fun fr al w r st => HRG.out _ _ _ _ _ st)).mono ?_
  rintro en w ⟨r1, cs, M, rfl, ⟨g, rfl, hg, rfl⟩, st'⟩
  clear st HRG
  have HGS := Lib.hid hg
  clear hg hby hpc
  simp only [gotE, List.set, List.cons_append, List.nil_append] at st' ⊢
  have st := st'.keep [2, 3, 5, 8, 9, 11] (by decide) (by simp)
  clear st'
  simp only [pick, List.map_cons, List.map_nil, List.getElem?_cons_zero, List.getElem?_cons_succ, Option.getD_some] at st
  obtain ⟨gx, hgx⟩ : ∃ x, g = x := ⟨_, rfl⟩
  obtain ⟨op, k, ⟨o, d⟩, a, n, c, kids⟩ := g
  have HVG : Hid (fmV gx = .agg #[.int .i64 op, .int .i64 k, .string ⟨o.toArray⟩, .string ⟨d.toArray⟩, .slice a n c]) := Lib.hid (by rw [← hgx]; rfl)
  have HCG : Hid (fmC gx = [.int .i64 op, .int .i64 k, .string ⟨o.toArray⟩, .string ⟨d.toArray⟩, .slice a n c]) := Lib.hid (by rw [← hgx]; rfl)
  rw [hgx] at HGS st
  have HSG := Lib.hid (fun W' hg h => HSM.out gx W' hg h)
  rw [HGS.out, HVG.out, pB_t rfl] at HSG
  rw [HCG.out] at st
  clear hgx HSM
  (try simp only [nsl, Value.cells, unB] at st)
  (try clear hc); have hc := st.facts; (try simp only [nfl, nft, Nat.reduceAdd] at hc)
  go_wp2_with ((first
        | ((with_reducible refine wl_alloc ?_ (fun K hK => ?_)); rfl; refine owp_alloc (o := ⟨some 1, _, _, _, _, _⟩) rfl st ?_; apply Exists.intro; apply Exists.intro; refine ⟨?_, ?_⟩; (focus (first | (go_simp; done) | (go_simp; rfl))); (clear st; intro b1 w hb st; clear hb))
        | ((with_reducible refine wl_store ?_ (fun K hK => ?_)); rfl; refine owp_store rfl st ?_; apply Exists.intro; apply Exists.intro; refine ⟨?_, ?_, ?_⟩; (focus (go_simp; try rfl)); (focus (go_simp; try rfl)); (first | (with_reducible refine ⟨0, _, _, _, _, get0, rfl, rfl, ?_, ?_, ?_, ?_⟩) | (with_reducible refine ⟨1, _, _, _, _, get1, rfl, rfl, ?_, ?_, ?_, ?_⟩) | (with_reducible refine ⟨2, _, _, _, _, get2, rfl, rfl, ?_, ?_, ?_, ?_⟩) | (with_reducible refine ⟨3, _, _, _, _, get3, rfl, rfl, ?_, ?_, ?_, ?_⟩) | (with_reducible refine ⟨4, _, _, _, _, get4, rfl, rfl, ?_, ?_, ?_, ?_⟩) | (with_reducible refine ⟨5, _, _, _, _, get5, rfl, rfl, ?_, ?_, ?_, ?_⟩) | (with_reducible refine ⟨6, _, _, _, _, get6, rfl, rfl, ?_, ?_, ?_, ?_⟩) | (with_reducible refine ⟨7, _, _, _, _, get7, rfl, rfl, ?_, ?_, ?_, ?_⟩) | (with_reducible refine ⟨8, _, _, _, _, get8, rfl, rfl, ?_, ?_, ?_, ?_⟩) | (with_reducible refine ⟨9, _, _, _, _, get9, rfl, rfl, ?_, ?_, ?_, ?_⟩)); (kernel_rfl); (simp [Value.cells]); (rfl); (clear st; intro w st))
        | ((with_reducible refine wl_alloc ?_ (fun K hK => ?_)); rfl; refine owp_alloc (o := ⟨some 2, _, _, _, _, _⟩) rfl st ?_; apply Exists.intro; apply Exists.intro; refine ⟨?_, ?_⟩; (focus (first | (go_simp; done) | (go_simp; rfl))); (clear st; intro b2 w hb st; clear hb))
        | ((with_reducible refine wl_buildSlice ?_ (fun K hK => ?_)); rfl; refine owp_buildSlice (o := ⟨some 16, _, _, _, _, _⟩) rfl st ?_; apply Exists.intro; apply Exists.intro; apply Exists.intro; apply Exists.intro; refine ⟨?_, ?_⟩; (focus (go_simp; (first | done | exact ⟨⟨rfl, rfl⟩, rfl⟩ | rfl))); (clear st; intro b16 w hb st; clear hb))
        | ((with_reducible refine wl_alloc ?_ (fun K hK => ?_)); rfl; refine owp_alloc (o := ⟨some 3, _, _, _, _, _⟩) rfl st ?_; apply Exists.intro; apply Exists.intro; refine ⟨?_, ?_⟩; (focus (first | (go_simp; done) | (go_simp; rfl))); (clear st; intro b3 w hb st; clear hb))
        | ((with_reducible refine wl_box ?_ (fun K hK => ?_)); rfl; refine owp_box (o := ⟨some 19, _, _, _, _, _⟩) rfl st ?_; apply Exists.intro; refine ⟨?_, ?_⟩; (focus (go_simp; try rfl)); (clear st; intro b19 w hb st; clear hb))
        | ((with_reducible refine wl_alloc ?_ (fun K hK => ?_)); rfl; refine owp_alloc (o := ⟨some 6, _, _, _, _, _⟩) rfl st ?_; apply Exists.intro; apply Exists.intro; refine ⟨?_, ?_⟩; (focus (first | (go_simp; done) | (go_simp; rfl))); (clear st; intro b6 w hb st; clear hb))); (try simp only [nsl, Value.cells, unB] at st); (try clear hc); have hc := st.facts; (try simp only [nfl, nft, Nat.reduceAdd] at hc))
  refine (HS.out _ (st.fm (i := 3) get3)).mono ?_
  rintro en w ⟨n1, d1, rfl, hcn, hx⟩
  obtain ⟨rfl, rfl⟩ := hcn.1 (by decide)
  replace st := st.ext hx
  clear hx hcn
  (try simp only [nsl, Value.cells, unB] at st)
  (try clear hc); have hc := st.facts; (try simp only [nfl, nft, Nat.reduceAdd] at hc)
  go_wp2_with ((first
        | ((with_reducible refine wl_alloc ?_ (fun K hK => ?_)); rfl; refine owp_alloc (o := ⟨some 1, _, _, _, _, _⟩) rfl st ?_; apply Exists.intro; apply Exists.intro; refine ⟨?_, ?_⟩; (focus (first | (go_simp; done) | (go_simp; rfl))); (clear st; intro b1 w hb st; clear hb))
        | ((with_reducible refine wl_store ?_ (fun K hK => ?_)); rfl; refine owp_store rfl st ?_; apply Exists.intro; apply Exists.intro; refine ⟨?_, ?_, ?_⟩; (focus (go_simp; try rfl)); (focus (go_simp; try rfl)); (first | (with_reducible refine ⟨0, _, _, _, _, get0, rfl, rfl, ?_, ?_, ?_, ?_⟩) | (with_reducible refine ⟨1, _, _, _, _, get1, rfl, rfl, ?_, ?_, ?_, ?_⟩) | (with_reducible refine ⟨2, _, _, _, _, get2, rfl, rfl, ?_, ?_, ?_, ?_⟩) | (with_reducible refine ⟨3, _, _, _, _, get3, rfl, rfl, ?_, ?_, ?_, ?_⟩) | (with_reducible refine ⟨4, _, _, _, _, get4, rfl, rfl, ?_, ?_, ?_, ?_⟩) | (with_reducible refine ⟨5, _, _, _, _, get5, rfl, rfl, ?_, ?_, ?_, ?_⟩) | (with_reducible refine ⟨6, _, _, _, _, get6, rfl, rfl, ?_, ?_, ?_, ?_⟩) | (with_reducible refine ⟨7, _, _, _, _, get7, rfl, rfl, ?_, ?_, ?_, ?_⟩) | (with_reducible refine ⟨8, _, _, _, _, get8, rfl, rfl, ?_, ?_, ?_, ?_⟩) | (with_reducible refine ⟨9, _, _, _, _, get9, rfl, rfl, ?_, ?_, ?_, ?_⟩)); (kernel_rfl); (simp [Value.cells]); (rfl); (clear st; intro w st))
        | ((with_reducible refine wl_alloc ?_ (fun K hK => ?_)); rfl; refine owp_alloc (o := ⟨some 2, _, _, _, _, _⟩) rfl st ?_; apply Exists.intro; apply Exists.intro; refine ⟨?_, ?_⟩; (focus (first | (go_simp; done) | (go_simp; rfl))); (clear st; intro b2 w hb st; clear hb))
        | ((with_reducible refine wl_buildSlice ?_ (fun K hK => ?_)); rfl; refine owp_buildSlice (o := ⟨some 16, _, _, _, _, _⟩) rfl st ?_; apply Exists.intro; apply Exists.intro; apply Exists.intro; apply Exists.intro; refine ⟨?_, ?_⟩; (focus (go_simp; (first | done | exact ⟨⟨rfl, rfl⟩, rfl⟩ | rfl))); (clear st; intro b16 w hb st; clear hb))
        | ((with_reducible refine wl_alloc ?_ (fun K hK => ?_)); rfl; refine owp_alloc (o := ⟨some 3, _, _, _, _, _⟩) rfl st ?_; apply Exists.intro; apply Exists.intro; refine ⟨?_, ?_⟩; (focus (first | (go_simp; done) | (go_simp; rfl))); (clear st; intro b3 w hb st; clear hb))
        | ((with_reducible refine wl_box ?_ (fun K hK => ?_)); rfl; refine owp_box (o := ⟨some 19, _, _, _, _, _⟩) rfl st ?_; apply Exists.intro; refine ⟨?_, ?_⟩; (focus (go_simp; try rfl)); (clear st; intro b19 w hb st; clear hb))
        | ((with_reducible refine wl_alloc ?_ (fun K hK => ?_)); rfl; refine owp_alloc (o := ⟨some 6, _, _, _, _, _⟩) rfl st ?_; apply Exists.intro; apply Exists.intro; refine ⟨?_, ?_⟩; (focus (first | (go_simp; done) | (go_simp; rfl))); (clear st; intro b6 w hb st; clear hb))); (try simp only [nsl, Value.cells, unB] at st); (try clear hc); have hc := st.facts; (try simp only [nfl, nft, Nat.reduceAdd] at hc))
  refine (HSG.out _ (st.fm (i := 5) get5) (st.fm (i := 3) get3)).mono ?_
  rintro en w ⟨rfl, hx⟩
  replace st := st.ext hx
  clear hx
  (try clear hc); have hc := st.facts; (try simp only [nfl, nft, Nat.reduceAdd] at hc)
  go_wp2_with ((first
        | ((with_reducible refine wl_alloc ?_ (fun K hK => ?_)); rfl; refine owp_alloc (o := ⟨some 1, _, _, _, _, _⟩) rfl st ?_; apply Exists.intro; apply Exists.intro; refine ⟨?_, ?_⟩; (focus (first | (go_simp; done) | (go_simp; rfl))); (clear st; intro b1 w hb st; clear hb))
        | ((with_reducible refine wl_store ?_ (fun K hK => ?_)); rfl; refine owp_store rfl st ?_; apply Exists.intro; apply Exists.intro; refine ⟨?_, ?_, ?_⟩; (focus (go_simp; try rfl)); (focus (go_simp; try rfl)); (first | (with_reducible refine ⟨0, _, _, _, _, get0, rfl, rfl, ?_, ?_, ?_, ?_⟩) | (with_reducible refine ⟨1, _, _, _, _, get1, rfl, rfl, ?_, ?_, ?_, ?_⟩) | (with_reducible refine ⟨2, _, _, _, _, get2, rfl, rfl, ?_, ?_, ?_, ?_⟩) | (with_reducible refine ⟨3, _, _, _, _, get3, rfl, rfl, ?_, ?_, ?_, ?_⟩) | (with_reducible refine ⟨4, _, _, _, _, get4, rfl, rfl, ?_, ?_, ?_, ?_⟩) | (with_reducible refine ⟨5, _, _, _, _, get5, rfl, rfl, ?_, ?_, ?_, ?_⟩) | (with_reducible refine ⟨6, _, _, _, _, get6, rfl, rfl, ?_, ?_, ?_, ?_⟩) | (with_reducible refine ⟨7, _, _, _, _, get7, rfl, rfl, ?_, ?_, ?_, ?_⟩) | (with_reducible refine ⟨8, _, _, _, _, get8, rfl, rfl, ?_, ?_, ?_, ?_⟩) | (with_reducible refine ⟨9, _, _, _, _, get9, rfl, rfl, ?_, ?_, ?_, ?_⟩)); (kernel_rfl); (simp [Value.cells]); (rfl); (clear st; intro w st))
        | ((with_reducible refine wl_alloc ?_ (fun K hK => ?_)); rfl; refine owp_alloc (o := ⟨some 2, _, _, _, _, _⟩) rfl st ?_; apply Exists.intro; apply Exists.intro; refine ⟨?_, ?_⟩; (focus (first | (go_simp; done) | (go_simp; rfl))); (clear st; intro b2 w hb st; clear hb))
        | ((with_reducible refine wl_buildSlice ?_ (fun K hK => ?_)); rfl; refine owp_buildSlice (o := ⟨some 16, _, _, _, _, _⟩) rfl st ?_; apply Exists.intro; apply Exists.intro; apply Exists.intro; apply Exists.intro; refine ⟨?_, ?_⟩; (focus (go_simp; (first | done | exact ⟨⟨rfl, rfl⟩, rfl⟩ | rfl))); (clear st; intro b16 w hb st; clear hb))
        | ((with_reducible refine wl_alloc ?_ (fun K hK => ?_)); rfl; refine owp_alloc (o := ⟨some 3, _, _, _, _, _⟩) rfl st ?_; apply Exists.intro; apply Exists.intro; refine ⟨?_, ?_⟩; (focus (first | (go_simp; done) | (go_simp; rfl))); (clear st; intro b3 w hb st; clear hb))
        | ((with_reducible refine wl_box ?_ (fun K hK => ?_)); rfl; refine owp_box (o := ⟨some 19, _, _, _, _, _⟩) rfl st ?_; apply Exists.intro; refine ⟨?_, ?_⟩; (focus (go_simp; try rfl)); (clear st; intro b19 w hb st; clear hb))
        | ((with_reducible refine wl_alloc ?_ (fun K hK => ?_)); rfl; refine owp_alloc (o := ⟨some 6, _, _, _, _, _⟩) rfl st ?_; apply Exists.intro; apply Exists.intro; refine ⟨?_, ?_⟩; (focus (first | (go_simp; done) | (go_simp; rfl))); (clear st; intro b6 w hb st; clear hb))); (try simp only [nsl, Value.cells, unB] at st); (try clear hc); have hc := st.facts; (try simp only [nfl, nft, Nat.reduceAdd] at hc))
  refine (HAT.out _ (st.fm (i := 3) get3)).mono ?_
  rintro en w ⟨ra, rc, rfl, h2⟩
  replace st := st.join h2
  clear h2
  simp only [List.cons_append, List.nil_append] at st
  (try simp only [nsl, Value.cells, unB] at st)
  (try clear hc); have hc := st.facts; (try simp only [nfl, nft, Nat.reduceAdd] at hc)
  go_wp2_with ((first
        | ((with_reducible refine wl_alloc ?_ (fun K hK => ?_)); rfl; refine owp_alloc (o := ⟨some 1, _, _, _, _, _⟩) rfl st ?_; apply Exists.intro; apply Exists.intro; refine ⟨?_, ?_⟩; (focus (first | (go_simp; done) | (go_simp; rfl))); (clear st; intro b1 w hb st; clear hb))
        | ((with_reducible refine wl_store ?_ (fun K hK => ?_)); rfl; refine owp_store rfl st ?_; apply Exists.intro; apply Exists.intro; refine ⟨?_, ?_, ?_⟩; (focus (go_simp; try rfl)); (focus (go_simp; try rfl)); (first | (with_reducible refine ⟨0, _, _, _, _, get0, rfl, rfl, ?_, ?_, ?_, ?_⟩) | (with_reducible refine ⟨1, _, _, _, _, get1, rfl, rfl, ?_, ?_, ?_, ?_⟩) | (with_reducible refine ⟨2, _, _, _, _, get2, rfl, rfl, ?_, ?_, ?_, ?_⟩) | (with_reducible refine ⟨3, _, _, _, _, get3, rfl, rfl, ?_, ?_, ?_, ?_⟩) | (with_reducible refine ⟨4, _, _, _, _, get4, rfl, rfl, ?_, ?_, ?_, ?_⟩) | (with_reducible refine ⟨5, _, _, _, _, get5, rfl, rfl, ?_, ?_, ?_, ?_⟩) | (with_reducible refine ⟨6, _, _, _, _, get6, rfl, rfl, ?_, ?_, ?_, ?_⟩) | (with_reducible refine ⟨7, _, _, _, _, get7, rfl, rfl, ?_, ?_, ?_, ?_⟩) | (with_reducible refine ⟨8, _, _, _, _, get8, rfl, rfl, ?_, ?_, ?_, ?_⟩) | (with_reducible refine ⟨9, _, _, _, _, get9, rfl, rfl, ?_, ?_, ?_, ?_⟩)); (kernel_rfl); (simp [Value.cells]); (rfl); (clear st; intro w st))
        | ((with_reducible refine wl_alloc ?_ (fun K hK => ?_)); rfl; refine owp_alloc (o := ⟨some 2, _, _, _, _, _⟩) rfl st ?_; apply Exists.intro; apply Exists.intro; refine ⟨?_, ?_⟩; (focus (first | (go_simp; done) | (go_simp; rfl))); (clear st; intro b2 w hb st; clear hb))
        | ((with_reducible refine wl_buildSlice ?_ (fun K hK => ?_)); rfl; refine owp_buildSlice (o := ⟨some 16, _, _, _, _, _⟩) rfl st ?_; apply Exists.intro; apply Exists.intro; apply Exists.intro; apply Exists.intro; refine ⟨?_, ?_⟩; (focus (go_simp; (first | done | exact ⟨⟨rfl, rfl⟩, rfl⟩ | rfl))); (clear st; intro b16 w hb st; clear hb))
        | ((with_reducible refine wl_alloc ?_ (fun K hK => ?_)); rfl; refine owp_alloc (o := ⟨some 3, _, _, _, _, _⟩) rfl st ?_; apply Exists.intro; apply Exists.intro; refine ⟨?_, ?_⟩; (focus (first | (go_simp; done) | (go_simp; rfl))); (clear st; intro b3 w hb st; clear hb))
        | ((with_reducible refine wl_box ?_ (fun K hK => ?_)); rfl; refine owp_box (o := ⟨some 19, _, _, _, _, _⟩) rfl st ?_; apply Exists.intro; refine ⟨?_, ?_⟩; (focus (go_simp; try rfl)); (clear st; intro b19 w hb st; clear hb))
        | ((with_reducible refine wl_alloc ?_ (fun K hK => ?_)); rfl; refine owp_alloc (o := ⟨some 6, _, _, _, _, _⟩) rfl st ?_; apply Exists.intro; apply Exists.intro; refine ⟨?_, ?_⟩; (focus (first | (go_simp; done) | (go_simp; rfl))); (clear st; intro b6 w hb st; clear hb))); (try simp only [nsl, Value.cells, unB] at st); (try clear hc); have hc := st.facts; (try simp only [nfl, nft, Nat.reduceAdd] at hc))
  refine (HT1.out _ _ _ _ _ (st.fm (i := 3) get3) (st.blk (i := 1) get1)).mono ?_
  rintro en w ⟨rfl, hx⟩
  replace st := st.ext hx
  clear hx
  (try clear hc); have hc := st.facts; (try simp only [nfl, nft, Nat.reduceAdd] at hc)
  go_wp2_with ((first
        | ((with_reducible refine wl_alloc ?_ (fun K hK => ?_)); rfl; refine owp_alloc (o := ⟨some 1, _, _, _, _, _⟩) rfl st ?_; apply Exists.intro; apply Exists.intro; refine ⟨?_, ?_⟩; (focus (first | (go_simp; done) | (go_simp; rfl))); (clear st; intro b1 w hb st; clear hb))
        | ((with_reducible refine wl_store ?_ (fun K hK => ?_)); rfl; refine owp_store rfl st ?_; apply Exists.intro; apply Exists.intro; refine ⟨?_, ?_, ?_⟩; (focus (go_simp; try rfl)); (focus (go_simp; try rfl)); (first | (with_reducible refine ⟨0, _, _, _, _, get0, rfl, rfl, ?_, ?_, ?_, ?_⟩) | (with_reducible refine ⟨1, _, _, _, _, get1, rfl, rfl, ?_, ?_, ?_, ?_⟩) | (with_reducible refine ⟨2, _, _, _, _, get2, rfl, rfl, ?_, ?_, ?_, ?_⟩) | (with_reducible refine ⟨3, _, _, _, _, get3, rfl, rfl, ?_, ?_, ?_, ?_⟩) | (with_reducible refine ⟨4, _, _, _, _, get4, rfl, rfl, ?_, ?_, ?_, ?_⟩) | (with_reducible refine ⟨5, _, _, _, _, get5, rfl, rfl, ?_, ?_, ?_, ?_⟩) | (with_reducible refine ⟨6, _, _, _, _, get6, rfl, rfl, ?_, ?_, ?_, ?_⟩) | (with_reducible refine ⟨7, _, _, _, _, get7, rfl, rfl, ?_, ?_, ?_, ?_⟩) | (with_reducible refine ⟨8, _, _, _, _, get8, rfl, rfl, ?_, ?_, ?_, ?_⟩) | (with_reducible refine ⟨9, _, _, _, _, get9, rfl, rfl, ?_, ?_, ?_, ?_⟩)); (kernel_rfl); (simp [Value.cells]); (rfl); (clear st; intro w st))
        | ((with_reducible refine wl_alloc ?_ (fun K hK => ?_)); rfl; refine owp_alloc (o := ⟨some 2, _, _, _, _, _⟩) rfl st ?_; apply Exists.intro; apply Exists.intro; refine ⟨?_, ?_⟩; (focus (first | (go_simp; done) | (go_simp; rfl))); (clear st; intro b2 w hb st; clear hb))
        | ((with_reducible refine wl_buildSlice ?_ (fun K hK => ?_)); rfl; refine owp_buildSlice (o := ⟨some 16, _, _, _, _, _⟩) rfl st ?_; apply Exists.intro; apply Exists.intro; apply Exists.intro; apply Exists.intro; refine ⟨?_, ?_⟩; (focus (go_simp; (first | done | exact ⟨⟨rfl, rfl⟩, rfl⟩ | rfl))); (clear st; intro b16 w hb st; clear hb))
        | ((with_reducible refine wl_alloc ?_ (fun K hK => ?_)); rfl; refine owp_alloc (o := ⟨some 3, _, _, _, _, _⟩) rfl st ?_; apply Exists.intro; apply Exists.intro; refine ⟨?_, ?_⟩; (focus (first | (go_simp; done) | (go_simp; rfl))); (clear st; intro b3 w hb st; clear hb))
        | ((with_reducible refine wl_box ?_ (fun K hK => ?_)); rfl; refine owp_box (o := ⟨some 19, _, _, _, _, _⟩) rfl st ?_; apply Exists.intro; refine ⟨?_, ?_⟩; (focus (go_simp; try rfl)); (clear st; intro b19 w hb st; clear hb))
        | ((with_reducible refine wl_alloc ?_ (fun K hK => ?_)); rfl; refine owp_alloc (o := ⟨some 6, _, _, _, _, _⟩) rfl st ?_; apply Exists.intro; apply Exists.intro; refine ⟨?_, ?_⟩; (focus (first | (go_simp; done) | (go_simp; rfl))); (clear st; intro b6 w hb st; clear hb))); (try simp only [nsl, Value.cells, unB] at st); (try clear hc); have hc := st.facts; (try simp only [nfl, nft, Nat.reduceAdd] at hc))
  refine (HT2.out _ _ _ _ _ (st.blk (i := 1) get1)).mono ?_
  rintro en w ⟨rfl, hx⟩
  replace st := st.ext hx
  clear hx
  (try clear hc); have hc := st.facts; (try simp only [nfl, nft, Nat.reduceAdd] at hc)
  go_wp2_with ((first
        | ((with_reducible refine wl_alloc ?_ (fun K hK => ?_)); rfl; refine owp_alloc (o := ⟨some 1, _, _, _, _, _⟩) rfl st ?_; apply Exists.intro; apply Exists.intro; refine ⟨?_, ?_⟩; (focus (first | (go_simp; done) | (go_simp; rfl))); (clear st; intro b1 w hb st; clear hb))
        | ((with_reducible refine wl_store ?_ (fun K hK => ?_)); rfl; refine owp_store rfl st ?_; apply Exists.intro; apply Exists.intro; refine ⟨?_, ?_, ?_⟩; (focus (go_simp; try rfl)); (focus (go_simp; try rfl)); (first | (with_reducible refine ⟨0, _, _, _, _, get0, rfl, rfl, ?_, ?_, ?_, ?_⟩) | (with_reducible refine ⟨1, _, _, _, _, get1, rfl, rfl, ?_, ?_, ?_, ?_⟩) | (with_reducible refine ⟨2, _, _, _, _, get2, rfl, rfl, ?_, ?_, ?_, ?_⟩) | (with_reducible refine ⟨3, _, _, _, _, get3, rfl, rfl, ?_, ?_, ?_, ?_⟩) | (with_reducible refine ⟨4, _, _, _, _, get4, rfl, rfl, ?_, ?_, ?_, ?_⟩) | (with_reducible refine ⟨5, _, _, _, _, get5, rfl, rfl, ?_, ?_, ?_, ?_⟩) | (with_reducible refine ⟨6, _, _, _, _, get6, rfl, rfl, ?_, ?_, ?_, ?_⟩) | (with_reducible refine ⟨7, _, _, _, _, get7, rfl, rfl, ?_, ?_, ?_, ?_⟩) | (with_reducible refine ⟨8, _, _, _, _, get8, rfl, rfl, ?_, ?_, ?_, ?_⟩) | (with_reducible refine ⟨9, _, _, _, _, get9, rfl, rfl, ?_, ?_, ?_, ?_⟩)); (kernel_rfl); (simp [Value.cells]); (rfl); (clear st; intro w st))
        | ((with_reducible refine wl_alloc ?_ (fun K hK => ?_)); rfl; refine owp_alloc (o := ⟨some 2, _, _, _, _, _⟩) rfl st ?_; apply Exists.intro; apply Exists.intro; refine ⟨?_, ?_⟩; (focus (first | (go_simp; done) | (go_simp; rfl))); (clear st; intro b2 w hb st; clear hb))
        | ((with_reducible refine wl_buildSlice ?_ (fun K hK => ?_)); rfl; refine owp_buildSlice (o := ⟨some 16, _, _, _, _, _⟩) rfl st ?_; apply Exists.intro; apply Exists.intro; apply Exists.intro; apply Exists.intro; refine ⟨?_, ?_⟩; (focus (go_simp; (first | done | exact ⟨⟨rfl, rfl⟩, rfl⟩ | rfl))); (clear st; intro b16 w hb st; clear hb))
        | ((with_reducible refine wl_alloc ?_ (fun K hK => ?_)); rfl; refine owp_alloc (o := ⟨some 3, _, _, _, _, _⟩) rfl st ?_; apply Exists.intro; apply Exists.intro; refine ⟨?_, ?_⟩; (focus (first | (go_simp; done) | (go_simp; rfl))); (clear st; intro b3 w hb st; clear hb))
        | ((with_reducible refine wl_box ?_ (fun K hK => ?_)); rfl; refine owp_box (o := ⟨some 19, _, _, _, _, _⟩) rfl st ?_; apply Exists.intro; refine ⟨?_, ?_⟩; (focus (go_simp; try rfl)); (clear st; intro b19 w hb st; clear hb))
        | ((with_reducible refine wl_alloc ?_ (fun K hK => ?_)); rfl; refine owp_alloc (o := ⟨some 6, _, _, _, _, _⟩) rfl st ?_; apply Exists.intro; apply Exists.intro; refine ⟨?_, ?_⟩; (focus (first | (go_simp; done) | (go_simp; rfl))); (clear st; intro b6 w hb st; clear hb))); (try simp only [nsl, Value.cells, unB] at st); (try clear hc); have hc := st.facts; (try simp only [nfl, nft, Nat.reduceAdd] at hc))
  refine (HR.out _ (st.fm (i := 3) get3)).mono ?_
  rintro en w ⟨rfl, hx⟩
  replace st := st.ext hx
  clear hx
  (try clear hc); have hc := st.facts; (try simp only [nfl, nft, Nat.reduceAdd] at hc)
  go_wp2_with ((first
        | ((with_reducible refine wl_alloc ?_ (fun K hK => ?_)); rfl; refine owp_alloc (o := ⟨some 1, _, _, _, _, _⟩) rfl st ?_; apply Exists.intro; apply Exists.intro; refine ⟨?_, ?_⟩; (focus (first | (go_simp; done) | (go_simp; rfl))); (clear st; intro b1 w hb st; clear hb))
        | ((with_reducible refine wl_store ?_ (fun K hK => ?_)); rfl; refine owp_store rfl st ?_; apply Exists.intro; apply Exists.intro; refine ⟨?_, ?_, ?_⟩; (focus (go_simp; try rfl)); (focus (go_simp; try rfl)); (first | (with_reducible refine ⟨0, _, _, _, _, get0, rfl, rfl, ?_, ?_, ?_, ?_⟩) | (with_reducible refine ⟨1, _, _, _, _, get1, rfl, rfl, ?_, ?_, ?_, ?_⟩) | (with_reducible refine ⟨2, _, _, _, _, get2, rfl, rfl, ?_, ?_, ?_, ?_⟩) | (with_reducible refine ⟨3, _, _, _, _, get3, rfl, rfl, ?_, ?_, ?_, ?_⟩) | (with_reducible refine ⟨4, _, _, _, _, get4, rfl, rfl, ?_, ?_, ?_, ?_⟩) | (with_reducible refine ⟨5, _, _, _, _, get5, rfl, rfl, ?_, ?_, ?_, ?_⟩) | (with_reducible refine ⟨6, _, _, _, _, get6, rfl, rfl, ?_, ?_, ?_, ?_⟩) | (with_reducible refine ⟨7, _, _, _, _, get7, rfl, rfl, ?_, ?_, ?_, ?_⟩) | (with_reducible refine ⟨8, _, _, _, _, get8, rfl, rfl, ?_, ?_, ?_, ?_⟩) | (with_reducible refine ⟨9, _, _, _, _, get9, rfl, rfl, ?_, ?_, ?_, ?_⟩)); (kernel_rfl); (simp [Value.cells]); (rfl); (clear st; intro w st))
        | ((with_reducible refine wl_alloc ?_ (fun K hK => ?_)); rfl; refine owp_alloc (o := ⟨some 2, _, _, _, _, _⟩) rfl st ?_; apply Exists.intro; apply Exists.intro; refine ⟨?_, ?_⟩; (focus (first | (go_simp; done) | (go_simp; rfl))); (clear st; intro b2 w hb st; clear hb))
        | ((with_reducible refine wl_buildSlice ?_ (fun K hK => ?_)); rfl; refine owp_buildSlice (o := ⟨some 16, _, _, _, _, _⟩) rfl st ?_; apply Exists.intro; apply Exists.intro; apply Exists.intro; apply Exists.intro; refine ⟨?_, ?_⟩; (focus (go_simp; (first | done | exact ⟨⟨rfl, rfl⟩, rfl⟩ | rfl))); (clear st; intro b16 w hb st; clear hb))
        | ((with_reducible refine wl_alloc ?_ (fun K hK => ?_)); rfl; refine owp_alloc (o := ⟨some 3, _, _, _, _, _⟩) rfl st ?_; apply Exists.intro; apply Exists.intro; refine ⟨?_, ?_⟩; (focus (first | (go_simp; done) | (go_simp; rfl))); (clear st; intro b3 w hb st; clear hb))
        | ((with_reducible refine wl_box ?_ (fun K hK => ?_)); rfl; refine owp_box (o := ⟨some 19, _, _, _, _, _⟩) rfl st ?_; apply Exists.intro; refine ⟨?_, ?_⟩; (focus (go_simp; try rfl)); (clear st; intro b19 w hb st; clear hb))
        | ((with_reducible refine wl_alloc ?_ (fun K hK => ?_)); rfl; refine owp_alloc (o := ⟨some 6, _, _, _, _, _⟩) rfl st ?_; apply Exists.intro; apply Exists.intro; refine ⟨?_, ?_⟩; (focus (first | (go_simp; done) | (go_simp; rfl))); (clear st; intro b6 w hb st; clear hb))); (try simp only [nsl, Value.cells, unB] at st); (try clear hc); have hc := st.facts; (try simp only [nfl, nft, Nat.reduceAdd] at hc))
  refine (HR0.out _).mono ?_
  rintro en w ⟨rfl, hx⟩
  replace st := st.ext hx
  clear hx
  (try clear hc); have hc := st.facts; (try simp only [nfl, nft, Nat.reduceAdd] at hc)
  go_wp2_with ((first
        | ((with_reducible refine wl_alloc ?_ (fun K hK => ?_)); rfl; refine owp_alloc (o := ⟨some 1, _, _, _, _, _⟩) rfl st ?_; apply Exists.intro; apply Exists.intro; refine ⟨?_, ?_⟩; (focus (first | (go_simp; done) | (go_simp; rfl))); (clear st; intro b1 w hb st; clear hb))
        | ((with_reducible refine wl_store ?_ (fun K hK => ?_)); rfl; refine owp_store rfl st ?_; apply Exists.intro; apply Exists.intro; refine ⟨?_, ?_, ?_⟩; (focus (go_simp; try rfl)); (focus (go_simp; try rfl)); (first | (with_reducible refine ⟨0, _, _, _, _, get0, rfl, rfl, ?_, ?_, ?_, ?_⟩) | (with_reducible refine ⟨1, _, _, _, _, get1, rfl, rfl, ?_, ?_, ?_, ?_⟩) | (with_reducible refine ⟨2, _, _, _, _, get2, rfl, rfl, ?_, ?_, ?_, ?_⟩) | (with_reducible refine ⟨3, _, _, _, _, get3, rfl, rfl, ?_, ?_, ?_, ?_⟩) | (with_reducible refine ⟨4, _, _, _, _, get4, rfl, rfl, ?_, ?_, ?_, ?_⟩) | (with_reducible refine ⟨5, _, _, _, _, get5, rfl, rfl, ?_, ?_, ?_, ?_⟩) | (with_reducible refine ⟨6, _, _, _, _, get6, rfl, rfl, ?_, ?_, ?_, ?_⟩) | (with_reducible refine ⟨7, _, _, _, _, get7, rfl, rfl, ?_, ?_, ?_, ?_⟩) | (with_reducible refine ⟨8, _, _, _, _, get8, rfl, rfl, ?_, ?_, ?_, ?_⟩) | (with_reducible refine ⟨9, _, _, _, _, get9, rfl, rfl, ?_, ?_, ?_, ?_⟩)); (kernel_rfl); (simp [Value.cells]); (rfl); (clear st; intro w st))
        | ((with_reducible refine wl_alloc ?_ (fun K hK => ?_)); rfl; refine owp_alloc (o := ⟨some 2, _, _, _, _, _⟩) rfl st ?_; apply Exists.intro; apply Exists.intro; refine ⟨?_, ?_⟩; (focus (first | (go_simp; done) | (go_simp; rfl))); (clear st; intro b2 w hb st; clear hb))
        | ((with_reducible refine wl_buildSlice ?_ (fun K hK => ?_)); rfl; refine owp_buildSlice (o := ⟨some 16, _, _, _, _, _⟩) rfl st ?_; apply Exists.intro; apply Exists.intro; apply Exists.intro; apply Exists.intro; refine ⟨?_, ?_⟩; (focus (go_simp; (first | done | exact ⟨⟨rfl, rfl⟩, rfl⟩ | rfl))); (clear st; intro b16 w hb st; clear hb))
        | ((with_reducible refine wl_alloc ?_ (fun K hK => ?_)); rfl; refine owp_alloc (o := ⟨some 3, _, _, _, _, _⟩) rfl st ?_; apply Exists.intro; apply Exists.intro; refine ⟨?_, ?_⟩; (focus (first | (go_simp; done) | (go_simp; rfl))); (clear st; intro b3 w hb st; clear hb))
        | ((with_reducible refine wl_box ?_ (fun K hK => ?_)); rfl; refine owp_box (o := ⟨some 19, _, _, _, _, _⟩) rfl st ?_; apply Exists.intro; refine ⟨?_, ?_⟩; (focus (go_simp; try rfl)); (clear st; intro b19 w hb st; clear hb))
        | ((with_reducible refine wl_alloc ?_ (fun K hK => ?_)); rfl; refine owp_alloc (o := ⟨some 6, _, _, _, _, _⟩) rfl st ?_; apply Exists.intro; apply Exists.intro; refine ⟨?_, ?_⟩; (focus (first | (go_simp; done) | (go_simp; rfl))); (clear st; intro b6 w hb st; clear hb))); (try simp only [nsl, Value.cells, unB] at st); (try clear hc); have hc := st.facts; (try simp only [nfl, nft, Nat.reduceAdd] at hc))
  refine (HCM.out _ (st.fm (i := 3) get3)).mono ?_
  rintro en w ⟨rfl, hx⟩
  replace st := st.ext hx
  clear hx
  (try clear hc); have hc := st.facts; (try simp only [nfl, nft, Nat.reduceAdd] at hc)
  go_wp2_with ((first
        | ((with_reducible refine wl_alloc ?_ (fun K hK => ?_)); rfl; refine owp_alloc (o := ⟨some 1, _, _, _, _, _⟩) rfl st ?_; apply Exists.intro; apply Exists.intro; refine ⟨?_, ?_⟩; (focus (first | (go_simp; done) | (go_simp; rfl))); (clear st; intro b1 w hb st; clear hb))
        | ((with_reducible refine wl_store ?_ (fun K hK => ?_)); rfl; refine owp_store rfl st ?_; apply Exists.intro; apply Exists.intro; refine ⟨?_, ?_, ?_⟩; (focus (go_simp; try rfl)); (focus (go_simp; try rfl)); (first | (with_reducible refine ⟨0, _, _, _, _, get0, rfl, rfl, ?_, ?_, ?_, ?_⟩) | (with_reducible refine ⟨1, _, _, _, _, get1, rfl, rfl, ?_, ?_, ?_, ?_⟩) | (with_reducible refine ⟨2, _, _, _, _, get2, rfl, rfl, ?_, ?_, ?_, ?_⟩) | (with_reducible refine ⟨3, _, _, _, _, get3, rfl, rfl, ?_, ?_, ?_, ?_⟩) | (with_reducible refine ⟨4, _, _, _, _, get4, rfl, rfl, ?_, ?_, ?_, ?_⟩) | (with_reducible refine ⟨5, _, _, _, _, get5, rfl, rfl, ?_, ?_, ?_, ?_⟩) | (with_reducible refine ⟨6, _, _, _, _, get6, rfl, rfl, ?_, ?_, ?_, ?_⟩) | (with_reducible refine ⟨7, _, _, _, _, get7, rfl, rfl, ?_, ?_, ?_, ?_⟩) | (with_reducible refine ⟨8, _, _, _, _, get8, rfl, rfl, ?_, ?_, ?_, ?_⟩) | (with_reducible refine ⟨9, _, _, _, _, get9, rfl, rfl, ?_, ?_, ?_, ?_⟩)); (kernel_rfl); (simp [Value.cells]); (rfl); (clear st; intro w st))
        | ((with_reducible refine wl_alloc ?_ (fun K hK => ?_)); rfl; refine owp_alloc (o := ⟨some 2, _, _, _, _, _⟩) rfl st ?_; apply Exists.intro; apply Exists.intro; refine ⟨?_, ?_⟩; (focus (first | (go_simp; done) | (go_simp; rfl))); (clear st; intro b2 w hb st; clear hb))
        | ((with_reducible refine wl_buildSlice ?_ (fun K hK => ?_)); rfl; refine owp_buildSlice (o := ⟨some 16, _, _, _, _, _⟩) rfl st ?_; apply Exists.intro; apply Exists.intro; apply Exists.intro; apply Exists.intro; refine ⟨?_, ?_⟩; (focus (go_simp; (first | done | exact ⟨⟨rfl, rfl⟩, rfl⟩ | rfl))); (clear st; intro b16 w hb st; clear hb))
        | ((with_reducible refine wl_alloc ?_ (fun K hK => ?_)); rfl; refine owp_alloc (o := ⟨some 3, _, _, _, _, _⟩) rfl st ?_; apply Exists.intro; apply Exists.intro; refine ⟨?_, ?_⟩; (focus (first | (go_simp; done) | (go_simp; rfl))); (clear st; intro b3 w hb st; clear hb))
        | ((with_reducible refine wl_box ?_ (fun K hK => ?_)); rfl; refine owp_box (o := ⟨some 19, _, _, _, _, _⟩) rfl st ?_; apply Exists.intro; refine ⟨?_, ?_⟩; (focus (go_simp; try rfl)); (clear st; intro b19 w hb st; clear hb))
        | ((with_reducible refine wl_alloc ?_ (fun K hK => ?_)); rfl; refine owp_alloc (o := ⟨some 6, _, _, _, _, _⟩) rfl st ?_; apply Exists.intro; apply Exists.intro; refine ⟨?_, ?_⟩; (focus (first | (go_simp; done) | (go_simp; rfl))); (clear st; intro b6 w hb st; clear hb))); (try simp only [nsl, Value.cells, unB] at st); (try clear hc); have hc := st.facts; (try simp only [nfl, nft, Nat.reduceAdd] at hc))
  go_ret
  exact ⟨rfl, st.ext0⟩
end Go.Proofs.Ythjaopojlhdjpaa
