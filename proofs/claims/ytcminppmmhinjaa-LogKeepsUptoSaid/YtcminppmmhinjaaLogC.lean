/- Logs: heads; New, Len, Head. -/
import Derived.Test.YtcminppmmhinjaaLogB
namespace Go.Proofs.Ytcminppmmhinjaa
set_option linter.unusedSimpArgs false
set_option linter.unusedVariables false
open Go Go.RowKit
/-- An entry, and what it reads as. -/
abbrev Ent := Bool × List UInt8
def ent (x : LegT) : Ent := (x.o, x.xs)
def lastH (es : List Ent) : Int := es.foldl (fun h e => nextH h e.1 e.2) fnv0
def hds (es : List Ent) : List HdT := (List.range (es.length + 1)).map fun i => ⟨lastH (es.take i)⟩
theorem lastH_snoc (es : List Ent) (e : Ent) : lastH (es ++ [e]) = nextH (lastH es) e.1 e.2 := by simp [lastH, List.foldl_append]
theorem list_snocE {P : List Ent → Prop} (h0 : P []) (h1 : ∀ es e, P es → P (es ++ [e])) (es : List Ent) : P es := by
  have : ∀ n, ∀ es : List Ent, es.length = n → P es := by
    intro n
    induction n with
    | zero => intro es h; have := List.eq_nil_of_length_eq_zero h; subst this; exact h0
    | succ n ih =>
      intro es h
      have hne : es ≠ [] := fun q => by subst q; cases h
      rw [← List.dropLast_concat_getLast hne]
      exact h1 _ _ (ih _ (by simp [h]))
  exact this _ es rfl
theorem lastH_bd (es : List Ent) : 0 ≤ lastH es ∧ lastH es < 2 ^ 64 := by
  refine list_snocE (P := fun es => 0 ≤ lastH es ∧ lastH es < 2 ^ 64) fnv0_bd (fun es e _ => ?_) es
  rw [lastH_snoc]
  exact nextH_bd _ _ _
theorem hds_len (es : List Ent) : (hds es).length = es.length + 1 := by simp [hds]
theorem hds_get (es : List Ent) (i : Nat) (h : i ≤ es.length) : (hds es)[i]? = some ⟨lastH (es.take i)⟩ := by
  unfold hds
  rw [List.getElem?_map, List.getElem?_range (by omega)]; rfl
theorem hds_snoc (es : List Ent) (e : Ent) : hds (es ++ [e]) = hds es ++ [⟨lastH (es ++ [e])⟩] := by
  apply List.ext_getElem?
  intro i
  rcases Nat.lt_trichotomy i (es.length + 1) with h | h | h
  · rw [hds_get _ _ (by simp; omega), List.getElem?_append_left (by rw [hds_len]; exact h), hds_get _ _ (by omega), List.take_append_of_le_length (by omega)]
  · subst h
    rw [hds_get _ _ (by simp), List.getElem?_append_right (by rw [hds_len]; exact Nat.le_refl _), hds_len, Nat.sub_self, List.take_of_length_le (by simp)]
    rfl
  · rw [List.getElem?_eq_none (by rw [hds_len]; simp; omega), List.getElem?_eq_none (by simp [hds_len]; omega)]
theorem hds_nil : hds [] = [⟨fnv0⟩] := rfl
theorem ownsRow_base {w : World} {b0 b1 : Nat} {E : TypeId} {k n : Nat} {v : Value} {xs : List Value} (h : w.ownsRow b1 E k v n xs) (hb : b0 ≤ b1) : w.ownsRow b0 E k v n xs := by
  refine ⟨h.1, h.2.imp id ?_⟩
  rintro ⟨g, cap, cur, hv, hg, r⟩
  exact ⟨g, cap, cur, hv, by omega, r⟩
section
variable {fr al : Nat → Prop} {w0 w w' : World} {L : List It}
theorem Own.newRow (st : Own fr al w0 L w) (hx : Ext w w') {E : TypeId} {k n : Nat} {v : Value} {xs : List Value} (h : w'.ownsRow w.heap.size E k v n xs) : Own fr al w0 (L ++ [rowI E k v n xs]) w' :=
  st.new hx (e' := fun q => v.ownBlock = some q) (s' := fun _ => False) ⟨ownsRow_base h (Nat.zero_le _), fun q hq => hq⟩ (fun q hq => ⟨(h.lt q hq).2, (h.lt q hq).1⟩) (fun _ q => q.elim) (fun _ _ q => q)
theorem Own.flAt {α : Type} [Flt α] (st : Own fr al w0 L w) {i m c : Nat} {a : Option Addr} {E : TypeId} {xs : List α} (hi : L[i]? = some (rowI E (Flt.k α) (.slice a m c) m (cellsL xs))) (h0 : 0 < m) :
    ∃ g, a = some ⟨g, 0, none⟩ ∧ (m ≤ c ∧ c ≤ maxLen) ∧ ∀ (k : Nat) (x : α), xs[k]? = some x → ∀ (j : Nat) (v : Value), (Flt.cells x)[j]? = some v → w.cell? ⟨g, k * Flt.k α + j, none⟩ = some v := by
  obtain ⟨g, cap, hv, hcap, hcell⟩ := st.rowAt hi h0
  injection hv with h1 h2 h3
  subst h1 h3
  refine ⟨g, rfl, hcap, fun k x hk j v hj => hcell _ _ ?_⟩
  have hjk : j < Flt.k α := by
    have := (List.getElem?_eq_some_iff.1 hj).1
    rwa [Flt.len] at this
  rw [cellsL_get hk hjk]; exact hj
/-- A head of one's own row. -/
theorem Own.hdAt (st : Own fr al w0 L w) {i m c : Nat} {a : Option Addr} {E : TypeId} {xs : List HdT} (hi : L[i]? = some (rowI E 1 (.slice a m c) m (cellsL xs))) (h0 : 0 < m) :
    ∃ g, a = some ⟨g, 0, none⟩ ∧ (m ≤ c ∧ c ≤ maxLen) ∧ ∀ (k : Nat) (x : HdT), xs[k]? = some x → w.cell? ⟨g, k, none⟩ = some (.int .u64 x.h) := by
  obtain ⟨g, h1, h2, h3⟩ := st.flAt (α := HdT) hi h0
  exact ⟨g, h1, h2, fun k x hk => by have := h3 k x hk 0 _ rfl; simpa [show Flt.k HdT = 1 from rfl] using this⟩
theorem Own.legAt (st : Own fr al w0 L w) {i m c : Nat} {a : Option Addr} {E : TypeId} {xs : List LegT} (hi : L[i]? = some (rowI E 2 (.slice a m c) m (cellsL xs))) (h0 : 0 < m) :
    ∃ g, a = some ⟨g, 0, none⟩ ∧ (m ≤ c ∧ c ≤ maxLen) ∧ ∀ (k : Nat) (x : LegT), xs[k]? = some x → w.cell? ⟨g, k * 2, none⟩ = some (.bool x.o) ∧ w.cell? ⟨g, k * 2 + 1, none⟩ = some (.slice x.a x.n x.c) := by
  obtain ⟨g, h1, h2, h3⟩ := st.flAt (α := LegT) hi h0
  exact ⟨g, h1, h2, fun k x hk => ⟨h3 k x hk 0 _ rfl, h3 k x hk 1 _ rfl⟩⟩
end
theorem u64InfoL : ∃ i, Try.prog.info? 51 = some i ∧ i.zero = some (.int .u64 0) ∧ i.size = 1 ∧ i.bytes = 8 := info_parts (by kernel_rfl)
theorem legInfoL : ∃ i, Try.prog.info? 59 = some i ∧ i.zero = some (.agg #[.bool false, .slice none 0 0]) ∧ i.size = 2 ∧ i.bytes = 32 := info_parts (by kernel_rfl)
set_option maxRecDepth 100000 in
set_option maxHeartbeats 1000000 in
theorem logNew_c {fr al : Nat → Prop} {w : World} (st : Own fr al w [] w) : Calls Try.prog 27 #[] w fun e w' => ∃ p ha hc, e = .returned (.pointer (some ⟨p, 0, none⟩)) ∧
    Own fr al w [blkI p [.slice none 0 0, .slice ha 1 hc], rowI 59 2 (.slice none 0 0) 0 [], rowI 51 1 (.slice ha 1 hc) 1 (cellsL (hds [])), legsI []] w' := by
  go_enter Try.func27, Try.ntmps27
  go_wp2_with fail
  refine (sum_any none 0 0 [] _ (by simp [maxLen]) ⟨rfl, fun h => by omega⟩).mono ?_
  rintro en w' ⟨rfl, rfl⟩
  rw [show fnv fnv0 ([] : List (List UInt8)).flatten = fnv0 from rfl]
  go_wp2_with (first
      | ((with_reducible refine wl_buildSlice ?_ (fun K hK => ?_)); (rfl); (refine owp_buildRow (o := ⟨some 2, _, _, _, _, _⟩) rfl st 51 1 ?_; refine ⟨1, #[.int .u64 fnv0], ?_, by simp, by simp [maxLen], ?_⟩; (focus (go_simp; (first | done | rfl))); (clear st; intro b2 w hb st; clear hb)); (try simp only [Value.cells, List.cons_append, List.nil_append, List.set, spl, putIt, pick, List.map_cons, List.map_nil, List.getElem?_cons_zero, List.getElem?_cons_succ, Option.getD_some, List.drop_succ_cons, List.drop_zero, List.drop_nil, List.append_nil, unB] at st); (try clear hc); have hc := st.facts; (try simp only [factsOf, blkI, blkFacts, rowI, byI, datI, nullI, oldI, penI, rdI, rdAnyI, rdOverI, Nat.zero_add, Nat.reduceAdd, and_true, true_and, and_self] at hc))
      | ((first
        | ((with_reducible refine wl_buildSlice ?_ (fun K hK => ?_)); rfl; refine owp_buildSlice (o := ⟨some 2, _, _, _, _, _⟩) rfl st ?_; apply Exists.intro; apply Exists.intro; apply Exists.intro; apply Exists.intro; refine ⟨?_, ?_⟩; (focus (go_simp; (first | done | exact ⟨⟨rfl, rfl⟩, rfl⟩ | rfl))); (clear st; intro b2 w hb st; clear hb))
        | ((with_reducible refine wl_box ?_ (fun K hK => ?_)); rfl; refine owp_box (o := ⟨some 4, _, _, _, _, _⟩) rfl st ?_; apply Exists.intro; refine ⟨?_, ?_⟩; (focus (go_simp; try rfl)); (clear st; intro b4 w hb st; clear hb))); (try simp only [Value.cells, List.cons_append, List.nil_append, List.set, spl, putIt, pick, List.map_cons, List.map_nil, List.getElem?_cons_zero, List.getElem?_cons_succ, Option.getD_some, List.drop_succ_cons, List.drop_zero, List.drop_nil, List.append_nil, unB] at st); (try clear hc); have hc := st.facts; (try simp only [factsOf, blkI, blkFacts, rowI, byI, datI, nullI, oldI, penI, rdI, rdAnyI, rdOverI, Nat.zero_add, Nat.reduceAdd, and_true, true_and, and_self] at hc)))
  go_ret
  have st2 := (st.row_nil 59 2).legsNil
  simp only [List.cons_append, List.nil_append] at st2
  have st3 := st2.keep [1, 2, 0, 3] (by decide) (by simp)
  exact ⟨_, _, _, rfl, by simpa [pick, hds_nil, cellsL, Flt.cells] using st3⟩
section
variable {fr al : Nat → Prop} {w0 w : World} {L : List It} {p m c hc : Nat} {a ha : Option Addr}
set_option maxRecDepth 100000 in
set_option maxHeartbeats 1000000 in
theorem logLen_c (st : Own fr al w0 (blkI p [.slice a m c, .slice ha (m + 1) hc] :: L) w) : Calls Try.prog 29 #[.pointer (some ⟨p, 0, none⟩)] w fun e w' => e = .returned (.int .i64 (m : Int)) ∧ w = w' := by
  have hb := st.blk (i := 0) get0
  have r0 := hb.cell 0
  have r1 := hb.cell 1
  simp only [List.getElem?_cons_succ, List.getElem?_cons_zero] at r0 r1
  clear st hb
  go_enter Try.func29, Try.ntmps29
  go_wp2_with fail
  go_ret
  exact ⟨rfl, rfl⟩
theorem logLen_nil (W : World) : Calls Try.prog 29 #[.pointer none] W fun e w' => e = .returned (.int .i64 0) ∧ W = w' := by
  go_enter Try.func29, Try.ntmps29
  go_wp2_with fail
  go_ret
  exact ⟨rfl, rfl⟩
theorem logHead_nil (n : Int) (W : World) : Calls Try.prog 31 #[.pointer none, .int .i64 n] W fun e w' => e = .returned (.tuple #[.int .u64 0, .bool false]) ∧ W = w' := by
  go_enter Try.func31, Try.ntmps31
  go_wp2_with fail
  go_ret2
  exact ⟨rfl, rfl⟩
/-- What Head answers. -/
def headV (es : List Ent) (n : Int) : Value := if 0 ≤ n ∧ n ≤ es.length then .tuple #[.int .u64 (lastH (es.take n.toNat)), .bool true] else .tuple #[.int .u64 0, .bool false]
set_option maxRecDepth 100000 in
set_option maxHeartbeats 1000000 in
theorem logHead_c {E : TypeId} {es : List Ent} (n : Int) (hm : es.length = m) (hmb : m ≤ 1000000) {I : It} (st : Own fr al w0 (blkI p [.slice a m c, .slice ha (m + 1) hc] :: I :: rowI E 1 (.slice ha (m + 1) hc) (m + 1) (cellsL (hds es)) :: L) w) :
    Calls Try.prog 31 #[.pointer (some ⟨p, 0, none⟩), .int .i64 n] w fun e w' => e = .returned (headV es n) ∧ w = w' := by
  have hb := st.blk (i := 0) get0
  have r0 := hb.cell 0
  have r1 := hb.cell 1
  simp only [List.getElem?_cons_succ, List.getElem?_cons_zero] at r0 r1
  obtain ⟨g, rfl, hcap, hcell⟩ := st.hdAt (i := 2) get2 (by omega)
  obtain ⟨v, hv⟩ : ∃ v, headV es n = v := ⟨_, rfl⟩
  have HV : Hid (v = if 0 ≤ n ∧ n ≤ (m : Int) then .tuple #[.int .u64 (lastH (es.take n.toNat)), .bool true] else .tuple #[.int .u64 0, .bool false]) := Lib.hid (by rw [← hv, ← hm]; rfl)
  rw [hv]
  clear st hb hv
  by_cases n0 : n < 0
  · clear hcell
    go_enter Try.func31, Try.ntmps31
    go_wp2_with fail
    go_ret2
    exact ⟨by rw [HV.out, if_neg (by omega)]; rfl, rfl⟩
  obtain ⟨k, rfl⟩ : ∃ k : Nat, n = (k : Int) := ⟨n.toNat, by omega⟩
  by_cases n1 : k ≤ m
  · have r2 := hcell k _ (hds_get es k (by omega))
    simp only at r2
    clear hcell
    have HV2 : Hid (v = .tuple #[.int .u64 (lastH (es.take k)), .bool true]) := Lib.hid (by rw [HV.out, if_pos (by omega)]; simp)
    generalize lastH (es.take k) = hh at *
    have q1 : ¬ ((m : Int) + 1 ≤ (k : Int)) := by omega
    clear HV hm
    go_enter Try.func31, Try.ntmps31
    go_wp2_with fail
    go_ret2
    exact ⟨by rw [HV2.out]; rfl, rfl⟩
  · clear hcell
    have q1 : (m : Int) + 1 ≤ (k : Int) := by omega
    go_enter Try.func31, Try.ntmps31
    go_wp2_with fail
    go_ret2
    exact ⟨by rw [HV.out, if_neg (by omega)]; rfl, rfl⟩
end
end Go.Proofs.Ytcminppmmhinjaa
