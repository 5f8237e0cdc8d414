/- The library's functions at []string, over pieces of memory. -/
import Derived.Test.YtpenjnccdachaaaRow
import Derived.Test.YtpenjnccdachaaaRefNameS
import Derived.Test.YtpenjnccdachaaaShelf
import Derived.Sort.OwnSorted
import Derived.Test.YtpenjnccdachaaaRefTapeB
import Derived.Deep.LoopGhost
import Derived.Lib.AppendZeros
import Derived.Test.YtpenjnccdachaaaSepT
import Derived.Test.YtpenjnccdachaaaSepW
import Derived.Laws.Rows
import Derived.Laws.ResultCell
namespace Go.Proofs.Ytpenjnccdachaaa
set_option linter.unusedSimpArgs false
set_option linter.unusedVariables false
open Go Go.RowKit Go.Sort Go.Lib
theorem str_map (l : List (List UInt8)) : cellsL l = l.map encStr := by
  apply List.ext_getElem?
  intro j
  rw [str_get, List.getElem?_map]; rfl
section
variable {fr al : Nat → Prop} {w0 w : World} {L : List It}
theorem strLen {n : Nat} {v : Value} {E : TypeId} {xs : List (List UInt8)} (h : w.ownsRow 0 E 1 v n (cellsL xs)) : n = xs.length := by
  have := h.1
  rw [cellsL_len] at this
  simpa [fltStr_k] using this.symm
theorem sortStr_c (st : Own fr al w0 L w) (i : Nat) {n c : Nat} {a : Option Addr} {xs : List (List UInt8)} (hi : L[i]? = some (rowI 9 1 (.slice a n c) n (cellsL xs))) (hn : n ≤ 2000000) :
    Calls Try.prog 105 #[.slice a n c] w fun e w' => e = .returned (.tuple #[]) ∧ Own fr al w0 (L.set i (rowI 9 1 (.slice a n c) n (cellsL (xs.mergeSort fun x y => decide (x ≤ y))))) w' := by
  have hrow := st.row hi
  have hnx := strLen hrow
  rcases hrow.2 with ⟨h1, h2⟩ | ⟨g, cap, cur, h1, hb, hg, hcap, hm, hs, ht⟩
  · cases h1
    have : xs = [] := List.eq_nil_of_length_eq_zero hnx.symm
    subst this
    refine (Try.slices_Sort_string_none none 0 w).mono ?_
    rintro e w' ⟨rfl, rfl⟩
    refine ⟨rfl, ?_⟩
    have : L.set i (rowI 9 1 (.slice none 0 0) 0 (cellsL (([] : List (List UInt8)).mergeSort fun x y => decide (x ≤ y)))) = L := by
      apply List.ext_getElem?
      intro q
      rw [List.getElem?_set]
      split
      · rename_i h; subst h; rw [hi, if_pos (get_lt hi), List.mergeSort_nil]
      · rfl
    rw [this]; exact st
  · cases h1
    subst hnx
    rw [Nat.mul_one, str_map] at ht
    refine (Try.slices_Sort_string g 0 c xs w (holds_of_block hg (by simpa using ht)) (Array.getElem?_eq_some_iff.1 hg).1 (by omega)).mono ?_
    rintro e w' ⟨rfl, m, os, rfl⟩
    refine ⟨rfl, st.upd hi fun e s ⟨q1, q2⟩ q3 q4 => ⟨e, s, ⟨?_, q2⟩, fun b hb => ⟨Nat.lt_of_lt_of_le (q3 b (.inl hb)) (grownBy_sorted _).size, .inl hb⟩, fun b hb => ⟨Nat.lt_of_lt_of_le (q3 b (.inr hb)) (grownBy_sorted _).size, .inr (.inl hb)⟩, q4, MutO.grown (MutO.refl _ _) ⟨grownBy_sorted _, Nat.le_add_right _ _⟩ fun k hk _ => ?_⟩⟩
    · rw [str_map]
      exact ownsRow_sorted (by simp) (Nat.zero_le _) hg hcap hm hs
    · cases hk; exact q2 g rfl
theorem compactStr_c (st : Own fr al w0 L w) (i : Nat) {n c : Nat} {a : Option Addr} {xs : List (List UInt8)} (hi : L[i]? = some (rowI 9 1 (.slice a n c) n (cellsL xs))) (hn : n ≤ 2000000) :
    Calls Try.prog 106 #[.slice a n c] w fun e w' => e = .returned (.slice a (compact xs).length c) ∧ Own fr al w0 (L.set i (rowI 9 1 (.slice a (compact xs).length c) (compact xs).length (cellsL (compact xs)))) w' := by
  have hrow := st.row hi
  have hnx := strLen hrow
  rcases hrow.2 with ⟨h1, h2⟩ | ⟨g, cap, cur, h1, hb, hg, hcap, hm, hs, ht⟩
  · cases h1
    have : xs = [] := List.eq_nil_of_length_eq_zero hnx.symm
    subst this
    refine (Try.slices_Compact_string_empty none 0 w).mono ?_
    rintro e w' ⟨rfl, rfl⟩
    refine ⟨rfl, ?_⟩
    have : L.set i (rowI 9 1 (.slice none (compact ([] : List (List UInt8))).length 0) (compact ([] : List (List UInt8))).length (cellsL (compact ([] : List (List UInt8))))) = L := by
      apply List.ext_getElem?
      intro q
      rw [List.getElem?_set]
      split
      · rename_i h; subst h; rw [hi, if_pos (get_lt hi)]; rfl
      · rfl
    rw [this]; exact st
  · cases h1
    subst hnx
    rw [Nat.mul_one, str_map] at ht
    refine (Try.slices_Compact_string g 0 c xs w (holds_of_block hg (by simpa using ht)) (by omega) hcap).mono ?_
    rintro e w' ⟨rfl, m, rfl⟩
    have hle : (compact xs).length ≤ xs.length := compact_length_le xs
    refine ⟨rfl, ?_⟩
    generalize hts : compact xs ++ List.replicate (xs.length - (compact xs).length) [] = ts
    have htl : ts.length = xs.length := by rw [← hts]; simp; omega
    have hgw : putRow encStr (Sort.ahead w m) g 0 ts.toArray = grow (putRow encStr (Sort.ahead w m) g 0 ts.toArray) #[] := by simp [grow]; rfl
    rw [hgw]
    have st2 : Own fr al w0 (L.set i (rowI 9 1 (.slice (some ⟨g, 0, none⟩) xs.length c) xs.length (cellsL ts))) (grow (putRow encStr (Sort.ahead w m) g 0 ts.toArray) #[]) := by
      refine st.upd hi fun e s ⟨q1, q2⟩ q3 q4 => ⟨e, s, ⟨?_, q2⟩, fun b hb => ⟨Nat.lt_of_lt_of_le (q3 b (.inl hb)) (grownBy_sorted _).size, .inl hb⟩, fun b hb => ⟨Nat.lt_of_lt_of_le (q3 b (.inr hb)) (grownBy_sorted _).size, .inr (.inl hb)⟩, q4, MutO.grown (MutO.refl _ _) ⟨grownBy_sorted _, Nat.le_add_right _ _⟩ fun k hk _ => ?_⟩
      · rw [str_map]
        exact ownsRow_sorted htl (Nat.zero_le _) hg hcap hm hs
      · cases hk; exact q2 g rfl
    have st3 := st2.rowCut (i := i) (k := 1) (n := xs.length) (c := c) (g := g) (E := 9) (xs := cellsL ts) (by simp [List.getElem?_set, get_lt hi]) (compact xs).length hle
    rw [List.set_set] at st3
    have e1 : (cellsL ts).take ((compact xs).length * 1) = cellsL (compact xs) := by
      have := cellsL_take ts (compact xs).length
      rw [fltStr_k] at this
      rw [this, ← hts, List.take_left]
    rw [e1] at st3
    exact st3
end
theorem fl_bytes {W : World} {a : Option Addr} {n : Nat} {l : List (List UInt8)} (h : Fl W a n l) (h0 : 0 < n) : ∃ b off, a = some ⟨b, off, none⟩ ∧ ∀ j, j < (l.map fun s => (⟨s.toArray⟩ : ByteArray)).length → W.cell? ⟨b, off + j, none⟩ = some (.string ((l.map fun s => (⟨s.toArray⟩ : ByteArray)).getD j ByteArray.empty)) := by
  obtain ⟨b, off, rfl, hc⟩ := h.str h0
  refine ⟨b, off, rfl, fun j hj => ?_⟩
  simp only [List.length_map] at hj
  rw [hc j _ (List.getElem?_eq_getElem hj)]
  simp [List.getD, hj, S]
theorem ba_inj {s t : List UInt8} (h : (⟨s.toArray⟩ : ByteArray) = ⟨t.toArray⟩) : s = t := by
  injection h with h
  have := congrArg Array.toList h
  simpa using this
theorem containsStr_any (a : Option Addr) (n c : Nat) (l : List (List UInt8)) (s : List UInt8) (W : World) (h : Fl W a n l) (hn : n ≤ 9000000000000000000) :
    Calls Try.prog 108 #[.slice a n c, S s] W fun e w' => e = .returned (.bool (decide (s ∈ l))) ∧ Ext W w' := by
  have hnl := h.1
  rcases Nat.eq_zero_or_pos n with h0 | h0
  · subst h0
    have : l = [] := List.eq_nil_of_length_eq_zero hnl.symm
    subst this
    refine (Try.slices_Contains_string_empty a c ⟨s.toArray⟩ W).mono ?_
    rintro e w' ⟨rfl, rfl⟩
    exact ⟨by simp, Ext.refl _⟩
  · obtain ⟨b, off, rfl, hc⟩ := fl_bytes h h0
    refine (Try.slices_Contains_string b off n c _ ⟨s.toArray⟩ W (by simp; omega) (by omega) hc).mono ?_
    rintro e w' ⟨rfl, rfl⟩
    refine ⟨?_, Ext.refl _⟩
    congr 2
    rw [List.take_of_length_le (by simp; omega)]
    rw [Bool.eq_iff_iff, containsS_iff, decide_eq_true_eq, List.mem_map]
    constructor
    · rintro ⟨t, h1, h2⟩; rw [← ba_inj h2]; exact h1
    · intro q; exact ⟨s, q, rfl⟩
theorem equalStr_any (a : Option Addr) (n c : Nat) (l : List (List UInt8)) (a' : Option Addr) (n' c' : Nat) (l' : List (List UInt8)) (W : World) (h : Fl W a n l) (h' : Fl W a' n' l') (hn : n ≤ 9000000000000000000) (hn' : n' ≤ 9000000000000000000) :
    Calls Try.prog 107 #[.slice a n c, .slice a' n' c'] W fun e w' => e = .returned (.bool (decide (l = l'))) ∧ Ext W w' := by
  have hnl := h.1
  have hnl' := h'.1
  by_cases hnn : n = n'
  · subst hnn
    rcases Nat.eq_zero_or_pos n with h0 | h0
    · subst h0
      have e1 : l = [] := List.eq_nil_of_length_eq_zero hnl.symm
      have e2 : l' = [] := List.eq_nil_of_length_eq_zero hnl'.symm
      subst e1 e2
      refine (Try.slices_Equal_string_empty a a' c 0 c' W (by omega)).mono ?_
      rintro e w' ⟨rfl, rfl⟩
      exact ⟨by simp, Ext.refl _⟩
    · obtain ⟨b, off, rfl, hc⟩ := fl_bytes h h0
      obtain ⟨b', off', rfl, hc'⟩ := fl_bytes h' h0
      refine (Try.slices_Equal_string b off n c b' off' n c' _ _ W (by simp; omega) (by simp; omega) (by omega) (by omega) hc hc').mono ?_
      rintro e w' ⟨rfl, q, rfl⟩
      refine ⟨?_, ?_⟩
      · congr 2
        rw [List.take_of_length_le (by simp; omega), List.take_of_length_le (by simp; omega), Bool.eq_iff_iff, decide_eq_true_eq, decide_eq_true_eq]
        constructor
        · intro q
          have := congrArg (List.map fun b : ByteArray => b.data.toList) q
          simpa [List.map_map, Function.comp_def] using this
        · intro q; rw [q]
      · exact ⟨⟨rfl, rfl, rfl, Nat.le_refl _, fun _ _ => rfl⟩, Nat.le_add_right _ _⟩
  · refine (Try.slices_Equal_string_lens a a' n c n' c' W hnn).mono ?_
    rintro e w' ⟨rfl, rfl⟩
    refine ⟨?_, Ext.refl _⟩
    rw [decide_eq_false]
    intro q; subst q; omega
/-- The set of the names of a list. -/
theorem sorted_set (l : List (List UInt8)) (P : List UInt8 → Bool) : SSet strLt P l (compact ((l.filter P).mergeSort fun x y => decide (x ≤ y))) := by
  refine compact_set (strOrd P) _ l (fun x => ?_) ?_
  · rw [List.mem_mergeSort, List.mem_filter]
  · have h1 := List.pairwise_mergeSort (le := fun x y : List UInt8 => decide (x ≤ y)) (fun a b c h1 h2 => by simp at *; exact List.le_trans h1 h2) (fun a b => by simp; exact List.le_total a b) (l.filter P)
    refine h1.imp fun {a b} h => ?_
    rw [strLt_eq]
    simpa [List.not_lt] using h
end Go.Proofs.Ytpenjnccdachaaa

namespace Go.Proofs.Ytpenjnccdachaaa
set_option linter.unusedSimpArgs false
set_option linter.unusedVariables false
open Go Go.RowKit
def lettersB : List UInt8 := [97, 98, 99, 100, 101, 102, 103, 104, 105, 106, 107, 108, 109, 110, 111, 112, 113, 114, 115, 116, 117, 118, 119, 120, 121, 122]
def signsB : List UInt8 := lettersB ++ [48, 49, 50, 51, 52, 53, 54, 55, 56, 57, 45]
theorem ix_letters : ∀ n : Nat, n < 256 → (decide (0 ≤ Lib.indexByte lettersB n.toUInt8)) = ltr n.toUInt8 := by decide +kernel
theorem ix_signs : ∀ n : Nat, n < 256 → (decide (Lib.indexByte signsB n.toUInt8 < 0)) = !sgn n.toUInt8 := by decide +kernel
theorem ix_letter (c : UInt8) : (decide (0 ≤ Lib.indexByte lettersB c)) = ltr c := by
  have := ix_letters c.toNat c.toNat_lt
  simpa using this
theorem ix_sign (c : UInt8) : (decide (Lib.indexByte signsB c < 0)) = !sgn c := by
  have := ix_signs c.toNat c.toNat_lt
  simpa using this
theorem signIx (c : UInt8) (w : World) : Calls Try.prog 103 #[.string ⟨signsB.toArray⟩, .int .u8 (c.toNat : Int)] w fun e w' => ∃ v : Int, e = .returned (.int .i64 v) ∧ decide (v < 0) = !sgn c ∧ w = w' :=
  (Try.strings_IndexByte ⟨signsB.toArray⟩ _ w).mono fun e w' ⟨h1, h2⟩ => ⟨_, h1, by simpa using ix_sign c, h2.symm⟩
theorem letterIx (c : UInt8) (w : World) : Calls Try.prog 103 #[.string ⟨lettersB.toArray⟩, .int .u8 (c.toNat : Int)] w fun e w' => ∃ v : Int, e = .returned (.int .i64 v) ∧ decide (0 ≤ v) = ltr c ∧ w = w' :=
  (Try.strings_IndexByte ⟨lettersB.toArray⟩ _ w).mono fun e w' ⟨h1, h2⟩ => ⟨_, h1, by simpa using ix_letter c, h2.symm⟩
set_option maxRecDepth 100000 in
set_option maxHeartbeats 1000000 in
theorem only_any (s : List UInt8) (W : World) (hs : s.length ≤ 100000) : Calls Try.prog 104 #[S s] W fun e w' => e = .returned (.bool (s.all sgn)) ∧ Ext W w' := by
  have st := Own.startOld W
  unfold S
  (try simp only [Value.cells, List.cons_append, List.nil_append, List.set, spl, putIt, pick, List.map_cons, List.map_nil, List.getElem?_cons_zero, List.getElem?_cons_succ, Option.getD_some, List.drop_succ_cons, List.drop_zero, List.drop_nil, List.append_nil, unB] at st)
  (try clear hc); have hc := st.facts; (try simp only [factsOf, blkI, blkFacts, rowI, byI, datI, nullI, oldI, Nat.zero_add, Nat.reduceAdd, and_true, true_and, and_self] at hc)
  go_enter Try.func104, Try.ntmps104
  go_wp2_with ((((with_reducible refine wl_convert ?_ (fun K hK => ?_)); rfl; refine owp_sb (o := ⟨some 6, _, _, _, _, _⟩) rfl st rfl Try.underlying9 Try.underlying23 Try.underlying5 ?_ ?_; (simp only [maxLen]; omega); (clear st; intro A6 c6 w hc6 st))); (try simp only [Value.cells, List.cons_append, List.nil_append, List.set, spl, putIt, pick, List.map_cons, List.map_nil, List.getElem?_cons_zero, List.getElem?_cons_succ, Option.getD_some, List.drop_succ_cons, List.drop_zero, List.drop_nil, List.append_nil, unB] at st); (try clear hc); have hc := st.facts; (try simp only [factsOf, blkI, blkFacts, rowI, byI, datI, nullI, oldI, Nat.zero_add, Nat.reduceAdd, and_true, true_and, and_self] at hc))
  go_loopw [8] (fun i wr => ∃ j : Nat, j ≤ s.length ∧ i = .int .i64 (j : Int) ∧ Hid ((s.take j).all sgn = true) ∧ Own (fun _ => False) (fun _ => True) W [oldI W, byI A6 s.length s] wr) (fun i _ => s.length - (intOf i).toNat)
  case atStart => exact ⟨0, by omega, rfl, Lib.hid (by simp), st⟩
  case round =>
    obtain ⟨j, hj, rfl, HT, st'⟩ := hrel
    clear st hc
    have st := st'
    clear st'
    by_cases hjn : j < s.length
    · obtain ⟨b, off, ha, hq, hjl, hcell⟩ := (st.by (i := 1) get1).at hjn
      clear hq
      subst ha
      have hts : s.take (j + 1) = s.take j ++ [s[j]] := (List.take_append_getElem hjl).symm
      have hall : s.all sgn = (s.take j ++ s[j] :: s.drop (j + 1)).all sgn := by rw [← List.drop_eq_getElem_cons hjl, List.take_append_drop]
      generalize s[j] = x at *
      have HX := Lib.hid (And.intro hts hall)
      have hix := ix_sign x
      clear hts hall
      go_wp2_with fail
      refine (signIx x _).mono ?_
      rintro en w' ⟨v, rfl, hv, rfl⟩
      clear hix
      by_cases hsx : sgn x = true
      · have hv0 : decide (v < 0) = false := by rw [hv, hsx]; rfl
        have hv1 : ¬ v < 0 := by simpa using hv0
        clear hv
        go_wp2_with fail
        exact ⟨⟨j + 1, by omega, by go_num, Lib.hid (by rw [HX.out.1, List.all_append, HT.out]; simp [hsx]), st⟩, by simp [intOf]; omega⟩
      · have hsx' : sgn x = false := by simpa using hsx
        have hv0 : decide (v < 0) = true := by rw [hv, hsx']; rfl
        have hv1 : v < 0 := by simpa using hv0
        clear hv
        have HF : Hid (s.all sgn = false) := Lib.hid (by rw [HX.out.2, List.all_append, List.all_cons, hsx']; simp)
        go_wp2_with fail
        go_ret
        exact ⟨by rw [HF.out]; rfl, st.ext0⟩
    · obtain rfl : j = s.length := by omega
      have e : s.all sgn = true := by have := HT.out; rwa [List.take_length] at this
      have HE := Lib.hid e
      clear e
      go_wp2_with fail
      go_ret
      exact ⟨by rw [HE.out]; rfl, st.ext0⟩
set_option maxRecDepth 100000 in
set_option maxHeartbeats 1000000 in
theorem right_any (s : List UInt8) (W : World) (hs : s.length ≤ 100000) : Calls Try.prog 35 #[S s] W fun e w' => e = .returned (.bool (nameR s)) ∧ Ext W w' := by
  unfold S
  cases s with
  | nil =>
    go_enter Try.func35, Try.ntmps35
    go_wp2_with fail
    go_ret
    exact ⟨rfl, Ext.refl _⟩
  | cons c s =>
    have hsz : (⟨(c :: s).toArray⟩ : ByteArray).size = s.length + 1 := by simp [ByteArray.size]
    have hg0 : (⟨(c :: s).toArray⟩ : ByteArray)[0]? = some c := rfl
    simp only [List.length_cons] at hs
    by_cases h16 : s.length + 1 ≤ 16
    · skip
      go_enter Try.func35, Try.ntmps35
      go_wp2_with fail
      refine (letterIx c W).mono ?_
      rintro en w' ⟨v, rfl, hv, rfl⟩
      by_cases hl : ltr c = true
      · have hv0 : decide (0 ≤ v) = true := by rw [hv, hl]
        have hv1 : 0 ≤ v := by simpa using hv0
        clear hv
        go_wp2_with fail
        refine (only_any (c :: s) W (by simp; omega)).mono ?_
        rintro en w ⟨rfl, hx⟩
        have HX := Lib.hid hx
        clear hx
        have HN : Hid (nameR (c :: s) = (c :: s).all sgn) := Lib.hid (by unfold nameR; simp [h16, hl])
        generalize (c :: s).all sgn = q at *
        go_wp2_with fail
        go_ret
        exact ⟨by rw [HN.out]; rfl, HX.out⟩
      · have hl' : ltr c = false := by simpa using hl
        have hv0 : decide (0 ≤ v) = false := by rw [hv, hl']
        have hv1 : ¬ 0 ≤ v := by simpa using hv0
        have HN : Hid (nameR (c :: s) = false) := Lib.hid (by unfold nameR; simp [hl'])
        clear hv
        go_wp2_with fail
        go_ret
        exact ⟨by rw [HN.out]; rfl, Ext.refl _⟩
    · skip
      go_enter Try.func35, Try.ntmps35
      have HN : Hid (nameR (c :: s) = false) := Lib.hid (by unfold nameR; simp [h16])
      go_wp2_with fail
      go_ret
      exact ⟨by rw [HN.out]; rfl, Ext.refl _⟩
end Go.Proofs.Ytpenjnccdachaaa

namespace Go.Proofs.Ytpenjnccdachaaa
set_option linter.unusedSimpArgs false
set_option linter.unusedVariables false
open Go Go.RowKit
/-- The set of the right names of a list. -/
@[irreducible] def nameSet (l : List (List UInt8)) : List (List UInt8) := Lib.compact ((l.filter nameR).mergeSort fun x y => decide (x ≤ y))
theorem nameSet_eq (l : List (List UInt8)) : nameSet l = Lib.compact ((l.filter nameR).mergeSort fun x y => decide (x ≤ y)) := by unfold nameSet; rfl
theorem nameSet_set (l : List (List UInt8)) : SSet strLt nameR l (nameSet l) := by rw [nameSet_eq]; exact sorted_set l nameR
theorem nameSet_len (l : List (List UInt8)) : (nameSet l).length ≤ l.length := (nameSet_set l).len (strOrd nameR).irr
/-- A new slice of strings. -/
def NewStr (W w' : World) (a : Option Addr) (c : Nat) (xs : List (List UInt8)) : Prop := FreshI W w' (rowI 9 1 (.slice a xs.length c) xs.length (cellsL xs))
theorem NewStr.fl {W w' : World} {a : Option Addr} {c : Nat} {xs : List (List UInt8)} (h : NewStr W w' a c xs) : (xs.length ≤ c ∧ c ≤ maxLen) ∧ Fl w' a xs.length xs := FreshI.fl h
theorem refSet_c (a : Option Addr) (n c : Nat) (l : List (List UInt8)) (W : World) (h : Fl W a n l) (hn : n ≤ 2000000) (hs : ∀ x ∈ l, x.length ≤ 1000000000) :
    Calls Try.prog 33 #[.slice a n c] W fun e w' => ∃ va vc, e = .returned (.slice va (nameSet l).length vc) ∧ NewStr W w' va vc (nameSet l) := by
  refine (refSet_any a n c l W h hn hs).mono ?_
  rintro e w' ⟨out, va, vc, rfl, h1, h2⟩
  have := h1.uniq (strOrd nameR) (nameSet_set l)
  subst this
  exact ⟨va, vc, rfl, h2⟩
set_option maxRecDepth 100000 in
set_option maxHeartbeats 1000000 in
theorem nameSet_any (a : Option Addr) (n c : Nat) (l : List (List UInt8)) (W : World) (h : Fl W a n l) (hn : n ≤ 2000000) (hs : ∀ x ∈ l, x.length ≤ 100000) :
    Calls Try.prog 38 #[.slice a n c] W fun e w' => ∃ va vc, e = .returned (.slice va (nameSet l).length vc) ∧ NewStr W w' va vc (nameSet l) := by
  have H := Lib.hid h
  have HNL := Lib.hid (And.intro h.1 hs)
  clear h hs
  have st := (Own.startOld W).row_nil 9 1
  (try simp only [Value.cells, List.cons_append, List.nil_append, List.set, spl, putIt, pick, List.map_cons, List.map_nil, List.getElem?_cons_zero, List.getElem?_cons_succ, Option.getD_some, List.drop_succ_cons, List.drop_zero, List.drop_nil, List.append_nil, unB] at st)
  (try clear hc); have hc := st.facts; (try simp only [factsOf, blkI, blkFacts, rowI, byI, datI, nullI, oldI, Nat.zero_add, Nat.reduceAdd, and_true, true_and, and_self] at hc)
  go_enter Try.func38, Try.ntmps38
  go_wp2_with fail
  go_loopg [3, 8] n (fun k v i wr => ∃ (j m : Nat) (va : Option Addr) (vc : Nat), j ≤ n ∧ k = n - j ∧ m ≤ j ∧ i = .int .i64 (j : Int) ∧ v = .slice va m vc ∧ Own (fun _ => False) (fun _ => True) W [oldI W, rowI 9 1 (.slice va m vc) m (cellsL ((l.take j).filter nameR))] wr)
  case atStart => exact ⟨0, 0, none, 0, by omega, by omega, by omega, rfl, rfl, st⟩
  case round =>
    obtain ⟨j, m, va, vc, hj, rfl, hmj, rfl, rfl, st'⟩ := hrel
    clear st hc
    have st := st'
    clear st'
    (try simp only [Value.cells, List.cons_append, List.nil_append, List.set, spl, putIt, pick, List.map_cons, List.map_nil, List.getElem?_cons_zero, List.getElem?_cons_succ, Option.getD_some, List.drop_succ_cons, List.drop_zero, List.drop_nil, List.append_nil, unB] at st)
    (try clear hc); have hc := st.facts; (try simp only [factsOf, blkI, blkFacts, rowI, byI, datI, nullI, oldI, Nat.zero_add, Nat.reduceAdd, and_true, true_and, and_self] at hc)
    by_cases hjn : j < n
    · obtain ⟨b, off, ha, hcell⟩ := H.out.str (by omega)
      have hjl : j < l.length := by have := HNL.out.1; omega
      have r0 := st.oldCell (i := 0) get0 (hcell j l[j] (List.getElem?_eq_getElem hjl))
      have hts : l.take (j + 1) = l.take j ++ [l[j]] := (List.take_append_getElem hjl).symm
      have hxl := HNL.out.2 l[j] (List.getElem_mem hjl)
      clear hcell
      generalize l[j] = x at *
      have HX := Lib.hid hts
      clear hts
      subst ha
      unfold S at r0
      go_wp2_with fail
      refine (right_any x _ hxl).mono ?_
      rintro en w ⟨rfl, hx⟩
      replace st := st.ext hx
      clear hx
      (try clear hc); have hc := st.facts; (try simp only [factsOf, blkI, blkFacts, rowI, byI, datI, nullI, oldI, Nat.zero_add, Nat.reduceAdd, and_true, true_and, and_self] at hc)
      by_cases hr : nameR x = true
      · rw [hr]
        have HF : Hid ((l.take (j + 1)).filter nameR = (l.take j).filter nameR ++ [x]) := Lib.hid (by rw [HX.out, List.filter_append]; simp [hr])
        clear hr
        go_wp2_with (first
            | ((with_reducible refine wl_append ?_ (fun K hK => ?_)); (rfl); (obtain ⟨inf, hinf, hz0, hz1, hz2⟩ := strInfo); (refine owp_append rfl st 1 get1 Try.underlying64 hinf hz0 hz1 hz2 rfl (by decide) rfl rfl ((st.blk (i := 2) get2).flat rfl) (by first | exact cellsL_all _ | simp [Value.oneCell']) (by simp only [maxLen]; omega) (by omega) ?_); (clear hinf hz0 hz1 hz2 inf); (clear st; intro v' w st); (obtain ⟨va', vc', rfl⟩ := own_slice (st.row (i := 1) get1)); (try simp only [Value.cells, List.cons_append, List.nil_append, List.set, spl, putIt, pick, List.map_cons, List.map_nil, List.getElem?_cons_zero, List.getElem?_cons_succ, Option.getD_some, List.drop_succ_cons, List.drop_zero, List.drop_nil, List.append_nil, unB] at st); (try simp only [Nat.zero_add] at st); (try clear hc); have hc := st.facts; (try simp only [factsOf, blkI, blkFacts, rowI, byI, datI, nullI, oldI, Nat.zero_add, Nat.reduceAdd, and_true, true_and, and_self] at hc))
            | ((((with_reducible refine wl_buildSlice ?_ (fun K hK => ?_)); rfl; refine owp_buildSlice (o := ⟨some 16, _, _, _, _, _⟩) rfl st ?_; apply Exists.intro; apply Exists.intro; apply Exists.intro; apply Exists.intro; refine ⟨?_, ?_⟩; (focus (go_simp; (first | done | exact ⟨⟨rfl, rfl⟩, rfl⟩ | rfl))); (clear st; intro b16 w hb st; clear hb))); (try simp only [Value.cells, List.cons_append, List.nil_append, List.set, spl, putIt, pick, List.map_cons, List.map_nil, List.getElem?_cons_zero, List.getElem?_cons_succ, Option.getD_some, List.drop_succ_cons, List.drop_zero, List.drop_nil, List.append_nil, unB] at st); (try clear hc); have hc := st.facts; (try simp only [factsOf, blkI, blkFacts, rowI, byI, datI, nullI, oldI, Nat.zero_add, Nat.reduceAdd, and_true, true_and, and_self] at hc)))
        have st' := st.keep [0, 1] (by decide) (by simp)
        go_roundg (n - (j + 1))
        case measure => omega
        case rel => exact ⟨j + 1, m + 1, va', vc', by omega, rfl, by omega, by go_num, rfl, by rw [HF.out, cellsL_append, cellsL_one', str_cells]; simpa [pick] using st'⟩
      · have hr' : nameR x = false := by simpa using hr
        rw [hr']
        have HF : Hid ((l.take (j + 1)).filter nameR = (l.take j).filter nameR) := Lib.hid (by rw [HX.out, List.filter_append]; simp [hr'])
        clear hr hr'
        go_wp2_with fail
        go_roundg (n - (j + 1))
        case measure => omega
        case rel => exact ⟨j + 1, m, va, vc, by omega, rfl, by omega, by go_num, rfl, by rw [HF.out]; exact st⟩
    · obtain rfl : j = n := by omega
      have htk : l.take j = l := List.take_of_length_le (by have := HNL.out.1; omega)
      rw [htk] at st
      clear htk
      go_wp2_with fail
      refine (sortStr_c st 1 get1 (by omega)).mono ?_
      rintro en w ⟨rfl, st'⟩
      clear st
      have st := st'
      clear st'
      (try simp only [Value.cells, List.cons_append, List.nil_append, List.set, spl, putIt, pick, List.map_cons, List.map_nil, List.getElem?_cons_zero, List.getElem?_cons_succ, Option.getD_some, List.drop_succ_cons, List.drop_zero, List.drop_nil, List.append_nil, unB] at st)
      (try clear hc); have hc := st.facts; (try simp only [factsOf, blkI, blkFacts, rowI, byI, datI, nullI, oldI, Nat.zero_add, Nat.reduceAdd, and_true, true_and, and_self] at hc)
      go_wp2_with fail
      refine (compactStr_c st 1 get1 (by omega)).mono ?_
      rintro en w ⟨rfl, st'⟩
      clear st
      have st := st'
      clear st'
      have hfin := st.toFresh (i := 1) get1
      rw [← nameSet_eq l] at hfin ⊢
      have HF := Lib.hid hfin
      clear hfin st
      go_wp2_with fail
      go_ret
      exact ⟨va, vc, rfl, HF.out⟩
set_option maxRecDepth 100000 in
set_option maxHeartbeats 1000000 in
theorem isSet_any (a : Option Addr) (n c : Nat) (l : List (List UInt8)) (W : World) (h : Fl W a n l) (hn : n ≤ 2000000) (hs : ∀ x ∈ l, x.length ≤ 100000) :
    Calls Try.prog 39 #[.slice a n c] W fun e w' => e = .returned (.bool (decide (nameSet l = l))) ∧ Ext W w' := by
  have H := Lib.hid h
  have HS := Lib.hid hs
  have hle : Hid ((nameSet l).length ≤ 2000000) := Lib.hid (Nat.le_trans (nameSet_len l) (h.1 ▸ hn))
  clear h hs
  go_enter Try.func39, Try.ntmps39
  go_wp2_with fail
  refine (nameSet_any a n c l W H.out hn HS.out).mono ?_
  rintro en w ⟨va, vc, rfl, hx⟩
  have HX := Lib.hid hx
  clear hx
  go_wp2_with fail
  refine (equalStr_any _ _ _ (nameSet l) _ _ _ l _ HX.out.fl.2 (H.out.ext HX.out.1) (by have := hle.out; omega) (by omega)).mono ?_
  rintro en w' ⟨rfl, hx⟩
  have HX2 := Lib.hid hx
  clear hx
  go_wp2_with fail
  go_ret
  exact ⟨rfl, HX.out.1.trans HX2.out⟩
set_option maxRecDepth 100000 in
set_option maxHeartbeats 1000000 in
theorem nameHas_any (a : Option Addr) (n c : Nat) (l : List (List UInt8)) (s : List UInt8) (W : World) (h : Fl W a n l) (hn : n ≤ 2000000) (hs : s.length ≤ 100000) :
    Calls Try.prog 40 #[.slice a n c, S s] W fun e w' => e = .returned (.bool (nameR s && decide (s ∈ l))) ∧ Ext W w' := by
  have H := Lib.hid h
  clear h
  unfold S
  go_enter Try.func40, Try.ntmps40
  go_wp2_with fail
  refine (right_any s _ hs).mono ?_
  rintro en w ⟨rfl, hx⟩
  have HX := Lib.hid hx
  clear hx
  by_cases hr : nameR s = true
  · have HR := Lib.hid hr
    rw [hr]
    go_wp2_with fail
    refine (containsStr_any a n c l s _ (H.out.ext HX.out) (by omega)).mono ?_
    rintro en w' ⟨rfl, hx⟩
    have HX2 := Lib.hid hx
    clear hx hr
    go_wp2_with fail
    go_ret
    exact ⟨by rw [HR.out]; simp, HX.out.trans HX2.out⟩
  · have hr' : nameR s = false := by simpa using hr
    have HR := Lib.hid hr'
    rw [hr']
    clear hr hr'
    go_wp2_with fail
    go_ret
    exact ⟨by rw [HR.out]; simp, HX.out⟩
end Go.Proofs.Ytpenjnccdachaaa

namespace Go.Proofs.Ytpenjnccdachaaa
set_option linter.unusedSimpArgs false
set_option linter.unusedVariables false
open Go Go.RowKit
/-- A slice of slices. -/
def slsR {α : Type} [Flt α] : World → Nat → Nat → List α → Prop := fun w b o x => ∃ a n c, w.cell? ⟨b, o, none⟩ = some (.slice a n c) ∧ Fl w a n x
theorem wl_appendz {P : Program} {Q : Exit → Act → World → Prop} {a : Act} {w : World} {ops : Array Oper} {rest : List Oper} {d : Option Tmp} {s x : Operand} {t u : TypeId} {ty : TypeId} {pos : String} {af : Array Edge} {gd : Option (Nat × Bool)} (hg : Region.wanted ⟨d, .call { callee := .builtin .append, args := #[s, x], argTypes := #[t, u] }, ty, pos, af, gd⟩ (yielded ops a.tmps) = true)
    (h : ∀ K : Act → World → Prop, (∀ a w, wpList P ops Q rest a w → K a w) → Oper.wp P ⟨d, .call { callee := .builtin .append, args := #[s, x], argTypes := #[t, u] }, ty, pos, af, gd⟩ a w K Q) : wpList P ops Q (⟨d, .call { callee := .builtin .append, args := #[s, x], argTypes := #[t, u] }, ty, pos, af, gd⟩ :: rest) a w := wpl_at hg h
theorem owp_appendz {P : Program} {o : Oper} {a : Act} {w w' : World} {K : Act → World → Prop} {Q : Exit → Act → World → Prop} {s x : Operand} {t u : TypeId} {v1 v2 v : Value} (ho : o.op = .call { callee := .builtin .append, args := #[s, x], argTypes := #[t, u] }) (h1 : a.eval s = v1) (h2 : a.eval x = v2)
    (hr : (Builtin.append_ #[t, u] o.type #[v1, v2]).run P w = .ok v w') (h : K (a.put o.dst v) w') : o.wp P a w K Q :=
  owp_run (v := v) (w' := w') (by simp [execOp, ho, resolve, invoke, builtin, h1, h2, hr, Result.andThen]) h
set_option maxRecDepth 100000 in
set_option maxHeartbeats 1000000 in
theorem growStr_any (n : Nat) (W : World) (hn : n ≤ 4000000) :
    Calls Try.prog 147 #[.slice none 0 0, .int .i64 (n : Int)] W fun e w' => ∃ va vc, e = .returned (.slice va 0 vc) ∧ FreshI W w' (rowI 9 1 (.slice va 0 vc) 0 (cellsL ([] : List (List UInt8)))) := by
  by_cases h0 : n = 0
  · subst h0
    go_enter Try.func147, Try.ntmps147
    go_wp2_with fail
    go_ret
    exact ⟨none, 0, rfl, FreshI.nilRow _ _ _⟩
  · obtain ⟨i0, hi, hz0, hz1, hz2⟩ := strInfo
    have ha := fun ty => Lib.run_append_nil_zeros (P := Try.prog) W 64 3 ty 9 i0 (S []) .i64 .i64 Try.underlying64 Try.underlying3 hi hz0 n (by omega) (by omega) (by omega) (by rw [hz2]; omega)
    have hcap := grownCap_le_maxLen W n 0 9 (by simp only [maxLen]; omega)
    have hge := grownCap_ge W n 0 9
    generalize grownCap W n 0 9 = G at *
    have hsz : (Builtin.zeroCells (S []).cells n ++ Builtin.zeroCells (S []).cells (G - n)).size = G * 1 := by
      rw [Array.size_append, size_zeroCells, size_zeroCells]; simp [S, Value.cells]; omega
    have hG : G ≤ 9223372036854775807 := by simpa [maxLen] using hcap
    generalize Builtin.zeroCells (S []).cells n ++ Builtin.zeroCells (S []).cells (G - n) = cur at *
    have HF : Hid (FreshI W (W.drew.alloc (.cells cur 9)) (rowI 9 1 (.slice (some ⟨W.heap.size, 0, none⟩) 0 G) 0 (cellsL ([] : List (List UInt8))))) := Lib.hid (by
      refine ⟨(Ext.refl W).drew.alloc _, fun k => k = W.heap.size, ⟨World.ownsRow_made W.drew cur G (Nat.zero_le _) hcap hsz, fun k hk => by cases hk; rfl⟩, fun b hb => ?_⟩
      subst hb
      exact ⟨Nat.le_refl _, by show _ < (W.heap.push _).size; simp⟩)
    clear hi hz0 hz1 hz2 hcap hsz
    go_enter Try.func147, Try.ntmps147
    go_wp2_with ((with_reducible refine wl_appendz ?_ (fun K hK => ?_)); (rfl); (refine owp_appendz rfl rfl rfl (ha _) ?_))
    go_ret
    exact ⟨_, _, rfl, HF.out⟩
def lenSum {α : Type} (ls : List (List α)) : Nat := (ls.map List.length).sum
theorem lenSum_snoc {α : Type} (ls : List (List α)) (l : List α) : lenSum (ls ++ [l]) = lenSum ls + l.length := by simp [lenSum]
theorem lenSum_le {α : Type} : ∀ (ls : List (List α)) (j : Nat), lenSum (ls.take j) ≤ lenSum ls
  | [], j => by simp [lenSum]
  | l :: ls, 0 => by simp [lenSum]
  | l :: ls, j + 1 => by have := lenSum_le ls j; simp [lenSum] at *; omega
instance slsR_stb {α : Type} [Flt α] : Stb (slsR (α := α)) := ⟨fun _ _ _ _ _ hx ⟨a, n, c, h1, h2⟩ => ⟨a, n, c, hx.cell h1, h2.ext hx⟩⟩
set_option maxRecDepth 100000 in
set_option maxHeartbeats 1000000 in
theorem concatStr_any (a : Option Addr) (n c : Nat) (ls : List (List (List UInt8))) (W : World) (h : Arr 1 slsR W a n ls) (hn : n ≤ 1000) (hs : lenSum ls ≤ 2000000) :
    Calls Try.prog 109 #[.slice a n c] W fun e w' => ∃ va vc, e = .returned (.slice va ls.flatten.length vc) ∧ NewStr W w' va vc ls.flatten := by
  have H := Lib.hid h
  have HN := Lib.hid (And.intro h.1 hs)
  have st := Own.startOld W
  clear h hs
  (try simp only [Value.cells, List.cons_append, List.nil_append, List.set, spl, putIt, pick, List.map_cons, List.map_nil, List.getElem?_cons_zero, List.getElem?_cons_succ, Option.getD_some, List.drop_succ_cons, List.drop_zero, List.drop_nil, List.append_nil, unB] at st)
  (try clear hc); have hc := st.facts; (try simp only [factsOf, blkI, blkFacts, rowI, byI, datI, nullI, oldI, Nat.zero_add, Nat.reduceAdd, and_true, true_and, and_self] at hc)
  go_enter Try.func109, Try.ntmps109
  go_wp2_with fail
  go_loopg [3, 11] n (fun k v i wr => ∃ (j q : Nat), j ≤ n ∧ k = n - j ∧ q ≤ 2000000 ∧ Hid (q = lenSum (ls.take j)) ∧ i = .int .i64 (j : Int) ∧ v = .int .i64 (q : Int) ∧ Own (fun _ => False) (fun _ => True) W [oldI W] wr)
  case atStart => exact ⟨0, 0, by omega, by omega, by omega, Lib.hid (by simp [lenSum]), rfl, rfl, st⟩
  case round =>
    obtain ⟨j, q, hj, rfl, hq, HQ, rfl, rfl, st'⟩ := hrel
    clear st hc
    have st := st'
    clear st'
    (try simp only [Value.cells, List.cons_append, List.nil_append, List.set, spl, putIt, pick, List.map_cons, List.map_nil, List.getElem?_cons_zero, List.getElem?_cons_succ, Option.getD_some, List.drop_succ_cons, List.drop_zero, List.drop_nil, List.append_nil, unB] at st)
    (try clear hc); have hc := st.facts; (try simp only [factsOf, blkI, blkFacts, rowI, byI, datI, nullI, oldI, Nat.zero_add, Nat.reduceAdd, and_true, true_and, and_self] at hc)
    by_cases hjn : j < n
    · obtain ⟨b, off, ha, hcell⟩ := H.out.2 (by omega)
      have hjl : j < ls.length := by have := HN.out.1; omega
      have hel := hcell j ls[j] (List.getElem?_eq_getElem hjl)
      have hts : ls.take (j + 1) = ls.take j ++ [ls[j]] := (List.take_append_getElem hjl).symm
      clear hcell
      obtain ⟨a1, n1, c1, hc1, hf1⟩ := hel
      rw [Nat.mul_one] at hc1
      have r0 := st.oldCell (i := 0) get0 hc1
      have hq2 : q + n1 ≤ 2000000 := by
        have h1 := lenSum_le ls (j + 1)
        rw [hts, lenSum_snoc, ← HQ.out, ← hf1.1] at h1
        have := HN.out.2; omega
      have HX : Hid (q + n1 = lenSum (ls.take (j + 1))) := Lib.hid (by rw [hts, lenSum_snoc, ← HQ.out, ← hf1.1])
      clear hts hf1 hc1
      subst ha
      have hng : ¬ ((q : Int) + n1 < 0) := by omega
      go_wp2_with fail
      go_roundg (n - (j + 1))
      case measure => omega
      case rel => exact ⟨j + 1, q + n1, by omega, rfl, hq2, HX, by go_num, by go_num, st⟩
    · obtain rfl : j = n := by omega
      go_wp2_with fail
      refine (growStr_any q _ (by omega)).mono ?_
      rintro en w ⟨va, vc, rfl, hfr⟩
      replace st := st.fresh hfr
      clear hfr
      (try simp only [Value.cells, List.cons_append, List.nil_append, List.set, spl, putIt, pick, List.map_cons, List.map_nil, List.getElem?_cons_zero, List.getElem?_cons_succ, Option.getD_some, List.drop_succ_cons, List.drop_zero, List.drop_nil, List.append_nil, unB] at st)
      (try clear hc); have hc := st.facts; (try simp only [factsOf, blkI, blkFacts, rowI, byI, datI, nullI, oldI, Nat.zero_add, Nat.reduceAdd, and_true, true_and, and_self] at hc)
      go_wp2_with fail
      go_loopg [6, 27] j (fun k v i wr => ∃ (j' m : Nat) (va : Option Addr) (vc : Nat), j' ≤ j ∧ k = j - j' ∧ m ≤ 2000000 ∧ Hid (m = lenSum (ls.take j')) ∧ i = .int .i64 (j' : Int) ∧ v = .slice va m vc ∧ Own (fun _ => False) (fun _ => True) W [oldI W, rowI 9 1 (.slice va m vc) m (cellsL (ls.take j').flatten)] wr)
      case atStart => exact ⟨0, 0, va, vc, by omega, by omega, by omega, Lib.hid (by simp [lenSum]), rfl, rfl, st⟩
      case round =>
        obtain ⟨i, m, va, vc, hi, rfl, hm, HM, rfl, rfl, st'⟩ := hrel
        clear st hc
        have st := st'
        clear st'
        (try simp only [Value.cells, List.cons_append, List.nil_append, List.set, spl, putIt, pick, List.map_cons, List.map_nil, List.getElem?_cons_zero, List.getElem?_cons_succ, Option.getD_some, List.drop_succ_cons, List.drop_zero, List.drop_nil, List.append_nil, unB] at st)
        (try clear hc); have hc := st.facts; (try simp only [factsOf, blkI, blkFacts, rowI, byI, datI, nullI, oldI, Nat.zero_add, Nat.reduceAdd, and_true, true_and, and_self] at hc)
        by_cases hin : i < j
        · obtain ⟨b, off, ha, hcell⟩ := H.out.2 (by omega)
          have hjl : i < ls.length := by have := HN.out.1; omega
          have hel := hcell i ls[i] (List.getElem?_eq_getElem hjl)
          have hts : ls.take (i + 1) = ls.take i ++ [ls[i]] := (List.take_append_getElem hjl).symm
          clear hcell
          obtain ⟨a1, n1, c1, hc1, hf1⟩ := hel
          rw [Nat.mul_one] at hc1
          have r0 := st.oldCell (i := 0) get0 hc1
          have hq2 : m + n1 ≤ 2000000 := by
            have h1 := lenSum_le ls (i + 1)
            rw [hts, lenSum_snoc, ← HM.out, ← hf1.1] at h1
            have := HN.out.2; omega
          have HX : Hid (m + n1 = lenSum (ls.take (i + 1)) ∧ (ls.take (i + 1)).flatten = (ls.take i).flatten ++ ls[i]) := Lib.hid ⟨by rw [hts, lenSum_snoc, ← HM.out, ← hf1.1], by rw [hts, List.flatten_append, List.flatten_singleton]⟩
          have HF := Lib.hid hf1
          clear hts hf1 hc1
          generalize ls[i] = x at *
          subst ha
          go_wp2_with ((with_reducible refine wl_append ?_ (fun K hK => ?_)); (rfl); (obtain ⟨inf, hinf, hz0, hz1, hz2⟩ := strInfo); (refine owp_append rfl st 1 get1 Try.underlying64 hinf hz0 hz1 hz2 rfl (by decide) rfl rfl ((st.oldFl (i := 0) get0 HF.out).flat) (by first | exact cellsL_all _ | simp [Value.oneCell']) (by simp only [maxLen]; omega) (by omega) ?_); (clear hinf hz0 hz1 hz2 inf); (clear st; intro v' w st); (obtain ⟨va', vc', rfl⟩ := own_slice (st.row (i := 1) get1)); (try simp only [Value.cells, List.cons_append, List.nil_append, List.set, spl, putIt, pick, List.map_cons, List.map_nil, List.getElem?_cons_zero, List.getElem?_cons_succ, Option.getD_some, List.drop_succ_cons, List.drop_zero, List.drop_nil, List.append_nil, unB] at st); (try simp only [Nat.zero_add] at st); (try clear hc); have hc := st.facts; (try simp only [factsOf, blkI, blkFacts, rowI, byI, datI, nullI, oldI, Nat.zero_add, Nat.reduceAdd, and_true, true_and, and_self] at hc))
          go_roundg (j - (i + 1))
          case measure => omega
          case rel => exact ⟨i + 1, m + n1, va', vc', by omega, rfl, hq2, Lib.hid HX.out.1, by go_num, rfl, by rw [HX.out.2, cellsL_append]; exact st⟩
        · obtain rfl : i = j := by omega
          have htk : ls.take i = ls := List.take_of_length_le (by have := HN.out.1; omega)
          have hmm : m = ls.flatten.length := by rw [HM.out, htk]; simp [lenSum, List.length_flatten]
          rw [htk] at st
          have hfr := st.toFresh (i := 1) get1
          rw [hmm] at hfr
          have HF := Lib.hid hfr
          have HM2 := Lib.hid hmm
          clear hfr st htk hc hmm HM
          go_wp2_with fail
          go_ret
          exact ⟨va, vc, by rw [HM2.out]; rfl, HF.out⟩
end Go.Proofs.Ytpenjnccdachaaa

namespace Go.Proofs.Ytpenjnccdachaaa
set_option linter.unusedSimpArgs false
set_option linter.unusedVariables false
open Go Go.RowKit
theorem wl_clear {P : Program} {Q : Exit → Act → World → Prop} {a : Act} {w : World} {ops : Array Oper} {rest : List Oper} {d : Option Tmp} {x : Operand} {t : TypeId} {ty : TypeId} {pos : String} {af : Array Edge} {gd : Option (Nat × Bool)} (hg : Region.wanted ⟨d, .call { callee := .builtin .clear, args := #[x], argTypes := #[t] }, ty, pos, af, gd⟩ (yielded ops a.tmps) = true)
    (h : ∀ K : Act → World → Prop, (∀ a w, wpList P ops Q rest a w → K a w) → Oper.wp P ⟨d, .call { callee := .builtin .clear, args := #[x], argTypes := #[t] }, ty, pos, af, gd⟩ a w K Q) : wpList P ops Q (⟨d, .call { callee := .builtin .clear, args := #[x], argTypes := #[t] }, ty, pos, af, gd⟩ :: rest) a w := wpl_at hg h
/-- Where the first one is that p lets. -/
def IxIs {α : Type} (p : α → Bool) (xs : List α) (v : Int) : Prop := (v = -1 ∧ ∀ x ∈ xs, p x = false) ∨ ∃ (j : Nat) (y : α), v = (j : Int) ∧ j < xs.length ∧ xs[j]? = some y ∧ p y = true ∧ ∀ x ∈ xs.take j, p x = false
set_option maxRecDepth 100000 in
set_option maxHeartbeats 1000000 in
theorem indexFuncStr_c {fr al : Nat → Prop} {w0 w : World} {L : List It} {n c : Nat} {a : Option Addr} {xs : List (List UInt8)} (st : Own fr al w0 (rowI 9 1 (.slice a n c) n (cellsL xs) :: L) w) (hn : n ≤ 2000000) (F : FuncId) (cap : Array Value) (p : List UInt8 → Bool)
    (hi : ∀ w x, (callFunc F (#[.string x] ++ cap)).run Try.prog w = .ok (.enter F (#[.string x] ++ cap)) w)
    (hp : ∀ fr al w0 w x, x ∈ xs → Own fr al w0 L w → Calls Try.prog F (#[S x] ++ cap) w fun e w' => e = .returned (.bool (p x)) ∧ Ext w w') :
    Calls Try.prog 148 #[.slice a n c, .func (.func F) #[] cap] w fun e w' => ∃ v, e = .returned (.int .i64 v) ∧ IxIs p xs v ∧ Own fr al w0 (rowI 9 1 (.slice a n c) n (cellsL xs) :: L) w' := by
  have HP := Lib.hid hp
  have HN : Hid (n = xs.length) := Lib.hid (strLen (st.row (i := 0) get0))
  clear hp
  (try simp only [Value.cells, List.cons_append, List.nil_append, List.set, spl, putIt, pick, List.map_cons, List.map_nil, List.getElem?_cons_zero, List.getElem?_cons_succ, Option.getD_some, List.drop_succ_cons, List.drop_zero, List.drop_nil, List.append_nil, unB] at st)
  (try clear hc); have hc := st.facts; (try simp only [factsOf, blkI, blkFacts, rowI, byI, datI, nullI, oldI, Nat.zero_add, Nat.reduceAdd, and_true, true_and, and_self] at hc)
  go_enter Try.func148, Try.ntmps148
  go_wp2_with fail
  go_loopg [8] n (fun k i wr => ∃ (j : Nat), j ≤ n ∧ k = n - j ∧ i = .int .i64 (j : Int) ∧ Hid (∀ x ∈ xs.take j, p x = false) ∧ Own fr al w0 (rowI 9 1 (.slice a n c) n (cellsL xs) :: L) wr)
  case atStart => exact ⟨0, by omega, by omega, rfl, Lib.hid (by simp), st⟩
  case round =>
    obtain ⟨j, hj, rfl, rfl, HT, st'⟩ := hrel
    clear st hc
    have st := st'
    clear st'
    (try simp only [Value.cells, List.cons_append, List.nil_append, List.set, spl, putIt, pick, List.map_cons, List.map_nil, List.getElem?_cons_zero, List.getElem?_cons_succ, Option.getD_some, List.drop_succ_cons, List.drop_zero, List.drop_nil, List.append_nil, unB] at st)
    (try clear hc); have hc := st.facts; (try simp only [factsOf, blkI, blkFacts, rowI, byI, datI, nullI, oldI, Nat.zero_add, Nat.reduceAdd, and_true, true_and, and_self] at hc)
    by_cases hjn : j < n
    · obtain ⟨g, cap', hv, hcap, hrow⟩ := st.rowAt (i := 0) get0 (by omega)
      injection hv with hv1 hv2 hv3
      subst hv1 hv3
      have hjl : j < xs.length := by have := HN.out; omega
      have r0 := hrow j (S xs[j]) (by rw [str_get, List.getElem?_eq_getElem hjl]; rfl)
      have hts : xs.take (j + 1) = xs.take j ++ [xs[j]] := (List.take_append_getElem hjl).symm
      have hx := HP.out fr al w0 wr xs[j] (List.getElem_mem hjl) st.tail
      have hge := List.getElem?_eq_getElem hjl
      clear hrow
      generalize xs[j] = x at *
      have HX := Lib.hid (And.intro hts (And.intro hjl hge))
      clear hts hge hjl
      unfold S at r0 hx
      go_wp2_with fail
      refine hx.mono ?_
      clear hx
      rintro en w ⟨rfl, hx⟩
      replace st := st.ext hx
      clear hx r0
      by_cases hpx : p x = true
      · rw [hpx]
        have HF : Hid (IxIs p xs (j : Int)) := Lib.hid (.inr ⟨j, x, rfl, HX.out.2.1, HX.out.2.2, hpx, HT.out⟩)
        clear hpx
        go_wp2_with fail
        go_ret
        exact ⟨_, rfl, HF.out, st⟩
      · have hpx' : p x = false := by simpa using hpx
        rw [hpx']
        have HF : Hid (∀ y ∈ xs.take (j + 1), p y = false) := Lib.hid (fun y hy => by
          rw [HX.out.1] at hy
          rcases List.mem_append.1 hy with q | q
          · exact HT.out y q
          · rw [List.mem_singleton.1 q]; exact hpx')
        clear hpx hpx'
        go_wp2_with fail
        go_roundg (n - (j + 1))
        case measure => omega
        case rel => exact ⟨j + 1, by omega, rfl, by go_num, HF, st⟩
    · obtain rfl : j = n := by omega
      have HF : Hid (IxIs p xs (-1)) := Lib.hid (.inl ⟨rfl, by have := HT.out; rwa [List.take_of_length_le (by have := HN.out; omega)] at this⟩)
      go_wp2_with fail
      go_ret
      exact ⟨_, rfl, HF.out, st⟩
set_option maxRecDepth 100000 in
set_option maxHeartbeats 2000000 in
theorem deleteFuncStr_c {fr al : Nat → Prop} {w0 w : World} {L : List It} {n c : Nat} {a : Option Addr} {xs : List (List UInt8)} (st : Own fr al w0 (rowI 9 1 (.slice a n c) n (cellsL xs) :: L) w) (hn : n ≤ 2000000) (F : FuncId) (cap : Array Value) (p : List UInt8 → Bool)
    (hi : ∀ w x, (callFunc F (#[.string x] ++ cap)).run Try.prog w = .ok (.enter F (#[.string x] ++ cap)) w)
    (hp : ∀ fr al w0 w x, x ∈ xs → Own fr al w0 L w → Calls Try.prog F (#[S x] ++ cap) w fun e w' => e = .returned (.bool (p x)) ∧ Ext w w') :
    Calls Try.prog 110 #[.slice a n c, .func (.func F) #[] cap] w fun e w' => ∃ m, e = .returned (.slice a m c) ∧ Own fr al w0 (rowI 9 1 (.slice a m c) m (cellsL (xs.filter fun x => !p x)) :: L) w' := by
  have HP := Lib.hid hp
  have HN : Hid (n = xs.length) := Lib.hid (strLen (st.row (i := 0) get0))
  clear hp
  (try simp only [Value.cells, List.cons_append, List.nil_append, List.set, spl, putIt, pick, List.map_cons, List.map_nil, List.getElem?_cons_zero, List.getElem?_cons_succ, Option.getD_some, List.drop_succ_cons, List.drop_zero, List.drop_nil, List.append_nil, unB] at st)
  (try clear hc); have hc := st.facts; (try simp only [factsOf, blkI, blkFacts, rowI, byI, datI, nullI, oldI, Nat.zero_add, Nat.reduceAdd, and_true, true_and, and_self] at hc)
  go_enter Try.func110, Try.ntmps110
  go_wp2_with fail
  refine (indexFuncStr_c st hn F cap p hi HP.out).mono ?_
  clear st
  rintro en w ⟨v, rfl, hix, st⟩
  rcases hix with ⟨rfl, hall⟩ | ⟨i0, y, rfl, hil, hiy, hpy, hpre⟩
  · have HF : Hid (xs.filter (fun x => !p x) = xs) := Lib.hid (List.filter_eq_self.2 fun x hx => by simp [hall x hx])
    clear hall
    go_wp2_with fail
    go_ret
    exact ⟨n, rfl, by rw [HF.out]; exact st⟩
  · obtain ⟨g, cap', hv, hcap, hrow⟩ := st.rowAt (i := 0) get0 (by have := HN.out; omega)
    injection hv with hv1 hv2 hv3
    subst hv1 hv3
    clear hrow
    have hi0 : i0 < n := by have := HN.out; omega
    have HS : Hid (xs.take i0 = (xs.take (i0 + 1)).filter (fun x => !p x)) := Lib.hid (by
      have e1 : xs[i0] = y := by rw [List.getElem?_eq_getElem hil] at hiy; injection hiy
      rw [← List.take_append_getElem hil, List.filter_append, e1]
      simp only [List.filter_cons, hpy]
      simp
      exact (List.filter_eq_self.2 fun x hx => by simp [hpre x hx]).symm)
    have hcap2 : c ≤ 9223372036854775807 := by have := hcap.2; simpa [maxLen] using this
    have hcap1 := hcap.1
    clear hil hiy hpy hpre hcap
    have hb1 : ((i0 : Int) == -1) = false := by simp
    go_wp2_with fail
    go_loopg [5, 6] (n - (i0 + 1)) (fun k vi vj wr => ∃ (i j : Nat) (zs : List (List UInt8)), j ≤ n ∧ k = n - j ∧ i < j ∧ vi = .int .i64 (i : Int) ∧ vj = .int .i64 (j : Int) ∧ Hid (zs.length = n ∧ zs.take i = (xs.take j).filter (fun x => !p x) ∧ zs.drop j = xs.drop j) ∧ Own fr al w0 (rowI 9 1 (.slice (some ⟨g, 0, none⟩) n c) n (cellsL zs) :: L) wr)
    case atStart => exact ⟨i0, i0 + 1, xs, by omega, by omega, by omega, rfl, by go_num, Lib.hid ⟨HN.out.symm, HS.out, rfl⟩, st⟩
    case round =>
      obtain ⟨i, j, zs, hj, rfl, hij, rfl, rfl, HZ, st'⟩ := hrel
      clear st
      have st := st'
      clear st'
      (try simp only [Value.cells, List.cons_append, List.nil_append, List.set, spl, putIt, pick, List.map_cons, List.map_nil, List.getElem?_cons_zero, List.getElem?_cons_succ, Option.getD_some, List.drop_succ_cons, List.drop_zero, List.drop_nil, List.append_nil, unB] at st)
      (try clear hc); have hc := st.facts; (try simp only [factsOf, blkI, blkFacts, rowI, byI, datI, nullI, oldI, Nat.zero_add, Nat.reduceAdd, and_true, true_and, and_self] at hc)
      by_cases hjn : j < n
      · obtain ⟨g', cap', hv, hcap, hrow⟩ := st.rowAt (i := 0) get0 (by omega)
        injection hv with hv1 hv2 hv3
        injection hv1 with hv1
        injection hv1 with hv1 _ _
        subst hv1 hv3
        have hjz : j < zs.length := by have := HZ.out.1; omega
        have hjx : j < xs.length := by have := HN.out; omega
        have hzx : zs[j] = xs[j] := by
          have e1 := congrArg (fun l => l[0]?) HZ.out.2.2
          simp only [List.getElem?_drop, Nat.add_zero, List.getElem?_eq_getElem hjz, List.getElem?_eq_getElem hjx] at e1
          injection e1
        have r0 := hrow j (S xs[j]) (by rw [str_get, List.getElem?_eq_getElem hjz, hzx]; rfl)
        have hts : xs.take (j + 1) = xs.take j ++ [xs[j]] := (List.take_append_getElem hjx).symm
        have hx := HP.out fr al w0 wr xs[j] (List.getElem_mem hjx) st.tail
        clear hrow hzx
        generalize xs[j] = x at *
        have HX := Lib.hid hts
        clear hts hjz hjx
        unfold S at r0 hx
        go_wp2_with fail
        refine hx.mono ?_
        clear hx
        rintro en w ⟨rfl, hx⟩
        replace st := st.ext hx
        clear hx r0
        by_cases hpx : p x = true
        · rw [hpx]
          have HF : Hid ((xs.take (j + 1)).filter (fun x => !p x) = (xs.take j).filter (fun x => !p x) ∧ zs.drop (j + 1) = xs.drop (j + 1)) := Lib.hid ⟨by rw [HX.out, List.filter_append]; simp [hpx], by
            have := congrArg (List.drop 1) HZ.out.2.2; simpa [List.drop_drop] using this⟩
          clear hpx
          go_wp2_with fail
          go_roundg (n - (j + 1))
          case measure => omega
          case rel => exact ⟨i, j + 1, zs, by omega, rfl, by omega, rfl, by go_num, Lib.hid ⟨HZ.out.1, by rw [HF.out.1]; exact HZ.out.2.1, HF.out.2⟩, st⟩
        · have hpx' : p x = false := by simpa using hpx
          rw [hpx']
          have hiz : i < zs.length := by have := HZ.out.1; omega
          have hset := cellsL_set zs i x hiz
          rw [fltStr_k, Nat.mul_one] at hset
          have HF : Hid ((zs.set i x).length = n ∧ (zs.set i x).take (i + 1) = (xs.take (j + 1)).filter (fun x => !p x) ∧ (zs.set i x).drop (j + 1) = xs.drop (j + 1)) := Lib.hid ⟨by simp [HZ.out.1], by
              rw [HX.out, List.filter_append, ← HZ.out.2.1]
              have : (zs.set i x)[i]'(by simpa using hiz) = x := by simp
              rw [← List.take_append_getElem (l := zs.set i x) (by simpa using hiz), this]
              rw [List.take_set, List.set_eq_of_length_le (by rw [List.length_take]; omega)]; simp [hpx'], by
              rw [List.drop_set_of_lt (by omega)]
              have := congrArg (List.drop 1) HZ.out.2.2; simpa [List.drop_drop] using this⟩
          have HSET := Lib.hid hset
          clear hpx hpx' hset hiz
          go_wp2_with ((with_reducible refine wl_store ?_ (fun K hK => ?_)); (rfl); (refine owp_storeRow' rfl st ?_; apply Exists.intro; apply Exists.intro; refine ⟨?_, ?_, ?_⟩; (focus (go_simp; try rfl)); (focus (go_simp; try rfl)); refine ⟨0, _, _, _, _, _, _, _, _, get0, rfl, rfl, ?_, ?_, ?_, ?_⟩; (kernel_rfl); (simp [Value.cells]; omega); (rfl); (clear st; intro w st)))
          go_roundg (n - (j + 1))
          case measure => omega
          case rel => exact ⟨i + 1, j + 1, zs.set i x, by omega, rfl, by omega, by go_num, by go_num, HF, by rw [← HSET.out]; exact st⟩
      · obtain rfl : j = n := by omega
        obtain ⟨inf, hinf, hz0, hz1, hz2⟩ := strInfo
        have HF : Hid (zs.take i = xs.filter (fun x => !p x)) := Lib.hid (by rw [HZ.out.2.1, List.take_of_length_le (by have := HN.out; omega)])
        go_wp2_with ((with_reducible refine wl_clear ?_ (fun K hK => ?_)); (rfl); (refine owp_clearRow' rfl st Try.underlying64 ?_; apply Exists.intro; apply Exists.intro; apply Exists.intro; refine ⟨?_, ?_⟩; (focus (go_simp; exact ⟨rfl, rfl, rfl⟩)); refine ⟨0, _, _, _, _, i, _, inf, S [], get0, hinf, hz0, by decide, rfl, rfl, by omega, by simp, rfl, ?_⟩; (clear st; intro w ys hy1 hy2 st)))
        simp only [List.set_cons_zero] at st
        have st2 := st.rowCut (i := 0) (k := 1) (n := j) (c := c) (g := g) (E := 9) (xs := ys) get0 i (by omega)
        have hct := cellsL_take zs i
        rw [fltStr_k] at hct
        rw [hy1, hct, HF.out, List.set_cons_zero] at st2
        go_ret
        exact ⟨i, rfl, st2⟩
end Go.Proofs.Ytpenjnccdachaaa

namespace Go.Proofs.Ytpenjnccdachaaa
set_option linter.unusedSimpArgs false
set_option linter.unusedVariables false
open Go Go.RowKit
theorem concat2_any (b k : Nat) (a : Option Addr) (n c : Nat) (l : List (List UInt8)) (a' : Option Addr) (n' c' : Nat) (l' : List (List UInt8)) (W : World) (h0 : W.cell? ⟨b, 0, none⟩ = some (.slice a n c)) (h1 : W.cell? ⟨b, 1, none⟩ = some (.slice a' n' c')) (h : Fl W a n l) (h' : Fl W a' n' l') (hn : n ≤ 900000) (hn' : n' ≤ 900000) :
    Calls Try.prog 109 #[.slice (some ⟨b, 0, none⟩) 2 k] W fun e w' => ∃ va vc, e = .returned (.slice va (l ++ l').length vc) ∧ NewStr W w' va vc (l ++ l') := by
  have hA : Arr 1 slsR W (some ⟨b, 0, none⟩) 2 [l, l'] := ⟨rfl, fun _ => ⟨b, 0, rfl, fun i x hi => by
    match i, hi with
    | 0, hi => simp at hi; subst hi; exact ⟨a, n, c, h0, h⟩
    | 1, hi => simp at hi; subst hi; exact ⟨a', n', c', h1, h'⟩
    | i + 2, hi => simp at hi⟩⟩
  have e1 : [l, l'].flatten = l ++ l' := by simp
  have := concatStr_any (some ⟨b, 0, none⟩) 2 k [l, l'] W hA (by omega) (by have := h.1; have := h'.1; simp [lenSum]; omega)
  rw [e1] at this
  exact this
set_option maxRecDepth 100000 in
set_option maxHeartbeats 1000000 in
theorem union_any (a : Option Addr) (n c : Nat) (l : List (List UInt8)) (a' : Option Addr) (n' c' : Nat) (l' : List (List UInt8)) (W : World) (h : Fl W a n l) (h' : Fl W a' n' l') (hn : n ≤ 900000) (hn' : n' ≤ 900000) (hs : ∀ x ∈ l, x.length ≤ 100000) (hs' : ∀ x ∈ l', x.length ≤ 100000) :
    Calls Try.prog 42 #[.slice a n c, .slice a' n' c'] W fun e w' => ∃ va vc, e = .returned (.slice va (nameSet (l ++ l')).length vc) ∧ NewStr W w' va vc (nameSet (l ++ l')) := by
  have H := Lib.hid (And.intro h h')
  have HS : Hid (∀ x ∈ l ++ l', x.length ≤ 100000) := Lib.hid (fun x hx => by rcases List.mem_append.1 hx with q | q; exact hs x q; exact hs' x q)
  clear h h' hs hs'
  have st := Own.startOld W
  (try simp only [Value.cells, List.cons_append, List.nil_append, List.set, spl, putIt, pick, List.map_cons, List.map_nil, List.getElem?_cons_zero, List.getElem?_cons_succ, Option.getD_some, List.drop_succ_cons, List.drop_zero, List.drop_nil, List.append_nil, unB] at st)
  (try clear hc); have hc := st.facts; (try simp only [factsOf, blkI, blkFacts, rowI, byI, datI, nullI, oldI, Nat.zero_add, Nat.reduceAdd, and_true, true_and, and_self] at hc)
  go_enter Try.func42, Try.ntmps42
  go_wp2_with ((((with_reducible refine wl_buildSlice ?_ (fun K hK => ?_)); rfl; refine owp_buildSlice (o := ⟨some 7, _, _, _, _, _⟩) rfl st ?_; apply Exists.intro; apply Exists.intro; apply Exists.intro; apply Exists.intro; refine ⟨?_, ?_⟩; (focus (go_simp; (first | done | exact ⟨⟨rfl, rfl⟩, rfl⟩ | rfl))); (clear st; intro b7 w hb st; clear hb))); (try simp only [Value.cells, List.cons_append, List.nil_append, List.set, spl, putIt, pick, List.map_cons, List.map_nil, List.getElem?_cons_zero, List.getElem?_cons_succ, Option.getD_some, List.drop_succ_cons, List.drop_zero, List.drop_nil, List.append_nil, unB] at st); (try clear hc); have hc := st.facts; (try simp only [factsOf, blkI, blkFacts, rowI, byI, datI, nullI, oldI, Nat.zero_add, Nat.reduceAdd, and_true, true_and, and_self] at hc))
  have hcc := concat2_any b7 2 a n c l a' n' c' l' w ((st.blk (i := 1) get1).cell 0) ((st.blk (i := 1) get1).cell 1) (st.oldFl (i := 0) get0 H.out.1) (st.oldFl (i := 0) get0 H.out.2) hn hn'
  have HLL : Hid ((l ++ l').length ≤ 1800000) := Lib.hid (by have := H.out.1.1; have := H.out.2.1; simp; omega)
  refine hcc.mono ?_
  clear hcc
  rintro en w ⟨va, vc, rfl, hnew⟩
  replace st := st.fresh hnew
  have HN2 := Lib.hid hnew
  clear hnew hc
  obtain ⟨ll, hll⟩ : ∃ ll, l ++ l' = ll := ⟨_, rfl⟩
  rw [hll] at HS st HN2 HLL ⊢
  have HE := Lib.hid hll
  clear hll
  go_wp2_with fail
  refine (nameSet_any _ _ _ ll _ HN2.out.fl.2 (by have := HLL.out; omega) HS.out).mono ?_
  rintro en w ⟨va', vc', rfl, hnew⟩
  replace st := st.fresh hnew
  clear hnew HN2
  have hfr := st.toFresh (i := 3) get3
  have HF := Lib.hid hfr
  clear hfr st
  go_wp2_with fail
  go_ret
  rw [HE.out]
  exact ⟨va', vc', rfl, HF.out⟩
/-- What both have. -/
def nameBoth (l l' : List (List UInt8)) : List (List UInt8) := (nameSet l).filter fun x => decide (x ∈ l')
set_option maxRecDepth 100000 in
set_option maxHeartbeats 1000000 in
theorem both1_any {fr al : Nat → Prop} {w0 w W : World} {L : List It} {b : Nat} {a' : Option Addr} {n' c' : Nat} {l' : List (List UInt8)} (st : Own fr al w0 L w) (i j : Nat) (hi : L[i]? = some (oldI W)) (hj : L[j]? = some (blkI b [.slice a' n' c'])) (h' : Fl W a' n' l') (hn' : n' ≤ 2000000) (x : List UInt8) (hx : x.length ≤ 100000) :
    Calls Try.prog 111 #[S x, .pointer (some ⟨b, 0, none⟩)] w fun e w' => e = .returned (.bool (!(nameR x && decide (x ∈ l')))) ∧ Ext w w' := by
  have HF := Lib.hid (st.oldFl hi h')
  have r0 := (st.blk hj).cell 0
  simp only [List.getElem?_cons_zero] at r0
  clear st hi hj h'
  unfold S
  go_enter Try.func111, Try.ntmps111
  go_wp2_with fail
  refine (nameHas_any _ _ _ l' x _ HF.out hn' hx).mono ?_
  rintro en w' ⟨rfl, hx⟩
  have HX := Lib.hid hx
  clear hx
  go_wp2_with fail
  go_ret
  exact ⟨by simp, HX.out⟩
set_option maxRecDepth 100000 in
set_option maxHeartbeats 1000000 in
theorem both_any (a : Option Addr) (n c : Nat) (l : List (List UInt8)) (a' : Option Addr) (n' c' : Nat) (l' : List (List UInt8)) (W : World) (h : Fl W a n l) (h' : Fl W a' n' l') (hn : n ≤ 900000) (hn' : n' ≤ 900000) (hs : ∀ x ∈ l, x.length ≤ 100000) :
    Calls Try.prog 43 #[.slice a n c, .slice a' n' c'] W fun e w' => ∃ va vc, e = .returned (.slice va (nameBoth l l').length vc) ∧ NewStr W w' va vc (nameBoth l l') := by
  have H := Lib.hid (And.intro h (And.intro h' hs))
  have HL : Hid ((nameSet l).length ≤ 900000 ∧ ∀ x ∈ nameSet l, nameR x = true ∧ x.length ≤ 100000) := Lib.hid ⟨Nat.le_trans (nameSet_len l) (h.1 ▸ hn), fun x hx => by
    have := ((nameSet_set l).2 x).1 hx; exact ⟨this.2, hs x this.1⟩⟩
  clear h h' hs
  have st := Own.startOld W
  (try simp only [Value.cells, List.cons_append, List.nil_append, List.set, spl, putIt, pick, List.map_cons, List.map_nil, List.getElem?_cons_zero, List.getElem?_cons_succ, Option.getD_some, List.drop_succ_cons, List.drop_zero, List.drop_nil, List.append_nil, unB] at st)
  (try clear hc); have hc := st.facts; (try simp only [factsOf, blkI, blkFacts, rowI, byI, datI, nullI, oldI, Nat.zero_add, Nat.reduceAdd, and_true, true_and, and_self] at hc)
  go_enter Try.func43, Try.ntmps43
  go_wp2_with ((((with_reducible refine wl_box ?_ (fun K hK => ?_)); rfl; refine owp_box (o := ⟨some 3, _, _, _, _, _⟩) rfl st ?_; apply Exists.intro; refine ⟨?_, ?_⟩; (focus (go_simp; try rfl)); (clear st; intro b3 w hb st; clear hb))); (try simp only [Value.cells, List.cons_append, List.nil_append, List.set, spl, putIt, pick, List.map_cons, List.map_nil, List.getElem?_cons_zero, List.getElem?_cons_succ, Option.getD_some, List.drop_succ_cons, List.drop_zero, List.drop_nil, List.append_nil, unB] at st); (try clear hc); have hc := st.facts; (try simp only [factsOf, blkI, blkFacts, rowI, byI, datI, nullI, oldI, Nat.zero_add, Nat.reduceAdd, and_true, true_and, and_self] at hc))
  refine (nameSet_any a n c l _ (st.oldFl (i := 0) get0 H.out.1) (by omega) H.out.2.2).mono ?_
  rintro en w ⟨va, vc, rfl, hnew⟩
  replace st := st.fresh hnew
  clear hnew
  (try simp only [Value.cells, List.cons_append, List.nil_append, List.set, spl, putIt, pick, List.map_cons, List.map_nil, List.getElem?_cons_zero, List.getElem?_cons_succ, Option.getD_some, List.drop_succ_cons, List.drop_zero, List.drop_nil, List.append_nil, unB] at st)
  (try clear hc); have hc := st.facts; (try simp only [factsOf, blkI, blkFacts, rowI, byI, datI, nullI, oldI, Nat.zero_add, Nat.reduceAdd, and_true, true_and, and_self] at hc)
  have st2 := st.keep [2, 0, 1] (by decide) (by simp)
  simp only [pick, List.map_cons, List.map_nil, List.getElem?_cons_zero, List.getElem?_cons_succ, Option.getD_some] at st2
  have hdel := deleteFuncStr_c st2 (by have := HL.out.1; omega) 111 #[.pointer (some ⟨b3, 0, none⟩)] (fun x => !(nameR x && decide (x ∈ l'))) (fun _ _ => by kernel_rfl) (fun fr al w0 w x hx st => both1_any st 0 1 get0 get1 H.out.2.1 (by omega) x (HL.out.2 x hx).2)
  clear st st2 hc
  go_wp2_with fail
  refine hdel.mono ?_
  clear hdel
  rintro en w ⟨m, rfl, st⟩
  have hfil : (nameSet l).filter (fun x => !(!(nameR x && decide (x ∈ l')))) = nameBoth l l' := by
    unfold nameBoth
    refine List.filter_congr fun x hx => ?_
    rw [(HL.out.2 x hx).1]; simp
  rw [hfil] at st
  have hm : m = (nameBoth l l').length := strLen (st.row (i := 0) get0)
  have hfr := st.toFresh (i := 0) get0
  subst hm
  have HF := Lib.hid hfr
  clear hfr st hfil
  go_wp2_with fail
  go_ret
  exact ⟨va, vc, rfl, HF.out⟩
set_option maxRecDepth 100000 in
set_option maxHeartbeats 1000000 in
theorem within_any (a : Option Addr) (n c : Nat) (l : List (List UInt8)) (a' : Option Addr) (n' c' : Nat) (l' : List (List UInt8)) (W : World) (h : Fl W a n l) (h' : Fl W a' n' l') (hn : n ≤ 900000) (hn' : n' ≤ 900000) (hs : ∀ x ∈ l, x.length ≤ 100000) :
    Calls Try.prog 44 #[.slice a n c, .slice a' n' c'] W fun e w' => e = .returned (.bool (decide ((nameBoth l l').length = (nameSet l).length))) ∧ Ext W w' := by
  have H := Lib.hid (And.intro h (And.intro h' hs))
  clear h h' hs
  go_enter Try.func44, Try.ntmps44
  go_wp2_with fail
  refine (both_any a n c l a' n' c' l' _ H.out.1 H.out.2.1 hn hn' H.out.2.2).mono ?_
  rintro en w ⟨va, vc, rfl, hnew⟩
  have HX := Lib.hid hnew.1
  clear hnew
  go_wp2_with fail
  refine (nameSet_any a n c l _ (H.out.1.ext HX.out) (by omega) H.out.2.2).mono ?_
  rintro en w' ⟨va', vc', rfl, hnew⟩
  have HX2 := Lib.hid hnew.1
  clear hnew
  obtain ⟨p, hp⟩ : ∃ p, (nameBoth l l').length = p := ⟨_, rfl⟩
  obtain ⟨q, hq⟩ : ∃ q, (nameSet l).length = q := ⟨_, rfl⟩
  rw [hp, hq]
  have HE := Lib.hid (And.intro hp hq)
  clear hp hq
  go_wp2_with fail
  go_ret
  rw [HE.out.1, HE.out.2]
  exact ⟨by show Ending.returned (Value.bool ((p : Int) == (q : Int))) = _; congr 2; rw [Bool.eq_iff_iff]; simp; omega, HX.out.trans HX2.out⟩
end Go.Proofs.Ytpenjnccdachaaa

namespace Go.Proofs.Ytpenjnccdachaaa
set_option linter.unusedSimpArgs false
set_option linter.unusedVariables false
open Go Go.RowKit
theorem nameR_len {s : List UInt8} (h : nameR s = true) : 1 ≤ s.length ∧ s.length ≤ 16 := by
  cases s with
  | nil => simp [nameR] at h
  | cons c s => simp [nameR] at h; simp; omega
set_option maxRecDepth 100000 in
set_option maxHeartbeats 1000000 in
theorem namePut_yes {fr al : Nat → Prop} {w : World} {p : Nat} {xs : List UInt8} (st : Own fr al w [penI p xs] w) (s : List UInt8) (hr : nameR s = true) (hl : xs.length ≤ 10000000) :
    Calls Try.prog 46 #[.pointer (some ⟨p, 0, none⟩), S s] w fun e w' => e = .returned (.bool true) ∧ Own fr al w [penI p (xs ++ (numB s.length ++ s))] w' := by
  have hsl := nameR_len hr
  have HR := Lib.hid hr
  clear hr
  unfold S
  go_enter Try.func46, Try.ntmps46
  go_wp2_with fail
  refine (right_any s _ (by omega)).mono ?_
  rintro en w ⟨rfl, hx⟩
  replace st := st.ext hx
  clear hx
  (try clear hc); have hc := st.facts; (try simp only [factsOf, blkI, blkFacts, rowI, byI, datI, nullI, oldI, penI, rdI, rdAnyI, rdOverI, Nat.zero_add, Nat.reduceAdd, and_true, true_and, and_self] at hc)
  rw [HR.out]
  go_wp2_with ((((with_reducible refine wl_convert ?_ (fun K hK => ?_)); rfl; refine owp_sb (o := ⟨some 14, _, _, _, _, _⟩) rfl st rfl Try.underlying9 Try.underlying23 Try.underlying5 ?_ ?_; (simp only [maxLen]; omega); (clear st; intro A14 c14 w hc14 st))); (try simp only [Value.cells, List.cons_append, List.nil_append, List.set, spl, putIt, pick, List.map_cons, List.map_nil, List.getElem?_cons_zero, List.getElem?_cons_succ, Option.getD_some, List.drop_succ_cons, List.drop_zero, List.drop_nil, List.append_nil, unB] at st); (try clear hc); have hc := st.facts; (try simp only [factsOf, blkI, blkFacts, rowI, byI, datI, nullI, oldI, penI, rdI, rdAnyI, rdOverI, Nat.zero_add, Nat.reduceAdd, and_true, true_and, and_self] at hc))
  obtain ⟨fr', al', st', back⟩ := st.sub [0, 1] (by decide) (by simp)
  (try simp only [Value.cells, List.cons_append, List.nil_append, List.set, spl, putIt, pick, List.map_cons, List.map_nil, List.getElem?_cons_zero, List.getElem?_cons_succ, Option.getD_some, List.drop_succ_cons, List.drop_zero, List.drop_nil, List.append_nil, unB] at st')
  refine (penText_c st' (by omega) (by omega)).mono ?_
  clear st'
  rintro en w ⟨rfl, st'⟩
  replace st := back _ _ (by simp) st'
  clear back st'
  (try simp only [Value.cells, List.cons_append, List.nil_append, List.set, spl, putIt, pick, List.map_cons, List.map_nil, List.getElem?_cons_zero, List.getElem?_cons_succ, Option.getD_some, List.drop_succ_cons, List.drop_zero, List.drop_nil, List.append_nil, unB] at st)
  (try clear hc); have hc := st.facts; (try simp only [factsOf, blkI, blkFacts, rowI, byI, datI, nullI, oldI, penI, rdI, rdAnyI, rdOverI, Nat.zero_add, Nat.reduceAdd, and_true, true_and, and_self] at hc)
  go_wp2_with fail
  go_ret
  have st' := st.keep [0] (by decide) (by simp)
  exact ⟨rfl, by simpa [pick] using st'⟩
set_option maxRecDepth 100000 in
set_option maxHeartbeats 1000000 in
theorem namePut_no (p : Option Addr) (s : List UInt8) (w : World) (h : p = none ∨ nameR s = false) (hs : s.length ≤ 100000) :
    Calls Try.prog 46 #[.pointer p, S s] w fun e w' => e = .returned (.bool false) ∧ Ext w w' := by
  unfold S
  cases p with
  | none =>
    go_enter Try.func46, Try.ntmps46
    go_wp2_with fail
    go_ret
    exact ⟨rfl, Ext.refl _⟩
  | some ad =>
    have hr : nameR s = false := by rcases h with h | h; cases h; exact h
    have HR := Lib.hid hr
    clear hr h
    go_enter Try.func46, Try.ntmps46
    go_wp2_with fail
    refine (right_any s _ hs).mono ?_
    rintro en w' ⟨rfl, hx⟩
    rw [HR.out]
    have HX := Lib.hid hx
    clear hx
    go_wp2_with fail
    go_ret
    exact ⟨rfl, HX.out⟩
/-- The next name. -/
def rdName (xs : List UInt8) : Except Int (List UInt8 × List UInt8) := match rdText 16 xs with
  | .error e => .error e
  | .ok (s, ys) => if nameR s = true then .ok (s, ys) else .error 30
theorem Own.rdAny {fr al : Nat → Prop} {w0 w : World} {L : List It} (st : Own fr al w0 L w) {i r : Nat} {xs : List UInt8} (hi : L[i]? = some (rdI r xs)) : Own fr al w0 (L.set i (rdAnyI r)) w :=
  st.conv hi fun e s h h3 => ⟨e, s, ⟨h.1, h.2.any⟩, fun _ q => q, fun _ q => .inr q, h3⟩
theorem rdNum_lt {xs : List UInt8} {n : Nat} {ys : List UInt8} (h : rdNum xs = .ok (n, ys)) : ys.length < xs.length := (rdNum_spec h).2
theorem rdText_le {most : Int} {xs bs ys : List UInt8} (h : rdText most xs = .ok (bs, ys)) : bs.length ≤ xs.length ∧ ys.length ≤ xs.length ∧ (bs.length : Int) ≤ most := by
  unfold rdText at h
  cases hr : rdNum xs with
  | error e' => rw [hr] at h; simp at h
  | ok p =>
    obtain ⟨n, zs⟩ := p
    rw [hr] at h
    simp only at h
    have := rdNum_lt hr
    split at h
    · simp at h
    · split at h
      · simp at h
      · simp at h
        obtain ⟨rfl, rfl⟩ := h
        simp
        omega
set_option maxRecDepth 100000 in
set_option maxHeartbeats 1000000 in
theorem nameGet_c {fr al : Nat → Prop} {w : World} {r : Nat} {xs : List UInt8} (st : Own fr al w [rdI r xs] w) (hl : xs.length ≤ 100000) :
    Calls Try.prog 47 #[.pointer (some ⟨r, 0, none⟩)] w (RdC fr al w r (rdName xs) fun s v M => v = S s ∧ M = []) := by
  go_enter Try.func47, Try.ntmps47
  go_wp2_with fail
  have HN : Hid (rdName xs = match rdText 16 xs with | .error e => .error e | .ok (s, ys) => if nameR s = true then .ok (s, ys) else .error 30) := Lib.hid rfl
  obtain ⟨fr', al', st', back⟩ := st.sub [0] (by decide) (by simp)
  (try simp only [Value.cells, List.cons_append, List.nil_append, List.set, spl, putIt, pick, List.map_cons, List.map_nil, List.getElem?_cons_zero, List.getElem?_cons_succ, Option.getD_some, List.drop_succ_cons, List.drop_zero, List.drop_nil, List.append_nil, unB] at st')
  refine (text_c st' 16 (by omega)).mono ?_
  clear st'
  intro en w hen
  unfold RdC at hen
  cases hr : rdText 16 xs with
  | error e =>
    rw [hr] at hen
    obtain ⟨rfl, st'⟩ := hen
    replace st := back _ _ (by simp) st'
    clear back st'
    (try simp only [Value.cells, List.cons_append, List.nil_append, List.set, spl, putIt, pick, List.map_cons, List.map_nil, List.getElem?_cons_zero, List.getElem?_cons_succ, Option.getD_some, List.drop_succ_cons, List.drop_zero, List.drop_nil, List.append_nil, unB] at st)
    (try clear hc); have hc := st.facts; (try simp only [factsOf, blkI, blkFacts, rowI, byI, datI, nullI, oldI, penI, rdI, rdAnyI, rdOverI, Nat.zero_add, Nat.reduceAdd, and_true, true_and, and_self] at hc)
    have e1 : rdName xs = .error e := by rw [HN.out, hr]
    have H1 := Lib.hid e1
    clear e1 hr
    go_wp2_with fail
    refine ⟨rfl, ?_⟩
    unfold RdC
    rw [H1.out]
    exact ⟨rfl, st⟩
  | ok p =>
    obtain ⟨s, ys⟩ := p
    rw [hr] at hen
    obtain ⟨v, M, rfl, ⟨a', c', rfl, hc1, rfl⟩, st'⟩ := hen
    replace st := back _ _ (by simp) st'
    clear back st'
    (try simp only [Value.cells, List.cons_append, List.nil_append, List.set, spl, putIt, pick, List.map_cons, List.map_nil, List.getElem?_cons_zero, List.getElem?_cons_succ, Option.getD_some, List.drop_succ_cons, List.drop_zero, List.drop_nil, List.append_nil, unB] at st)
    (try clear hc); have hc := st.facts; (try simp only [factsOf, blkI, blkFacts, rowI, byI, datI, nullI, oldI, penI, rdI, rdAnyI, rdOverI, Nat.zero_add, Nat.reduceAdd, and_true, true_and, and_self] at hc)
    have hle := rdText_le hr
    have HR := Lib.hid hr
    clear hr
    go_wp2_with ((((with_reducible refine wl_convert ?_ (fun K hK => ?_)); rfl; (first | (refine owp_bs (o := ⟨some 8, _, _, _, _, _⟩) rfl st 1 get1 rfl Try.underlying23 Try.underlying5 Try.underlying9 ?_)))); (try simp only [Value.cells, List.cons_append, List.nil_append, List.set, spl, putIt, pick, List.map_cons, List.map_nil, List.getElem?_cons_zero, List.getElem?_cons_succ, Option.getD_some, List.drop_succ_cons, List.drop_zero, List.drop_nil, List.append_nil, unB] at st); (try clear hc); have hc := st.facts; (try simp only [factsOf, blkI, blkFacts, rowI, byI, datI, nullI, oldI, penI, rdI, rdAnyI, rdOverI, Nat.zero_add, Nat.reduceAdd, and_true, true_and, and_self] at hc))
    refine (right_any s _ (by omega)).mono ?_
    rintro en w ⟨rfl, hx⟩
    replace st := st.ext hx
    clear hx
    (try clear hc); have hc := st.facts; (try simp only [factsOf, blkI, blkFacts, rowI, byI, datI, nullI, oldI, penI, rdI, rdAnyI, rdOverI, Nat.zero_add, Nat.reduceAdd, and_true, true_and, and_self] at hc)
    by_cases hn : nameR s = true
    · have e1 : rdName xs = .ok (s, ys) := by rw [HN.out, HR.out]; simp [hn]
      have H1 := Lib.hid (And.intro hn e1)
      clear e1 hn
      rw [H1.out.1]
      go_wp2_with fail
      go_ret
      unfold RdC
      rw [H1.out.2]
      have st' := st.keep [0] (by decide) (by simp)
      exact ⟨_, [], rfl, ⟨rfl, rfl⟩, by simpa [pick] using st'⟩
    · have hn' : nameR s = false := by simpa using hn
      have e1 : rdName xs = .error 30 := by rw [HN.out, HR.out]; simp [hn']
      have H1 := Lib.hid (And.intro hn' e1)
      clear e1 hn hn'
      rw [H1.out.1]
      obtain ⟨_, sq, ⟨_, hrd⟩, _⟩ := st.get (i := 0) (I := rdI r ys) get0
      go_wp2_with fail
      refine (fail_any _ r 30 hrd.any (by decide)).mono ?_
      rintro en w' ⟨rfl, rfl⟩
      go_wp2_with fail
      refine ⟨rfl, ?_⟩
      unfold RdC
      rw [H1.out.2]
      have st' := (st.rdAny (i := 0) get0).keep [0] (by decide) (by simp)
      exact ⟨rfl, by simpa [pick] using st'⟩
end Go.Proofs.Ytpenjnccdachaaa

namespace Go.Proofs.Ytpenjnccdachaaa
set_option linter.unusedSimpArgs false
set_option linter.unusedVariables false
open Go Go.RowKit
theorem rdText_len {most : Int} {xs : List UInt8} {bs ys : List UInt8} (h : rdText most xs = .ok (bs, ys)) : bs.length ≤ xs.length ∧ ys.length ≤ xs.length := ⟨(rdText_le h).1, (rdText_le h).2.1⟩
set_option maxRecDepth 100000 in
set_option maxHeartbeats 1000000 in
theorem refGetName_m {fr al : Nat → Prop} {w : World} {t : Nat} {res : Except Int (List UInt8)} (st : Own fr al w [refI t res] w) (hl : ∀ xs, res = .ok xs → xs.length ≤ 1000000) :
    Calls Try.prog 49 #[.pointer (some ⟨t, 0, none⟩)] w (RefC fr al w t (bnd res rdName) (S []) fun s => S s) := by
  go_enter Try.func49, Try.ntmps49
  go_wp2_with fail
  obtain ⟨fr', al', st', back⟩ := st.sub [0] (by decide) (by simp)
  (try simp only [Value.cells, List.cons_append, List.nil_append, List.set, spl, putIt, pick, List.map_cons, List.map_nil, List.getElem?_cons_zero, List.getElem?_cons_succ, Option.getD_some, List.drop_succ_cons, List.drop_zero, List.drop_nil, List.append_nil, unB] at st')
  refine (refText_m st' 16 (fun xs hx => by have := hl xs hx; omega)).mono ?_
  clear st'
  intro en w hen
  unfold RefC at hen
  cases hr : bnd res (rdText 16) with
  | error e =>
    rw [hr] at hen
    obtain ⟨rfl, st'⟩ := hen
    replace st := back _ _ (by simp) st'
    clear back st'
    (try simp only [Value.cells, List.cons_append, List.nil_append, List.set, spl, putIt, pick, List.map_cons, List.map_nil, List.getElem?_cons_zero, List.getElem?_cons_succ, Option.getD_some, List.drop_succ_cons, List.drop_zero, List.drop_nil, List.append_nil, unB] at st)
    (try clear hc); have hc := st.facts; (try simp only [factsOf, blkI, blkFacts, rowI, byI, datI, nullI, oldI, penI, rdI, rdAnyI, rdOverI, Nat.zero_add, Nat.reduceAdd, and_true, true_and, and_self] at hc)
    obtain ⟨xs, he, st1⟩ := st.refErr (i := 0) get0
    have hb := st1.blk (i := 0) (b := t) (vs := [S xs, .int .i64 e]) rfl
    have r1 := hb.cell 1
    simp only [List.getElem?_cons_succ, List.getElem?_cons_zero] at r1
    have hne : (e != 0) = true := by simpa using he
    have hne2 : (e == 0) = false := by simpa using he
    have HE : Hid (bnd res rdName = .error e) := Lib.hid (by
      cases res with
      | error e' => simpa [bnd] using hr
      | ok xs => simp only [bnd] at hr ⊢; unfold rdName; rw [hr])
    clear hr hb st1
    unfold S
    go_wp2_with fail
    go_ret
    unfold RefC
    rw [HE.out]
    exact ⟨rfl, st⟩
  | ok p =>
    obtain ⟨s, ys⟩ := p
    rw [hr] at hen
    obtain ⟨rfl, st'⟩ := hen
    replace st := back _ _ (by simp) st'
    clear back st'
    (try simp only [Value.cells, List.cons_append, List.nil_append, List.set, spl, putIt, pick, List.map_cons, List.map_nil, List.getElem?_cons_zero, List.getElem?_cons_succ, Option.getD_some, List.drop_succ_cons, List.drop_zero, List.drop_nil, List.append_nil, unB] at st)
    (try clear hc); have hc := st.facts; (try simp only [factsOf, blkI, blkFacts, rowI, byI, datI, nullI, oldI, penI, rdI, rdAnyI, rdOverI, Nat.zero_add, Nat.reduceAdd, and_true, true_and, and_self] at hc)
    obtain ⟨xs, hres⟩ : ∃ xs, res = .ok xs := by
      cases res with
      | error e => simp [bnd] at hr
      | ok xs => exact ⟨xs, rfl⟩
    subst hres
    simp only [bnd] at hr ⊢
    have hle := rdText_len hr
    have hxl := hl xs rfl
    have HR := Lib.hid hr
    replace st := st.refOk (i := 0) get0
    clear hr
    (try simp only [Value.cells, List.cons_append, List.nil_append, List.set, spl, putIt, pick, List.map_cons, List.map_nil, List.getElem?_cons_zero, List.getElem?_cons_succ, Option.getD_some, List.drop_succ_cons, List.drop_zero, List.drop_nil, List.append_nil, unB] at st)
    (try clear hc); have hc := st.facts; (try simp only [factsOf, blkI, blkFacts, rowI, byI, datI, nullI, oldI, penI, rdI, rdAnyI, rdOverI, Nat.zero_add, Nat.reduceAdd, and_true, true_and, and_self] at hc)
    unfold S
    go_wp2_with fail
    refine (refRight_any s _ (by omega)).mono ?_
    rintro en w ⟨rfl, hx⟩
    replace st := st.ext hx
    clear hx
    (try clear hc); have hc := st.facts; (try simp only [factsOf, blkI, blkFacts, rowI, byI, datI, nullI, oldI, penI, rdI, rdAnyI, rdOverI, Nat.zero_add, Nat.reduceAdd, and_true, true_and, and_self] at hc)
    by_cases hn : nameR s = true
    · have HE : Hid (rdName xs = .ok (s, ys)) := Lib.hid (by unfold rdName; rw [HR.out]; simp [hn])
      rw [hn]
      clear hn
      go_wp2_with fail
      have st2 := (st.refMk (i := 0) (t := t) (xs := ys) rfl).keep [0] (by decide) (by simp)
      go_ret
      unfold RefC
      rw [show bnd (Except.ok xs) rdName = rdName xs from rfl, HE.out]
      exact ⟨rfl, by simpa [pick] using st2⟩
    · have hn' : nameR s = false := by simpa using hn
      have HE : Hid (rdName xs = .error 30) := Lib.hid (by unfold rdName; rw [HR.out]; simp [hn'])
      rw [hn']
      clear hn hn'
      go_wp2_with ((((with_reducible refine wl_store ?_ (fun K hK => ?_)); rfl; refine owp_store rfl st ?_; apply Exists.intro; apply Exists.intro; refine ⟨?_, ?_, ?_⟩; (focus (go_simp; try rfl)); (focus (go_simp; try rfl)); (with_reducible refine ⟨0, _, _, _, _, get0, rfl, rfl, ?_, ?_, ?_, ?_⟩); (kernel_rfl); (simp [Value.cells]); (rfl); (clear st; intro w st))); (try simp only [Value.cells, List.cons_append, List.nil_append, List.set, spl, putIt, pick, List.map_cons, List.map_nil, List.getElem?_cons_zero, List.getElem?_cons_succ, Option.getD_some, List.drop_succ_cons, List.drop_zero, List.drop_nil, List.append_nil, unB] at st); (try clear hc); have hc := st.facts; (try simp only [factsOf, blkI, blkFacts, rowI, byI, datI, nullI, oldI, penI, rdI, rdAnyI, rdOverI, Nat.zero_add, Nat.reduceAdd, and_true, true_and, and_self] at hc))
      have st2 := (st.refMkE (i := 0) (t := t) (xs := ys) (er := 30) rfl (by decide)).keep [0] (by decide) (by simp)
      go_ret
      unfold RefC
      rw [show bnd (Except.ok xs) rdName = rdName xs from rfl, HE.out]
      exact ⟨rfl, by simpa [pick] using st2⟩
set_option maxRecDepth 100000 in
set_option maxHeartbeats 1000000 in
theorem firstGet_c {fr al : Nat → Prop} {w : World} {r b : Nat} {xs z : List UInt8} (st : Own fr al w [rdI r xs, blkI b [S z]] w) (hl : xs.length ≤ 100000) :
    Calls Try.prog 101 #[.pointer (some ⟨r, 0, none⟩), .pointer (some ⟨b, 0, none⟩)] w (GetPost fr al w r b (rdName xs) [S z] fun s => [S s]) := by
  go_enter Try.func101, Try.ntmps101
  go_wp2_with fail
  obtain ⟨fr', al', st', back⟩ := st.sub [0] (by decide) (by simp)
  (try simp only [Value.cells, List.cons_append, List.nil_append, List.set, spl, putIt, pick, List.map_cons, List.map_nil, List.getElem?_cons_zero, List.getElem?_cons_succ, Option.getD_some, List.drop_succ_cons, List.drop_zero, List.drop_nil, List.append_nil, unB] at st')
  refine (nameGet_c st' hl).mono ?_
  clear st'
  intro en w hen
  unfold RdC at hen
  cases hr : rdName xs with
  | error e =>
    rw [hr] at hen
    obtain ⟨rfl, st'⟩ := hen
    replace st := back _ _ (by simp) st'
    clear back st'
    (try simp only [Value.cells, List.cons_append, List.nil_append, List.set, spl, putIt, pick, List.map_cons, List.map_nil, List.getElem?_cons_zero, List.getElem?_cons_succ, Option.getD_some, List.drop_succ_cons, List.drop_zero, List.drop_nil, List.append_nil, unB] at st)
    (try clear hc); have hc := st.facts; (try simp only [factsOf, blkI, blkFacts, rowI, byI, datI, nullI, oldI, penI, rdI, rdAnyI, rdOverI, Nat.zero_add, Nat.reduceAdd, and_true, true_and, and_self] at hc)
    have HR := Lib.hid hr
    clear hr
    go_wp2_with fail
    refine ⟨rfl, ?_⟩
    unfold GetPost
    rw [HR.out]
    exact ⟨rfl, st⟩
  | ok p =>
    obtain ⟨s, ys⟩ := p
    rw [hr] at hen
    obtain ⟨v, M, rfl, ⟨rfl, rfl⟩, st'⟩ := hen
    replace st := back _ _ (by simp) st'
    clear back st'
    (try simp only [Value.cells, List.cons_append, List.nil_append, List.set, spl, putIt, pick, List.map_cons, List.map_nil, List.getElem?_cons_zero, List.getElem?_cons_succ, Option.getD_some, List.drop_succ_cons, List.drop_zero, List.drop_nil, List.append_nil, unB] at st)
    (try clear hc); have hc := st.facts; (try simp only [factsOf, blkI, blkFacts, rowI, byI, datI, nullI, oldI, penI, rdI, rdAnyI, rdOverI, Nat.zero_add, Nat.reduceAdd, and_true, true_and, and_self] at hc)
    have HR := Lib.hid hr
    clear hr
    unfold S
    go_wp2_with ((((with_reducible refine wl_store ?_ (fun K hK => ?_)); rfl; refine owp_store rfl st ?_; apply Exists.intro; apply Exists.intro; refine ⟨?_, ?_, ?_⟩; (focus (go_simp; try rfl)); (focus (go_simp; try rfl)); (with_reducible refine ⟨1, _, _, _, _, get1, rfl, rfl, ?_, ?_, ?_, ?_⟩); (kernel_rfl); (simp [Value.cells]); (rfl); (clear st; intro w st))); (try simp only [Value.cells, List.cons_append, List.nil_append, List.set, spl, putIt, pick, List.map_cons, List.map_nil, List.getElem?_cons_zero, List.getElem?_cons_succ, Option.getD_some, List.drop_succ_cons, List.drop_zero, List.drop_nil, List.append_nil, unB] at st); (try clear hc); have hc := st.facts; (try simp only [factsOf, blkI, blkFacts, rowI, byI, datI, nullI, oldI, penI, rdI, rdAnyI, rdOverI, Nat.zero_add, Nat.reduceAdd, and_true, true_and, and_self] at hc))
    go_end0
    unfold GetPost
    rw [HR.out]
    exact ⟨rfl, by simpa [S] using st⟩
set_option maxRecDepth 100000 in
set_option maxHeartbeats 1000000 in
theorem getsGet_c {fr al : Nat → Prop} {w : World} {r b : Nat} {xs z : List UInt8} (st : Own fr al w [rdI r xs, blkI b [S z]] w) (hl : xs.length ≤ 100000) :
    Calls Try.prog 48 #[.pointer (some ⟨r, 0, none⟩), .pointer (some ⟨b, 0, none⟩)] w (GetPost fr al w r b (rdName xs) [S z] fun s => [S s]) := by
  go_enter Try.func48, Try.ntmps48
  go_wp2_with fail
  obtain ⟨fr', al', st', back⟩ := st.sub [0] (by decide) (by simp)
  (try simp only [Value.cells, List.cons_append, List.nil_append, List.set, spl, putIt, pick, List.map_cons, List.map_nil, List.getElem?_cons_zero, List.getElem?_cons_succ, Option.getD_some, List.drop_succ_cons, List.drop_zero, List.drop_nil, List.append_nil, unB] at st')
  refine (nameGet_c st' hl).mono ?_
  clear st'
  intro en w hen
  unfold RdC at hen
  cases hr : rdName xs with
  | error e =>
    rw [hr] at hen
    obtain ⟨rfl, st'⟩ := hen
    replace st := back _ _ (by simp) st'
    clear back st'
    (try simp only [Value.cells, List.cons_append, List.nil_append, List.set, spl, putIt, pick, List.map_cons, List.map_nil, List.getElem?_cons_zero, List.getElem?_cons_succ, Option.getD_some, List.drop_succ_cons, List.drop_zero, List.drop_nil, List.append_nil, unB] at st)
    (try clear hc); have hc := st.facts; (try simp only [factsOf, blkI, blkFacts, rowI, byI, datI, nullI, oldI, penI, rdI, rdAnyI, rdOverI, Nat.zero_add, Nat.reduceAdd, and_true, true_and, and_self] at hc)
    have HR := Lib.hid hr
    clear hr
    go_wp2_with fail
    refine ⟨rfl, ?_⟩
    unfold GetPost
    rw [HR.out]
    exact ⟨rfl, st⟩
  | ok p =>
    obtain ⟨s, ys⟩ := p
    rw [hr] at hen
    obtain ⟨v, M, rfl, ⟨rfl, rfl⟩, st'⟩ := hen
    replace st := back _ _ (by simp) st'
    clear back st'
    (try simp only [Value.cells, List.cons_append, List.nil_append, List.set, spl, putIt, pick, List.map_cons, List.map_nil, List.getElem?_cons_zero, List.getElem?_cons_succ, Option.getD_some, List.drop_succ_cons, List.drop_zero, List.drop_nil, List.append_nil, unB] at st)
    (try clear hc); have hc := st.facts; (try simp only [factsOf, blkI, blkFacts, rowI, byI, datI, nullI, oldI, penI, rdI, rdAnyI, rdOverI, Nat.zero_add, Nat.reduceAdd, and_true, true_and, and_self] at hc)
    have HR := Lib.hid hr
    clear hr
    unfold S
    go_wp2_with ((((with_reducible refine wl_store ?_ (fun K hK => ?_)); rfl; refine owp_store rfl st ?_; apply Exists.intro; apply Exists.intro; refine ⟨?_, ?_, ?_⟩; (focus (go_simp; try rfl)); (focus (go_simp; try rfl)); (with_reducible refine ⟨1, _, _, _, _, get1, rfl, rfl, ?_, ?_, ?_, ?_⟩); (kernel_rfl); (simp [Value.cells]); (rfl); (clear st; intro w st))); (try simp only [Value.cells, List.cons_append, List.nil_append, List.set, spl, putIt, pick, List.map_cons, List.map_nil, List.getElem?_cons_zero, List.getElem?_cons_succ, Option.getD_some, List.drop_succ_cons, List.drop_zero, List.drop_nil, List.append_nil, unB] at st); (try clear hc); have hc := st.facts; (try simp only [factsOf, blkI, blkFacts, rowI, byI, datI, nullI, oldI, penI, rdI, rdAnyI, rdOverI, Nat.zero_add, Nat.reduceAdd, and_true, true_and, and_self] at hc))
    go_end0
    unfold GetPost
    rw [HR.out]
    exact ⟨rfl, by simpa [S] using st⟩
set_option maxRecDepth 100000 in
set_option maxHeartbeats 1000000 in
theorem meetsGet_c {fr al : Nat → Prop} {w : World} {r b : Nat} {xs z : List UInt8} (st : Own fr al w [rdI r xs, blkI b [S z]] w) (hl : xs.length ≤ 100000) :
    Calls Try.prog 50 #[.pointer (some ⟨r, 0, none⟩), .pointer (some ⟨b, 0, none⟩)] w (GetPost fr al w r b (rdName xs) [S z] fun s => [S s]) := by
  go_enter Try.func50, Try.ntmps50
  go_wp2_with fail
  obtain ⟨fr', al', st', back⟩ := st.sub [0] (by decide) (by simp)
  (try simp only [Value.cells, List.cons_append, List.nil_append, List.set, spl, putIt, pick, List.map_cons, List.map_nil, List.getElem?_cons_zero, List.getElem?_cons_succ, Option.getD_some, List.drop_succ_cons, List.drop_zero, List.drop_nil, List.append_nil, unB] at st')
  refine (nameGet_c st' hl).mono ?_
  clear st'
  intro en w hen
  unfold RdC at hen
  cases hr : rdName xs with
  | error e =>
    rw [hr] at hen
    obtain ⟨rfl, st'⟩ := hen
    replace st := back _ _ (by simp) st'
    clear back st'
    (try simp only [Value.cells, List.cons_append, List.nil_append, List.set, spl, putIt, pick, List.map_cons, List.map_nil, List.getElem?_cons_zero, List.getElem?_cons_succ, Option.getD_some, List.drop_succ_cons, List.drop_zero, List.drop_nil, List.append_nil, unB] at st)
    (try clear hc); have hc := st.facts; (try simp only [factsOf, blkI, blkFacts, rowI, byI, datI, nullI, oldI, penI, rdI, rdAnyI, rdOverI, Nat.zero_add, Nat.reduceAdd, and_true, true_and, and_self] at hc)
    have HR := Lib.hid hr
    clear hr
    go_wp2_with fail
    refine ⟨rfl, ?_⟩
    unfold GetPost
    rw [HR.out]
    exact ⟨rfl, st⟩
  | ok p =>
    obtain ⟨s, ys⟩ := p
    rw [hr] at hen
    obtain ⟨v, M, rfl, ⟨rfl, rfl⟩, st'⟩ := hen
    replace st := back _ _ (by simp) st'
    clear back st'
    (try simp only [Value.cells, List.cons_append, List.nil_append, List.set, spl, putIt, pick, List.map_cons, List.map_nil, List.getElem?_cons_zero, List.getElem?_cons_succ, Option.getD_some, List.drop_succ_cons, List.drop_zero, List.drop_nil, List.append_nil, unB] at st)
    (try clear hc); have hc := st.facts; (try simp only [factsOf, blkI, blkFacts, rowI, byI, datI, nullI, oldI, penI, rdI, rdAnyI, rdOverI, Nat.zero_add, Nat.reduceAdd, and_true, true_and, and_self] at hc)
    have HR := Lib.hid hr
    clear hr
    unfold S
    go_wp2_with ((((with_reducible refine wl_store ?_ (fun K hK => ?_)); rfl; refine owp_store rfl st ?_; apply Exists.intro; apply Exists.intro; refine ⟨?_, ?_, ?_⟩; (focus (go_simp; try rfl)); (focus (go_simp; try rfl)); (with_reducible refine ⟨1, _, _, _, _, get1, rfl, rfl, ?_, ?_, ?_, ?_⟩); (kernel_rfl); (simp [Value.cells]); (rfl); (clear st; intro w st))); (try simp only [Value.cells, List.cons_append, List.nil_append, List.set, spl, putIt, pick, List.map_cons, List.map_nil, List.getElem?_cons_zero, List.getElem?_cons_succ, Option.getD_some, List.drop_succ_cons, List.drop_zero, List.drop_nil, List.append_nil, unB] at st); (try clear hc); have hc := st.facts; (try simp only [factsOf, blkI, blkFacts, rowI, byI, datI, nullI, oldI, penI, rdI, rdAnyI, rdOverI, Nat.zero_add, Nat.reduceAdd, and_true, true_and, and_self] at hc))
    go_end0
    unfold GetPost
    rw [HR.out]
    exact ⟨rfl, by simpa [S] using st⟩
end Go.Proofs.Ytpenjnccdachaaa

namespace Go.Proofs.Ytpenjnccdachaaa
set_option linter.unusedSimpArgs false
set_option linter.unusedVariables false
open Go Go.RowKit
theorem B_toNat (c : UInt8) : UInt8.ofNat c.toNat = c := by simp
theorem rdNumF_canon (f : Nat) : ∀ (i acc : Nat) (xs : List UInt8) (n : Nat) (ys : List UInt8), f + i = 10 → rdNumF f i acc xs = .ok (n, ys) → ∃ m, n = acc + m * 128 ^ i ∧ xs = numF f m ++ ys ∧ (0 < i → 0 < m) := by
  induction f with
  | zero => intro i acc xs n ys _ h; simp [rdNumF] at h
  | succ f ih =>
    intro i acc xs n ys hf h
    unfold rdNumF rdNext at h
    by_cases h9 : i = 9
    · simp [h9] at h
    · rw [if_neg h9] at h
      cases xs with
      | nil => simp at h
      | cons c zs =>
        simp only at h
        by_cases h0 : c = 0 ∧ 0 < i
        · rw [if_pos h0] at h; simp at h
        · rw [if_neg h0] at h
          simp only at h
          by_cases hc : c.toNat < 128
          · rw [if_pos hc] at h
            simp at h
            obtain ⟨h1, rfl⟩ := h
            refine ⟨c.toNat, by rw [← h1, Nat.mod_eq_of_lt hc], by rw [numF_last _ _ (by omega)]; simp, fun hi => ?_⟩
            rcases Nat.eq_zero_or_pos c.toNat with q | q
            · exact absurd ⟨by apply UInt8.toNat_inj.1; simpa using q, hi⟩ h0
            · exact q
          · rw [if_neg hc] at h
            obtain ⟨m, h1, h2, h3⟩ := ih (i + 1) _ zs n ys (by omega) h
            have hm := h3 (by omega)
            have hlt := c.toNat_lt
            refine ⟨c.toNat % 128 + 128 * m, ?_, ?_, fun _ => by omega⟩
            · rw [h1, Nat.pow_succ, Nat.add_mul]
              rw [show 128 * m * 128 ^ i = m * (128 ^ i * 128) by rw [Nat.mul_comm 128 m, Nat.mul_assoc, Nat.mul_comm 128]]
              omega
            · rw [numF_more _ _ (by omega), h2, List.cons_append]
              have e1 : (128 + (c.toNat % 128 + 128 * m) % 128) = c.toNat := by omega
              have e2 : (c.toNat % 128 + 128 * m) / 128 = m := by omega
              rw [e1, e2, B_toNat]
theorem rdNum_canon {xs : List UInt8} {n : Nat} {ys : List UInt8} (h : rdNum xs = .ok (n, ys)) : xs = numB n ++ ys := by
  obtain ⟨m, h1, h2, _⟩ := rdNumF_canon 10 0 0 xs n ys rfl h
  simp at h1
  subst h1
  exact h2
theorem rdNumF_back (f : Nat) : ∀ (i acc m : Nat) (ys : List UInt8), f + i = 10 → m * 128 ^ i < 9223372036854775808 → (0 < i → 0 < m) → rdNumF f i acc (numF f m ++ ys) = .ok (acc + m * 128 ^ i, ys) := by
  induction f with
  | zero =>
    intro i acc m ys hf hm hi
    exfalso
    obtain rfl : i = 10 := by omega
    have := hi (by omega)
    have : (128 : Nat) ^ 10 ≤ m * 128 ^ 10 := Nat.le_mul_of_pos_left _ this
    have h3 : (128 : Nat) ^ 10 = 1180591620717411303424 := by decide
    omega
  | succ f ih =>
    intro i acc m ys hf hm hi
    have h9 : i ≠ 9 := by
      rintro rfl
      have := hi (by omega)
      have h1 : (128 : Nat) ^ 9 ≤ m * 128 ^ 9 := Nat.le_mul_of_pos_left _ this
      have h3 : (128 : Nat) ^ 9 = 9223372036854775808 := by decide
      omega
    by_cases hlt : 128 ≤ m
    · rw [numF_more _ _ hlt, List.cons_append]
      unfold rdNumF rdNext
      rw [if_neg h9]
      have hc : (UInt8.ofNat (128 + m % 128)).toNat = 128 + m % 128 := by simp; omega
      have hne : UInt8.ofNat (128 + m % 128) ≠ 0 := fun q => by have := congrArg UInt8.toNat q; rw [hc] at this; simp at this
      simp only [hne, false_and, if_false, hc]
      rw [if_neg (by omega), ih (i + 1) _ (m / 128) ys (by omega) ?_ (fun _ => by omega)]
      · congr 2
        have e1 : (128 + m % 128) % 128 = m % 128 := by omega
        rw [e1, Nat.pow_succ, Nat.add_assoc, ← Nat.mul_assoc, Nat.mul_right_comm, ← Nat.add_mul]
        congr 2
        omega
      · rw [Nat.pow_succ, Nat.mul_comm (128 ^ i), ← Nat.mul_assoc]
        exact Nat.lt_of_le_of_lt (Nat.mul_le_mul_right _ (Nat.div_mul_le_self m 128)) hm
    · rw [numF_last _ _ hlt, List.cons_append]
      unfold rdNumF rdNext
      rw [if_neg h9]
      have hc : (UInt8.ofNat m).toNat = m := by simp; omega
      have hne : ¬ (UInt8.ofNat m = 0 ∧ 0 < i) := fun ⟨q, q2⟩ => by have := congrArg UInt8.toNat q; rw [hc] at this; simp at this; have := hi q2; omega
      simp only [hne, if_false, hc]
      rw [if_pos (by omega), Nat.mod_eq_of_lt (by omega)]
      rfl
theorem rdNum_back (n : Nat) (ys : List UInt8) (hn : n < 9223372036854775808) : rdNum (numB n ++ ys) = .ok (n, ys) := by
  have := rdNumF_back 10 0 0 n ys rfl (by simpa using hn) (fun h => by omega)
  simpa [rdNum, numB] using this
theorem rdText_put (most : Nat) (b ys : List UInt8) (hb : b.length ≤ most) (hm : most < 9223372036854775808) : rdText (most : Int) (numB b.length ++ b ++ ys) = .ok (b, ys) := by
  unfold rdText
  rw [List.append_assoc, rdNum_back _ _ (by omega)]
  simp only
  rw [if_neg (by omega), if_neg (by simp)]
  simp
theorem rdNumber_put (most n : Nat) (ys : List UInt8) (hn : n ≤ most) (hm : most < 9223372036854775808) : rdNumber (most : Int) (numB n ++ ys) = .ok (n, ys) := by
  unfold rdNumber
  rw [rdNum_back _ _ (by omega)]
  simp only
  rw [if_neg (by omega)]
end Go.Proofs.Ytpenjnccdachaaa

namespace Go.Proofs.Ytpenjnccdachaaa
set_option linter.unusedSimpArgs false
set_option linter.unusedVariables false
open Go Go.RowKit
section
variable {P : Program} {fn : Func} {R : Ending → World → Prop} {a : Act} {w : World} {p u g : Nat} {ty : TypeId} {d : TypeDesc} {vs : List Value}
theorem bodyPost_cell (h : fn.results = #[.cell p ty]) (hp : a.tmps.getD p undef = .pointer (some ⟨g, 0, none⟩)) (hb : Blk w g vs) (hu : P.underlying ty = some d) (hd : (match d with | .struct _ | .array _ _ => true | _ => false) = true) (hi : (P.info? ty).map (·.size) = some vs.length)
    (hdef : a.defers = []) (hR : R (.returned (.agg vs.toArray)) w) : bodyPost P fn R .ret a w := by
  obtain ⟨t, hb⟩ := hb
  exact bodyPost_ret (results_cell_row h a.tmps w g t vs.toArray (0, 0) d hp hb hu hd (by simpa using hi)) hdef hR
theorem bodyPost_cell2 (h : fn.results = #[.cell p ty, .tmp u]) (hp : a.tmps.getD p undef = .pointer (some ⟨g, 0, none⟩)) (hb : Blk w g vs) (hu : P.underlying ty = some d) (hd : (match d with | .struct _ | .array _ _ => true | _ => false) = true) (hi : (P.info? ty).map (·.size) = some vs.length)
    (hdef : a.defers = []) (hR : R (.returned (.tuple #[.agg vs.toArray, a.tmps.getD u undef])) w) : bodyPost P fn R .ret a w := by
  obtain ⟨t, hb⟩ := hb
  refine bodyPost_ret (v := .tuple #[.agg vs.toArray, a.tmps.getD u undef]) ?_ hdef hR
  rw [results_cell_tmp h]
  rw [hp]
  simp [asAddr, run_loadVar_row w g t ty vs.toArray (0, 0) d hb hu hd (by simpa using hi), Result.andThen]
end
end Go.Proofs.Ytpenjnccdachaaa
