/- The library's functions at []string, over pieces of memory. -/
import Derived.Test.YtpenjnccdachaaaNameL
import Derived.Test.YtpenjnccdachaaaRefNameS
import Derived.Test.YtpenjnccdachaaaShelf
import Derived.Sort.OwnSorted
namespace Go.Proofs.Ytpenjnccdachaaa
set_option linter.unusedSimpArgs false
set_option linter.unusedVariables false
open Go Go.RowKit Go.Sort Go.Lib
theorem str_map (l : List (List UInt8)) : cellsL l = l.map encStr := by
  apply List.ext_getElem?
  intro j
  rw [str_get, List.getElem?_map]; rfl
section
variable {fr al : Nat → Prop} {w0 w : World} {L : List It}
theorem strLen {n : Nat} {v : Value} {E : TypeId} {xs : List (List UInt8)} (h : w.ownsRow 0 E 1 v n (cellsL xs)) : n = xs.length := by
  have := h.1
  rw [cellsL_len] at this
  simpa [fltStr_k] using this.symm
theorem sortStr_c (st : Own fr al w0 L w) (i : Nat) {n c : Nat} {a : Option Addr} {xs : List (List UInt8)} (hi : L[i]? = some (rowI 9 1 (.slice a n c) n (cellsL xs))) (hn : n ≤ 2000000) :
    Calls Try.prog 105 #[.slice a n c] w fun e w' => e = .returned (.tuple #[]) ∧ Own fr al w0 (L.set i (rowI 9 1 (.slice a n c) n (cellsL (xs.mergeSort fun x y => decide (x ≤ y))))) w' := by
  have hrow := st.row hi
  have hnx := strLen hrow
  rcases hrow.2 with ⟨h1, h2⟩ | ⟨g, cap, cur, h1, hb, hg, hcap, hm, hs, ht⟩
  · cases h1
    have : xs = [] := List.eq_nil_of_length_eq_zero hnx.symm
    subst this
    refine (Try.slices_Sort_string_none none 0 w).mono ?_
    rintro e w' ⟨rfl, rfl⟩
    refine ⟨rfl, ?_⟩
    have : L.set i (rowI 9 1 (.slice none 0 0) 0 (cellsL (([] : List (List UInt8)).mergeSort fun x y => decide (x ≤ y)))) = L := by
      apply List.ext_getElem?
      intro q
      rw [List.getElem?_set]
      split
      · rename_i h; subst h; rw [hi, if_pos (get_lt hi), List.mergeSort_nil]
      · rfl
    rw [this]; exact st
  · cases h1
    subst hnx
    rw [Nat.mul_one, str_map] at ht
    refine (Try.slices_Sort_string g 0 c xs w (holds_of_block hg (by simpa using ht)) (Array.getElem?_eq_some_iff.1 hg).1 (by omega)).mono ?_
    rintro e w' ⟨rfl, m, os, rfl⟩
    refine ⟨rfl, st.upd hi fun e s ⟨q1, q2⟩ q3 q4 => ⟨e, s, ⟨?_, q2⟩, fun b hb => ⟨Nat.lt_of_lt_of_le (q3 b (.inl hb)) (grownBy_sorted _).size, .inl hb⟩, fun b hb => ⟨Nat.lt_of_lt_of_le (q3 b (.inr hb)) (grownBy_sorted _).size, .inr (.inl hb)⟩, q4, MutO.grown (MutO.refl _ _) ⟨grownBy_sorted _, Nat.le_add_right _ _⟩ fun k hk _ => ?_⟩⟩
    · rw [str_map]
      exact ownsRow_sorted (by simp) (Nat.zero_le _) hg hcap hm hs
    · cases hk; exact q2 g rfl
theorem compactStr_c (st : Own fr al w0 L w) (i : Nat) {n c : Nat} {a : Option Addr} {xs : List (List UInt8)} (hi : L[i]? = some (rowI 9 1 (.slice a n c) n (cellsL xs))) (hn : n ≤ 2000000) :
    Calls Try.prog 106 #[.slice a n c] w fun e w' => e = .returned (.slice a (compact xs).length c) ∧ Own fr al w0 (L.set i (rowI 9 1 (.slice a (compact xs).length c) (compact xs).length (cellsL (compact xs)))) w' := by
  have hrow := st.row hi
  have hnx := strLen hrow
  rcases hrow.2 with ⟨h1, h2⟩ | ⟨g, cap, cur, h1, hb, hg, hcap, hm, hs, ht⟩
  · cases h1
    have : xs = [] := List.eq_nil_of_length_eq_zero hnx.symm
    subst this
    refine (Try.slices_Compact_string_empty none 0 w).mono ?_
    rintro e w' ⟨rfl, rfl⟩
    refine ⟨rfl, ?_⟩
    have : L.set i (rowI 9 1 (.slice none (compact ([] : List (List UInt8))).length 0) (compact ([] : List (List UInt8))).length (cellsL (compact ([] : List (List UInt8))))) = L := by
      apply List.ext_getElem?
      intro q
      rw [List.getElem?_set]
      split
      · rename_i h; subst h; rw [hi, if_pos (get_lt hi)]; rfl
      · rfl
    rw [this]; exact st
  · cases h1
    subst hnx
    rw [Nat.mul_one, str_map] at ht
    refine (Try.slices_Compact_string g 0 c xs w (holds_of_block hg (by simpa using ht)) (by omega) hcap).mono ?_
    rintro e w' ⟨rfl, m, rfl⟩
    have hle : (compact xs).length ≤ xs.length := compact_length_le xs
    refine ⟨rfl, ?_⟩
    generalize hts : compact xs ++ List.replicate (xs.length - (compact xs).length) [] = ts
    have htl : ts.length = xs.length := by rw [← hts]; simp; omega
    have hgw : putRow encStr (Sort.ahead w m) g 0 ts.toArray = grow (putRow encStr (Sort.ahead w m) g 0 ts.toArray) #[] := by simp [grow]; rfl
    rw [hgw]
    have st2 : Own fr al w0 (L.set i (rowI 9 1 (.slice (some ⟨g, 0, none⟩) xs.length c) xs.length (cellsL ts))) (grow (putRow encStr (Sort.ahead w m) g 0 ts.toArray) #[]) := by
      refine st.upd hi fun e s ⟨q1, q2⟩ q3 q4 => ⟨e, s, ⟨?_, q2⟩, fun b hb => ⟨Nat.lt_of_lt_of_le (q3 b (.inl hb)) (grownBy_sorted _).size, .inl hb⟩, fun b hb => ⟨Nat.lt_of_lt_of_le (q3 b (.inr hb)) (grownBy_sorted _).size, .inr (.inl hb)⟩, q4, MutO.grown (MutO.refl _ _) ⟨grownBy_sorted _, Nat.le_add_right _ _⟩ fun k hk _ => ?_⟩
      · rw [str_map]
        exact ownsRow_sorted htl (Nat.zero_le _) hg hcap hm hs
      · cases hk; exact q2 g rfl
    have st3 := st2.rowCut (i := i) (k := 1) (n := xs.length) (c := c) (g := g) (E := 9) (xs := cellsL ts) (by simp [List.getElem?_set, get_lt hi]) (compact xs).length hle
    rw [List.set_set] at st3
    have e1 : (cellsL ts).take ((compact xs).length * 1) = cellsL (compact xs) := by
      have := cellsL_take ts (compact xs).length
      rw [fltStr_k] at this
      rw [this, ← hts, List.take_left]
    rw [e1] at st3
    exact st3
end
theorem fl_bytes {W : World} {a : Option Addr} {n : Nat} {l : List (List UInt8)} (h : Fl W a n l) (h0 : 0 < n) : ∃ b off, a = some ⟨b, off, none⟩ ∧ ∀ j, j < (l.map fun s => (⟨s.toArray⟩ : ByteArray)).length → W.cell? ⟨b, off + j, none⟩ = some (.string ((l.map fun s => (⟨s.toArray⟩ : ByteArray)).getD j ByteArray.empty)) := by
  obtain ⟨b, off, rfl, hc⟩ := h.str h0
  refine ⟨b, off, rfl, fun j hj => ?_⟩
  simp only [List.length_map] at hj
  rw [hc j _ (List.getElem?_eq_getElem hj)]
  simp [List.getD, hj, S]
theorem ba_inj {s t : List UInt8} (h : (⟨s.toArray⟩ : ByteArray) = ⟨t.toArray⟩) : s = t := by
  injection h with h
  have := congrArg Array.toList h
  simpa using this
theorem containsStr_any (a : Option Addr) (n c : Nat) (l : List (List UInt8)) (s : List UInt8) (W : World) (h : Fl W a n l) (hn : n ≤ 9000000000000000000) :
    Calls Try.prog 108 #[.slice a n c, S s] W fun e w' => e = .returned (.bool (decide (s ∈ l))) ∧ Ext W w' := by
  have hnl := h.1
  rcases Nat.eq_zero_or_pos n with h0 | h0
  · subst h0
    have : l = [] := List.eq_nil_of_length_eq_zero hnl.symm
    subst this
    refine (Try.slices_Contains_string_empty a c ⟨s.toArray⟩ W).mono ?_
    rintro e w' ⟨rfl, rfl⟩
    exact ⟨by simp, Ext.refl _⟩
  · obtain ⟨b, off, rfl, hc⟩ := fl_bytes h h0
    refine (Try.slices_Contains_string b off n c _ ⟨s.toArray⟩ W (by simp; omega) (by omega) hc).mono ?_
    rintro e w' ⟨rfl, rfl⟩
    refine ⟨?_, Ext.refl _⟩
    congr 2
    rw [List.take_of_length_le (by simp; omega)]
    rw [Bool.eq_iff_iff, containsS_iff, decide_eq_true_eq, List.mem_map]
    constructor
    · rintro ⟨t, h1, h2⟩; rw [← ba_inj h2]; exact h1
    · intro q; exact ⟨s, q, rfl⟩
theorem equalStr_any (a : Option Addr) (n c : Nat) (l : List (List UInt8)) (a' : Option Addr) (n' c' : Nat) (l' : List (List UInt8)) (W : World) (h : Fl W a n l) (h' : Fl W a' n' l') (hn : n ≤ 9000000000000000000) (hn' : n' ≤ 9000000000000000000) :
    Calls Try.prog 107 #[.slice a n c, .slice a' n' c'] W fun e w' => e = .returned (.bool (decide (l = l'))) ∧ Ext W w' := by
  have hnl := h.1
  have hnl' := h'.1
  by_cases hnn : n = n'
  · subst hnn
    rcases Nat.eq_zero_or_pos n with h0 | h0
    · subst h0
      have e1 : l = [] := List.eq_nil_of_length_eq_zero hnl.symm
      have e2 : l' = [] := List.eq_nil_of_length_eq_zero hnl'.symm
      subst e1 e2
      refine (Try.slices_Equal_string_empty a a' c 0 c' W (by omega)).mono ?_
      rintro e w' ⟨rfl, rfl⟩
      exact ⟨by simp, Ext.refl _⟩
    · obtain ⟨b, off, rfl, hc⟩ := fl_bytes h h0
      obtain ⟨b', off', rfl, hc'⟩ := fl_bytes h' h0
      refine (Try.slices_Equal_string b off n c b' off' n c' _ _ W (by simp; omega) (by simp; omega) (by omega) (by omega) hc hc').mono ?_
      rintro e w' ⟨rfl, q, rfl⟩
      refine ⟨?_, ?_⟩
      · congr 2
        rw [List.take_of_length_le (by simp; omega), List.take_of_length_le (by simp; omega), Bool.eq_iff_iff, decide_eq_true_eq, decide_eq_true_eq]
        constructor
        · intro q
          have := congrArg (List.map fun b : ByteArray => b.data.toList) q
          simpa [List.map_map, Function.comp_def] using this
        · intro q; rw [q]
      · exact ⟨⟨rfl, rfl, rfl, Nat.le_refl _, fun _ _ => rfl⟩, Nat.le_add_right _ _⟩
  · refine (Try.slices_Equal_string_lens a a' n c n' c' W hnn).mono ?_
    rintro e w' ⟨rfl, rfl⟩
    refine ⟨?_, Ext.refl _⟩
    rw [decide_eq_false]
    intro q; subst q; omega
/-- The set of the names of a list. -/
theorem sorted_set (l : List (List UInt8)) (P : List UInt8 → Bool) : SSet strLt P l (compact ((l.filter P).mergeSort fun x y => decide (x ≤ y))) := by
  refine compact_set (strOrd P) _ l (fun x => ?_) ?_
  · rw [List.mem_mergeSort, List.mem_filter]
  · have h1 := List.pairwise_mergeSort (le := fun x y : List UInt8 => decide (x ≤ y)) (fun a b c h1 h2 => by simp at *; exact List.le_trans h1 h2) (fun a b => by simp; exact List.le_total a b) (l.filter P)
    refine h1.imp fun {a b} h => ?_
    rw [strLt_eq]
    simpa [List.not_lt] using h
end Go.Proofs.Ytpenjnccdachaaa
