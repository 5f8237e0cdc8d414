/- The library's functions at []string, over pieces of memory. -/
import Derived.Test.YtdkemfimhdjdiaaRow
import Derived.Test.YtdkemfimhdjdiaaRefNameS
import Derived.Test.YtdkemfimhdjdiaaShelf
import Derived.Sort.OwnSorted
import Derived.Test.YtdkemfimhdjdiaaSepR
import Derived.Deep.LoopGhost
import Derived.Lib.AppendZeros
import Derived.Test.YtdkemfimhdjdiaaSepT
import Derived.Test.YtdkemfimhdjdiaaSepW
import Derived.Laws.Rows
import Derived.Laws.ResultCell
namespace Go.Proofs.Ytdkemfimhdjdiaa
set_option linter.unusedSimpArgs false
set_option linter.unusedVariables false
open Go Go.RowKit Go.Sort Go.Lib
theorem str_map (l : List (List UInt8)) : cellsL l = l.map encStr := by
  apply List.ext_getElem?
  intro j
  rw [str_get, List.getElem?_map]; rfl
section
variable {fr al : Nat → Prop} {w0 w : World} {L : List It}
theorem strLen {n : Nat} {v : Value} {E : TypeId} {xs : List (List UInt8)} (h : w.ownsRow 0 E 1 v n (cellsL xs)) : n = xs.length := by
  have := h.1
  rw [cellsL_len] at this
  simpa [fltStr_k] using this.symm
end
theorem fl_bytes {W : World} {a : Option Addr} {n : Nat} {l : List (List UInt8)} (h : Fl W a n l) (h0 : 0 < n) : ∃ b off, a = some ⟨b, off, none⟩ ∧ ∀ j, j < (l.map fun s => (⟨s.toArray⟩ : ByteArray)).length → W.cell? ⟨b, off + j, none⟩ = some (.string ((l.map fun s => (⟨s.toArray⟩ : ByteArray)).getD j ByteArray.empty)) := by
  obtain ⟨b, off, rfl, hc⟩ := h.str h0
  refine ⟨b, off, rfl, fun j hj => ?_⟩
  simp only [List.length_map] at hj
  rw [hc j _ (List.getElem?_eq_getElem hj)]
  simp [List.getD, hj, S]
theorem ba_inj {s t : List UInt8} (h : (⟨s.toArray⟩ : ByteArray) = ⟨t.toArray⟩) : s = t := by
  injection h with h
  have := congrArg Array.toList h
  simpa using this
/-- The set of the names of a list. -/
theorem sorted_set (l : List (List UInt8)) (P : List UInt8 → Bool) : SSet strLt P l (compact ((l.filter P).mergeSort fun x y => decide (x ≤ y))) := by
  refine compact_set (strOrd P) _ l (fun x => ?_) ?_
  · rw [List.mem_mergeSort, List.mem_filter]
  · have h1 := List.pairwise_mergeSort (le := fun x y : List UInt8 => decide (x ≤ y)) (fun a b c h1 h2 => by simp at *; exact List.le_trans h1 h2) (fun a b => by simp; exact List.le_total a b) (l.filter P)
    refine h1.imp fun {a b} h => ?_
    rw [strLt_eq]
    simpa [List.not_lt] using h
end Go.Proofs.Ytdkemfimhdjdiaa

namespace Go.Proofs.Ytdkemfimhdjdiaa
set_option linter.unusedSimpArgs false
set_option linter.unusedVariables false
open Go Go.RowKit
def lettersB : List UInt8 := [97, 98, 99, 100, 101, 102, 103, 104, 105, 106, 107, 108, 109, 110, 111, 112, 113, 114, 115, 116, 117, 118, 119, 120, 121, 122]
def signsB : List UInt8 := lettersB ++ [48, 49, 50, 51, 52, 53, 54, 55, 56, 57, 45]
theorem ix_letters : ∀ n : Nat, n < 256 → (decide (0 ≤ Lib.indexByte lettersB n.toUInt8)) = ltr n.toUInt8 := by decide +kernel
theorem ix_signs : ∀ n : Nat, n < 256 → (decide (Lib.indexByte signsB n.toUInt8 < 0)) = !sgn n.toUInt8 := by decide +kernel
theorem ix_letter (c : UInt8) : (decide (0 ≤ Lib.indexByte lettersB c)) = ltr c := by
  have := ix_letters c.toNat c.toNat_lt
  simpa using this
theorem ix_sign (c : UInt8) : (decide (Lib.indexByte signsB c < 0)) = !sgn c := by
  have := ix_signs c.toNat c.toNat_lt
  simpa using this
theorem signIx (c : UInt8) (w : World) : Calls Try.prog 102 #[.string ⟨signsB.toArray⟩, .int .u8 (c.toNat : Int)] w fun e w' => ∃ v : Int, e = .returned (.int .i64 v) ∧ decide (v < 0) = !sgn c ∧ w = w' :=
  (Try.strings_IndexByte ⟨signsB.toArray⟩ _ w).mono fun e w' ⟨h1, h2⟩ => ⟨_, h1, by simpa using ix_sign c, h2.symm⟩
theorem letterIx (c : UInt8) (w : World) : Calls Try.prog 102 #[.string ⟨lettersB.toArray⟩, .int .u8 (c.toNat : Int)] w fun e w' => ∃ v : Int, e = .returned (.int .i64 v) ∧ decide (0 ≤ v) = ltr c ∧ w = w' :=
  (Try.strings_IndexByte ⟨lettersB.toArray⟩ _ w).mono fun e w' ⟨h1, h2⟩ => ⟨_, h1, by simpa using ix_letter c, h2.symm⟩
set_option maxRecDepth 100000 in
set_option maxHeartbeats 1000000 in
theorem only_any (s : List UInt8) (W : World) (hs : s.length ≤ 100000) : Calls Try.prog 103 #[S s] W fun e w' => e = .returned (.bool (s.all sgn)) ∧ Ext W w' := by
  have st := Own.startOld W
  unfold S
  (try simp only [Value.cells, List.cons_append, List.nil_append, List.set, spl, putIt, pick, List.map_cons, List.map_nil, List.getElem?_cons_zero, List.getElem?_cons_succ, Option.getD_some, List.drop_succ_cons, List.drop_zero, List.drop_nil, List.append_nil, unB] at st)
  (try clear hc); have hc := st.facts; (try simp only [factsOf, blkI, blkFacts, rowI, byI, datI, nullI, oldI, penI, rdI, rdAnyI, rdOverI, Nat.zero_add, Nat.reduceAdd, and_true, true_and, and_self] at hc)
  go_enter Try.func103, Try.ntmps103
  go_wp2_with ((((with_reducible refine wl_convert ?_ (fun K hK => ?_)); rfl; refine owp_sb (o := ⟨some 6, _, _, _, _, _⟩) rfl st rfl Try.underlying9 Try.underlying30 Try.underlying5 ?_ ?_; (simp only [maxLen]; omega); (clear st; intro A6 c6 w hc6 st))); (try simp only [Value.cells, List.cons_append, List.nil_append, List.set, spl, putIt, pick, List.map_cons, List.map_nil, List.getElem?_cons_zero, List.getElem?_cons_succ, Option.getD_some, List.drop_succ_cons, List.drop_zero, List.drop_nil, List.append_nil, unB] at st); (try clear hc); have hc := st.facts; (try simp only [factsOf, blkI, blkFacts, rowI, byI, datI, nullI, oldI, penI, rdI, rdAnyI, rdOverI, Nat.zero_add, Nat.reduceAdd, and_true, true_and, and_self] at hc))
  go_loopw [8] (fun i wr => ∃ j : Nat, j ≤ s.length ∧ i = .int .i64 (j : Int) ∧ Hid ((s.take j).all sgn = true) ∧ Own (fun _ => False) (fun _ => True) W [oldI W, byI A6 s.length s] wr) (fun i _ => s.length - (intOf i).toNat)
  case atStart => exact ⟨0, by omega, rfl, Lib.hid (by simp), st⟩
  case round =>
    obtain ⟨j, hj, rfl, HT, st'⟩ := hrel
    clear st hc
    have st := st'
    clear st'
    by_cases hjn : j < s.length
    · obtain ⟨b, off, ha, hq, hjl, hcell⟩ := (st.by (i := 1) get1).at hjn
      clear hq
      subst ha
      have hts : s.take (j + 1) = s.take j ++ [s[j]] := (List.take_append_getElem hjl).symm
      have hall : s.all sgn = (s.take j ++ s[j] :: s.drop (j + 1)).all sgn := by rw [← List.drop_eq_getElem_cons hjl, List.take_append_drop]
      generalize s[j] = x at *
      have HX := Lib.hid (And.intro hts hall)
      have hix := ix_sign x
      clear hts hall
      go_wp2_with fail
      refine (signIx x _).mono ?_
      rintro en w' ⟨v, rfl, hv, rfl⟩
      clear hix
      by_cases hsx : sgn x = true
      · have hv0 : decide (v < 0) = false := by rw [hv, hsx]; rfl
        have hv1 : ¬ v < 0 := by simpa using hv0
        clear hv
        go_wp2_with fail
        exact ⟨⟨j + 1, by omega, by go_num, Lib.hid (by rw [HX.out.1, List.all_append, HT.out]; simp [hsx]), st⟩, by simp [intOf]; omega⟩
      · have hsx' : sgn x = false := by simpa using hsx
        have hv0 : decide (v < 0) = true := by rw [hv, hsx']; rfl
        have hv1 : v < 0 := by simpa using hv0
        clear hv
        have HF : Hid (s.all sgn = false) := Lib.hid (by rw [HX.out.2, List.all_append, List.all_cons, hsx']; simp)
        go_wp2_with fail
        go_ret
        exact ⟨by rw [HF.out]; rfl, st.ext0⟩
    · obtain rfl : j = s.length := by omega
      have e : s.all sgn = true := by have := HT.out; rwa [List.take_length] at this
      have HE := Lib.hid e
      clear e
      go_wp2_with fail
      go_ret
      exact ⟨by rw [HE.out]; rfl, st.ext0⟩
set_option maxRecDepth 100000 in
set_option maxHeartbeats 1000000 in
theorem right_any (s : List UInt8) (W : World) (hs : s.length ≤ 100000) : Calls Try.prog 70 #[S s] W fun e w' => e = .returned (.bool (nameR s)) ∧ Ext W w' := by
  unfold S
  cases s with
  | nil =>
    go_enter Try.func70, Try.ntmps70
    go_wp2_with fail
    go_ret
    exact ⟨rfl, Ext.refl _⟩
  | cons c s =>
    have hsz : (⟨(c :: s).toArray⟩ : ByteArray).size = s.length + 1 := by simp [ByteArray.size]
    have hg0 : (⟨(c :: s).toArray⟩ : ByteArray)[0]? = some c := rfl
    simp only [List.length_cons] at hs
    by_cases h16 : s.length + 1 ≤ 16
    · skip
      go_enter Try.func70, Try.ntmps70
      go_wp2_with fail
      refine (letterIx c W).mono ?_
      rintro en w' ⟨v, rfl, hv, rfl⟩
      by_cases hl : ltr c = true
      · have hv0 : decide (0 ≤ v) = true := by rw [hv, hl]
        have hv1 : 0 ≤ v := by simpa using hv0
        clear hv
        go_wp2_with fail
        refine (only_any (c :: s) W (by simp; omega)).mono ?_
        rintro en w ⟨rfl, hx⟩
        have HX := Lib.hid hx
        clear hx
        have HN : Hid (nameR (c :: s) = (c :: s).all sgn) := Lib.hid (by unfold nameR; simp [h16, hl])
        generalize (c :: s).all sgn = q at *
        go_wp2_with fail
        go_ret
        exact ⟨by rw [HN.out]; rfl, HX.out⟩
      · have hl' : ltr c = false := by simpa using hl
        have hv0 : decide (0 ≤ v) = false := by rw [hv, hl']
        have hv1 : ¬ 0 ≤ v := by simpa using hv0
        have HN : Hid (nameR (c :: s) = false) := Lib.hid (by unfold nameR; simp [hl'])
        clear hv
        go_wp2_with fail
        go_ret
        exact ⟨by rw [HN.out]; rfl, Ext.refl _⟩
    · skip
      go_enter Try.func70, Try.ntmps70
      have HN : Hid (nameR (c :: s) = false) := Lib.hid (by unfold nameR; simp [h16])
      go_wp2_with fail
      go_ret
      exact ⟨by rw [HN.out]; rfl, Ext.refl _⟩
end Go.Proofs.Ytdkemfimhdjdiaa

namespace Go.Proofs.Ytdkemfimhdjdiaa
set_option linter.unusedSimpArgs false
set_option linter.unusedVariables false
open Go Go.RowKit
/-- The set of the right names of a list. -/
@[irreducible] def nameSet (l : List (List UInt8)) : List (List UInt8) := Lib.compact ((l.filter nameR).mergeSort fun x y => decide (x ≤ y))
theorem nameSet_eq (l : List (List UInt8)) : nameSet l = Lib.compact ((l.filter nameR).mergeSort fun x y => decide (x ≤ y)) := by unfold nameSet; rfl
theorem nameSet_set (l : List (List UInt8)) : SSet strLt nameR l (nameSet l) := by rw [nameSet_eq]; exact sorted_set l nameR
theorem nameSet_len (l : List (List UInt8)) : (nameSet l).length ≤ l.length := (nameSet_set l).len (strOrd nameR).irr
/-- A new slice of strings. -/
def NewStr (W w' : World) (a : Option Addr) (c : Nat) (xs : List (List UInt8)) : Prop := FreshI W w' (rowI 9 1 (.slice a xs.length c) xs.length (cellsL xs))
theorem NewStr.fl {W w' : World} {a : Option Addr} {c : Nat} {xs : List (List UInt8)} (h : NewStr W w' a c xs) : (xs.length ≤ c ∧ c ≤ maxLen) ∧ Fl w' a xs.length xs := FreshI.fl h
end Go.Proofs.Ytdkemfimhdjdiaa

namespace Go.Proofs.Ytdkemfimhdjdiaa
set_option linter.unusedSimpArgs false
set_option linter.unusedVariables false
open Go Go.RowKit
/-- A slice of slices. -/
def slsR {α : Type} [Flt α] : World → Nat → Nat → List α → Prop := fun w b o x => ∃ a n c, w.cell? ⟨b, o, none⟩ = some (.slice a n c) ∧ Fl w a n x
theorem wl_appendz {P : Program} {Q : Exit → Act → World → Prop} {a : Act} {w : World} {ops : Array Oper} {rest : List Oper} {d : Option Tmp} {s x : Operand} {t u : TypeId} {ty : TypeId} {pos : String} {af : Array Edge} {gd : Option (Nat × Bool)} (hg : Region.wanted ⟨d, .call { callee := .builtin .append, args := #[s, x], argTypes := #[t, u] }, ty, pos, af, gd⟩ (yielded ops a.tmps) = true)
    (h : ∀ K : Act → World → Prop, (∀ a w, wpList P ops Q rest a w → K a w) → Oper.wp P ⟨d, .call { callee := .builtin .append, args := #[s, x], argTypes := #[t, u] }, ty, pos, af, gd⟩ a w K Q) : wpList P ops Q (⟨d, .call { callee := .builtin .append, args := #[s, x], argTypes := #[t, u] }, ty, pos, af, gd⟩ :: rest) a w := wpl_at hg h
theorem owp_appendz {P : Program} {o : Oper} {a : Act} {w w' : World} {K : Act → World → Prop} {Q : Exit → Act → World → Prop} {s x : Operand} {t u : TypeId} {v1 v2 v : Value} (ho : o.op = .call { callee := .builtin .append, args := #[s, x], argTypes := #[t, u] }) (h1 : a.eval s = v1) (h2 : a.eval x = v2)
    (hr : (Builtin.append_ #[t, u] o.type #[v1, v2]).run P w = .ok v w') (h : K (a.put o.dst v) w') : o.wp P a w K Q :=
  owp_run (v := v) (w' := w') (by simp [execOp, ho, resolve, invoke, builtin, h1, h2, hr, Result.andThen]) h
def lenSum {α : Type} (ls : List (List α)) : Nat := (ls.map List.length).sum
theorem lenSum_snoc {α : Type} (ls : List (List α)) (l : List α) : lenSum (ls ++ [l]) = lenSum ls + l.length := by simp [lenSum]
theorem lenSum_le {α : Type} : ∀ (ls : List (List α)) (j : Nat), lenSum (ls.take j) ≤ lenSum ls
  | [], j => by simp [lenSum]
  | l :: ls, 0 => by simp [lenSum]
  | l :: ls, j + 1 => by have := lenSum_le ls j; simp [lenSum] at *; omega
instance slsR_stb {α : Type} [Flt α] : Stb (slsR (α := α)) := ⟨fun _ _ _ _ _ hx ⟨a, n, c, h1, h2⟩ => ⟨a, n, c, hx.cell h1, h2.ext hx⟩⟩
end Go.Proofs.Ytdkemfimhdjdiaa

namespace Go.Proofs.Ytdkemfimhdjdiaa
set_option linter.unusedSimpArgs false
set_option linter.unusedVariables false
open Go Go.RowKit
theorem wl_clear {P : Program} {Q : Exit → Act → World → Prop} {a : Act} {w : World} {ops : Array Oper} {rest : List Oper} {d : Option Tmp} {x : Operand} {t : TypeId} {ty : TypeId} {pos : String} {af : Array Edge} {gd : Option (Nat × Bool)} (hg : Region.wanted ⟨d, .call { callee := .builtin .clear, args := #[x], argTypes := #[t] }, ty, pos, af, gd⟩ (yielded ops a.tmps) = true)
    (h : ∀ K : Act → World → Prop, (∀ a w, wpList P ops Q rest a w → K a w) → Oper.wp P ⟨d, .call { callee := .builtin .clear, args := #[x], argTypes := #[t] }, ty, pos, af, gd⟩ a w K Q) : wpList P ops Q (⟨d, .call { callee := .builtin .clear, args := #[x], argTypes := #[t] }, ty, pos, af, gd⟩ :: rest) a w := wpl_at hg h
/-- Where the first one is that p lets. -/
def IxIs {α : Type} (p : α → Bool) (xs : List α) (v : Int) : Prop := (v = -1 ∧ ∀ x ∈ xs, p x = false) ∨ ∃ (j : Nat) (y : α), v = (j : Int) ∧ j < xs.length ∧ xs[j]? = some y ∧ p y = true ∧ ∀ x ∈ xs.take j, p x = false
end Go.Proofs.Ytdkemfimhdjdiaa

namespace Go.Proofs.Ytdkemfimhdjdiaa
set_option linter.unusedSimpArgs false
set_option linter.unusedVariables false
open Go Go.RowKit
/-- What both have. -/
def nameBoth (l l' : List (List UInt8)) : List (List UInt8) := (nameSet l).filter fun x => decide (x ∈ l')
end Go.Proofs.Ytdkemfimhdjdiaa

namespace Go.Proofs.Ytdkemfimhdjdiaa
set_option linter.unusedSimpArgs false
set_option linter.unusedVariables false
open Go Go.RowKit
theorem nameR_len {s : List UInt8} (h : nameR s = true) : 1 ≤ s.length ∧ s.length ≤ 16 := by
  cases s with
  | nil => simp [nameR] at h
  | cons c s => simp [nameR] at h; simp; omega
set_option maxRecDepth 100000 in
set_option maxHeartbeats 1000000 in
theorem namePut_yes {fr al : Nat → Prop} {w : World} {p : Nat} {xs : List UInt8} (st : Own fr al w [penI p xs] w) (s : List UInt8) (hr : nameR s = true) (hl : xs.length ≤ 10000000) :
    Calls Try.prog 71 #[.pointer (some ⟨p, 0, none⟩), S s] w fun e w' => e = .returned (.bool true) ∧ Own fr al w [penI p (xs ++ (numB s.length ++ s))] w' := by
  have hsl := nameR_len hr
  have HR := Lib.hid hr
  clear hr
  unfold S
  go_enter Try.func71, Try.ntmps71
  go_wp2_with fail
  refine (right_any s _ (by omega)).mono ?_
  rintro en w ⟨rfl, hx⟩
  replace st := st.ext hx
  clear hx
  (try clear hc); have hc := st.facts; (try simp only [factsOf, blkI, blkFacts, rowI, byI, datI, nullI, oldI, penI, rdI, rdAnyI, rdOverI, Nat.zero_add, Nat.reduceAdd, and_true, true_and, and_self] at hc)
  rw [HR.out]
  go_wp2_with ((((with_reducible refine wl_convert ?_ (fun K hK => ?_)); rfl; refine owp_sb (o := ⟨some 14, _, _, _, _, _⟩) rfl st rfl Try.underlying9 Try.underlying30 Try.underlying5 ?_ ?_; (simp only [maxLen]; omega); (clear st; intro A14 c14 w hc14 st))); (try simp only [Value.cells, List.cons_append, List.nil_append, List.set, spl, putIt, pick, List.map_cons, List.map_nil, List.getElem?_cons_zero, List.getElem?_cons_succ, Option.getD_some, List.drop_succ_cons, List.drop_zero, List.drop_nil, List.append_nil, unB] at st); (try clear hc); have hc := st.facts; (try simp only [factsOf, blkI, blkFacts, rowI, byI, datI, nullI, oldI, penI, rdI, rdAnyI, rdOverI, Nat.zero_add, Nat.reduceAdd, and_true, true_and, and_self] at hc))
  obtain ⟨fr', al', st', back⟩ := st.sub [0, 1] (by decide) (by simp)
  (try simp only [Value.cells, List.cons_append, List.nil_append, List.set, spl, putIt, pick, List.map_cons, List.map_nil, List.getElem?_cons_zero, List.getElem?_cons_succ, Option.getD_some, List.drop_succ_cons, List.drop_zero, List.drop_nil, List.append_nil, unB] at st')
  refine (penText_c st' (by omega) (by omega)).mono ?_
  clear st'
  rintro en w ⟨rfl, st'⟩
  replace st := back _ _ (by simp) st'
  clear back st'
  (try simp only [Value.cells, List.cons_append, List.nil_append, List.set, spl, putIt, pick, List.map_cons, List.map_nil, List.getElem?_cons_zero, List.getElem?_cons_succ, Option.getD_some, List.drop_succ_cons, List.drop_zero, List.drop_nil, List.append_nil, unB] at st)
  (try clear hc); have hc := st.facts; (try simp only [factsOf, blkI, blkFacts, rowI, byI, datI, nullI, oldI, penI, rdI, rdAnyI, rdOverI, Nat.zero_add, Nat.reduceAdd, and_true, true_and, and_self] at hc)
  go_wp2_with fail
  go_ret
  have st' := st.keep [0] (by decide) (by simp)
  exact ⟨rfl, by simpa [pick] using st'⟩
set_option maxRecDepth 100000 in
set_option maxHeartbeats 1000000 in
theorem namePut_no (p : Option Addr) (s : List UInt8) (w : World) (h : p = none ∨ nameR s = false) (hs : s.length ≤ 100000) :
    Calls Try.prog 71 #[.pointer p, S s] w fun e w' => e = .returned (.bool false) ∧ Ext w w' := by
  unfold S
  cases p with
  | none =>
    go_enter Try.func71, Try.ntmps71
    go_wp2_with fail
    go_ret
    exact ⟨rfl, Ext.refl _⟩
  | some ad =>
    have hr : nameR s = false := by rcases h with h | h; cases h; exact h
    have HR := Lib.hid hr
    clear hr h
    go_enter Try.func71, Try.ntmps71
    go_wp2_with fail
    refine (right_any s _ hs).mono ?_
    rintro en w' ⟨rfl, hx⟩
    rw [HR.out]
    have HX := Lib.hid hx
    clear hx
    go_wp2_with fail
    go_ret
    exact ⟨rfl, HX.out⟩
/-- The next name. -/
def rdName (xs : List UInt8) : Except Int (List UInt8 × List UInt8) := match rdText 16 xs with
  | .error e => .error e
  | .ok (s, ys) => if nameR s = true then .ok (s, ys) else .error 30
theorem Own.rdAny {fr al : Nat → Prop} {w0 w : World} {L : List It} (st : Own fr al w0 L w) {i r : Nat} {xs : List UInt8} (hi : L[i]? = some (rdI r xs)) : Own fr al w0 (L.set i (rdAnyI r)) w :=
  st.conv hi fun e s h h3 => ⟨e, s, ⟨h.1, h.2.any⟩, fun _ q => q, fun _ q => .inr q, h3⟩
theorem rdNum_lt {xs : List UInt8} {n : Nat} {ys : List UInt8} (h : rdNum xs = .ok (n, ys)) : ys.length < xs.length := (rdNum_spec h).2
theorem rdText_le {most : Int} {xs bs ys : List UInt8} (h : rdText most xs = .ok (bs, ys)) : bs.length ≤ xs.length ∧ ys.length ≤ xs.length ∧ (bs.length : Int) ≤ most := by
  unfold rdText at h
  cases hr : rdNum xs with
  | error e' => rw [hr] at h; simp at h
  | ok p =>
    obtain ⟨n, zs⟩ := p
    rw [hr] at h
    simp only at h
    have := rdNum_lt hr
    split at h
    · simp at h
    · split at h
      · simp at h
      · simp at h
        obtain ⟨rfl, rfl⟩ := h
        simp
        omega
set_option maxRecDepth 100000 in
set_option maxHeartbeats 1000000 in
theorem nameGet_c {fr al : Nat → Prop} {w : World} {r : Nat} {xs : List UInt8} (st : Own fr al w [rdI r xs] w) (hl : xs.length ≤ 100000) :
    Calls Try.prog 75 #[.pointer (some ⟨r, 0, none⟩)] w (RdC fr al w r (rdName xs) fun s v M => v = S s ∧ M = []) := by
  go_enter Try.func75, Try.ntmps75
  go_wp2_with fail
  have HN : Hid (rdName xs = match rdText 16 xs with | .error e => .error e | .ok (s, ys) => if nameR s = true then .ok (s, ys) else .error 30) := Lib.hid rfl
  obtain ⟨fr', al', st', back⟩ := st.sub [0] (by decide) (by simp)
  (try simp only [Value.cells, List.cons_append, List.nil_append, List.set, spl, putIt, pick, List.map_cons, List.map_nil, List.getElem?_cons_zero, List.getElem?_cons_succ, Option.getD_some, List.drop_succ_cons, List.drop_zero, List.drop_nil, List.append_nil, unB] at st')
  refine (text_c st' 16 (by omega)).mono ?_
  clear st'
  intro en w hen
  unfold RdC at hen
  cases hr : rdText 16 xs with
  | error e =>
    rw [hr] at hen
    obtain ⟨rfl, st'⟩ := hen
    replace st := back _ _ (by simp) st'
    clear back st'
    (try simp only [Value.cells, List.cons_append, List.nil_append, List.set, spl, putIt, pick, List.map_cons, List.map_nil, List.getElem?_cons_zero, List.getElem?_cons_succ, Option.getD_some, List.drop_succ_cons, List.drop_zero, List.drop_nil, List.append_nil, unB] at st)
    (try clear hc); have hc := st.facts; (try simp only [factsOf, blkI, blkFacts, rowI, byI, datI, nullI, oldI, penI, rdI, rdAnyI, rdOverI, Nat.zero_add, Nat.reduceAdd, and_true, true_and, and_self] at hc)
    have e1 : rdName xs = .error e := by rw [HN.out, hr]
    have H1 := Lib.hid e1
    clear e1 hr
    go_wp2_with fail
    refine ⟨rfl, ?_⟩
    unfold RdC
    rw [H1.out]
    exact ⟨rfl, st⟩
  | ok p =>
    obtain ⟨s, ys⟩ := p
    rw [hr] at hen
    obtain ⟨v, M, rfl, ⟨a', c', rfl, hc1, rfl⟩, st'⟩ := hen
    replace st := back _ _ (by simp) st'
    clear back st'
    (try simp only [Value.cells, List.cons_append, List.nil_append, List.set, spl, putIt, pick, List.map_cons, List.map_nil, List.getElem?_cons_zero, List.getElem?_cons_succ, Option.getD_some, List.drop_succ_cons, List.drop_zero, List.drop_nil, List.append_nil, unB] at st)
    (try clear hc); have hc := st.facts; (try simp only [factsOf, blkI, blkFacts, rowI, byI, datI, nullI, oldI, penI, rdI, rdAnyI, rdOverI, Nat.zero_add, Nat.reduceAdd, and_true, true_and, and_self] at hc)
    have hle := rdText_le hr
    have HR := Lib.hid hr
    clear hr
    go_wp2_with ((((with_reducible refine wl_convert ?_ (fun K hK => ?_)); rfl; (first | (refine owp_bs (o := ⟨some 8, _, _, _, _, _⟩) rfl st 1 get1 rfl Try.underlying30 Try.underlying5 Try.underlying9 ?_)))); (try simp only [Value.cells, List.cons_append, List.nil_append, List.set, spl, putIt, pick, List.map_cons, List.map_nil, List.getElem?_cons_zero, List.getElem?_cons_succ, Option.getD_some, List.drop_succ_cons, List.drop_zero, List.drop_nil, List.append_nil, unB] at st); (try clear hc); have hc := st.facts; (try simp only [factsOf, blkI, blkFacts, rowI, byI, datI, nullI, oldI, penI, rdI, rdAnyI, rdOverI, Nat.zero_add, Nat.reduceAdd, and_true, true_and, and_self] at hc))
    refine (right_any s _ (by omega)).mono ?_
    rintro en w ⟨rfl, hx⟩
    replace st := st.ext hx
    clear hx
    (try clear hc); have hc := st.facts; (try simp only [factsOf, blkI, blkFacts, rowI, byI, datI, nullI, oldI, penI, rdI, rdAnyI, rdOverI, Nat.zero_add, Nat.reduceAdd, and_true, true_and, and_self] at hc)
    by_cases hn : nameR s = true
    · have e1 : rdName xs = .ok (s, ys) := by rw [HN.out, HR.out]; simp [hn]
      have H1 := Lib.hid (And.intro hn e1)
      clear e1 hn
      rw [H1.out.1]
      go_wp2_with fail
      go_ret
      unfold RdC
      rw [H1.out.2]
      have st' := st.keep [0] (by decide) (by simp)
      exact ⟨_, [], rfl, ⟨rfl, rfl⟩, by simpa [pick] using st'⟩
    · have hn' : nameR s = false := by simpa using hn
      have e1 : rdName xs = .error 30 := by rw [HN.out, HR.out]; simp [hn']
      have H1 := Lib.hid (And.intro hn' e1)
      clear e1 hn hn'
      rw [H1.out.1]
      obtain ⟨_, sq, ⟨_, hrd⟩, _⟩ := st.get (i := 0) (I := rdI r ys) get0
      go_wp2_with fail
      refine (fail_any _ r 30 hrd.any (by decide)).mono ?_
      rintro en w' ⟨rfl, rfl⟩
      go_wp2_with fail
      refine ⟨rfl, ?_⟩
      unfold RdC
      rw [H1.out.2]
      have st' := (st.rdAny (i := 0) get0).keep [0] (by decide) (by simp)
      exact ⟨rfl, by simpa [pick] using st'⟩
end Go.Proofs.Ytdkemfimhdjdiaa

namespace Go.Proofs.Ytdkemfimhdjdiaa
set_option linter.unusedSimpArgs false
set_option linter.unusedVariables false
open Go Go.RowKit
theorem rdText_len {most : Int} {xs : List UInt8} {bs ys : List UInt8} (h : rdText most xs = .ok (bs, ys)) : bs.length ≤ xs.length ∧ ys.length ≤ xs.length := ⟨(rdText_le h).1, (rdText_le h).2.1⟩
set_option maxRecDepth 100000 in
set_option maxHeartbeats 1000000 in
theorem refGetName_m {fr al : Nat → Prop} {w : World} {t : Nat} {res : Except Int (List UInt8)} (st : Own fr al w [refI t res] w) (hl : ∀ xs, res = .ok xs → xs.length ≤ 1000000) :
    Calls Try.prog 79 #[.pointer (some ⟨t, 0, none⟩)] w (RefC fr al w t (bnd res rdName) (S []) fun s => S s) := by
  go_enter Try.func79, Try.ntmps79
  go_wp2_with fail
  obtain ⟨fr', al', st', back⟩ := st.sub [0] (by decide) (by simp)
  (try simp only [Value.cells, List.cons_append, List.nil_append, List.set, spl, putIt, pick, List.map_cons, List.map_nil, List.getElem?_cons_zero, List.getElem?_cons_succ, Option.getD_some, List.drop_succ_cons, List.drop_zero, List.drop_nil, List.append_nil, unB] at st')
  refine (refText_m st' 16 (fun xs hx => by have := hl xs hx; omega)).mono ?_
  clear st'
  intro en w hen
  unfold RefC at hen
  cases hr : bnd res (rdText 16) with
  | error e =>
    rw [hr] at hen
    obtain ⟨rfl, st'⟩ := hen
    replace st := back _ _ (by simp) st'
    clear back st'
    (try simp only [Value.cells, List.cons_append, List.nil_append, List.set, spl, putIt, pick, List.map_cons, List.map_nil, List.getElem?_cons_zero, List.getElem?_cons_succ, Option.getD_some, List.drop_succ_cons, List.drop_zero, List.drop_nil, List.append_nil, unB] at st)
    (try clear hc); have hc := st.facts; (try simp only [factsOf, blkI, blkFacts, rowI, byI, datI, nullI, oldI, penI, rdI, rdAnyI, rdOverI, Nat.zero_add, Nat.reduceAdd, and_true, true_and, and_self] at hc)
    obtain ⟨xs, he, st1⟩ := st.refErr (i := 0) get0
    have hb := st1.blk (i := 0) (b := t) (vs := [S xs, .int .i64 e]) rfl
    have r1 := hb.cell 1
    simp only [List.getElem?_cons_succ, List.getElem?_cons_zero] at r1
    have hne : (e != 0) = true := by simpa using he
    have hne2 : (e == 0) = false := by simpa using he
    have HE : Hid (bnd res rdName = .error e) := Lib.hid (by
      cases res with
      | error e' => simpa [bnd] using hr
      | ok xs => simp only [bnd] at hr ⊢; unfold rdName; rw [hr])
    clear hr hb st1
    unfold S
    go_wp2_with fail
    go_ret
    unfold RefC
    rw [HE.out]
    exact ⟨rfl, st⟩
  | ok p =>
    obtain ⟨s, ys⟩ := p
    rw [hr] at hen
    obtain ⟨rfl, st'⟩ := hen
    replace st := back _ _ (by simp) st'
    clear back st'
    (try simp only [Value.cells, List.cons_append, List.nil_append, List.set, spl, putIt, pick, List.map_cons, List.map_nil, List.getElem?_cons_zero, List.getElem?_cons_succ, Option.getD_some, List.drop_succ_cons, List.drop_zero, List.drop_nil, List.append_nil, unB] at st)
    (try clear hc); have hc := st.facts; (try simp only [factsOf, blkI, blkFacts, rowI, byI, datI, nullI, oldI, penI, rdI, rdAnyI, rdOverI, Nat.zero_add, Nat.reduceAdd, and_true, true_and, and_self] at hc)
    obtain ⟨xs, hres⟩ : ∃ xs, res = .ok xs := by
      cases res with
      | error e => simp [bnd] at hr
      | ok xs => exact ⟨xs, rfl⟩
    subst hres
    simp only [bnd] at hr ⊢
    have hle := rdText_len hr
    have hxl := hl xs rfl
    have HR := Lib.hid hr
    replace st := st.refOk (i := 0) get0
    clear hr
    (try simp only [Value.cells, List.cons_append, List.nil_append, List.set, spl, putIt, pick, List.map_cons, List.map_nil, List.getElem?_cons_zero, List.getElem?_cons_succ, Option.getD_some, List.drop_succ_cons, List.drop_zero, List.drop_nil, List.append_nil, unB] at st)
    (try clear hc); have hc := st.facts; (try simp only [factsOf, blkI, blkFacts, rowI, byI, datI, nullI, oldI, penI, rdI, rdAnyI, rdOverI, Nat.zero_add, Nat.reduceAdd, and_true, true_and, and_self] at hc)
    unfold S
    go_wp2_with fail
    refine (refRight_any s _ (by omega)).mono ?_
    rintro en w ⟨rfl, hx⟩
    replace st := st.ext hx
    clear hx
    (try clear hc); have hc := st.facts; (try simp only [factsOf, blkI, blkFacts, rowI, byI, datI, nullI, oldI, penI, rdI, rdAnyI, rdOverI, Nat.zero_add, Nat.reduceAdd, and_true, true_and, and_self] at hc)
    by_cases hn : nameR s = true
    · have HE : Hid (rdName xs = .ok (s, ys)) := Lib.hid (by unfold rdName; rw [HR.out]; simp [hn])
      rw [hn]
      clear hn
      go_wp2_with ((((with_reducible refine wl_store ?_ (fun K hK => ?_)); rfl; refine owp_store rfl st ?_; apply Exists.intro; apply Exists.intro; refine ⟨?_, ?_, ?_⟩; (focus (go_simp; try rfl)); (focus (go_simp; try rfl)); (first | (with_reducible refine ⟨0, _, _, _, _, get0, rfl, rfl, ?_, ?_, ?_, ?_⟩) | (with_reducible refine ⟨1, _, _, _, _, get1, rfl, rfl, ?_, ?_, ?_, ?_⟩) | (with_reducible refine ⟨2, _, _, _, _, get2, rfl, rfl, ?_, ?_, ?_, ?_⟩) | (with_reducible refine ⟨3, _, _, _, _, get3, rfl, rfl, ?_, ?_, ?_, ?_⟩) | (with_reducible refine ⟨4, _, _, _, _, get4, rfl, rfl, ?_, ?_, ?_, ?_⟩) | (with_reducible refine ⟨5, _, _, _, _, get5, rfl, rfl, ?_, ?_, ?_, ?_⟩) | (with_reducible refine ⟨6, _, _, _, _, get6, rfl, rfl, ?_, ?_, ?_, ?_⟩) | (with_reducible refine ⟨7, _, _, _, _, get7, rfl, rfl, ?_, ?_, ?_, ?_⟩)); (kernel_rfl); (simp [Value.cells]); (rfl); (clear st; intro w st))); (try simp only [Value.cells, List.cons_append, List.nil_append, List.set, spl, putIt, pick, List.map_cons, List.map_nil, List.getElem?_cons_zero, List.getElem?_cons_succ, Option.getD_some, List.drop_succ_cons, List.drop_zero, List.drop_nil, List.append_nil, unB] at st); (try clear hc); have hc := st.facts; (try simp only [factsOf, blkI, blkFacts, rowI, byI, datI, nullI, oldI, penI, rdI, rdAnyI, rdOverI, Nat.zero_add, Nat.reduceAdd, and_true, true_and, and_self] at hc))
      have st2 := (st.refMk (i := 0) (t := t) (xs := ys) rfl).keep [0] (by decide) (by simp)
      go_ret
      unfold RefC
      rw [show bnd (Except.ok xs) rdName = rdName xs from rfl, HE.out]
      exact ⟨rfl, by simpa [pick] using st2⟩
    · have hn' : nameR s = false := by simpa using hn
      have HE : Hid (rdName xs = .error 30) := Lib.hid (by unfold rdName; rw [HR.out]; simp [hn'])
      rw [hn']
      clear hn hn'
      go_wp2_with ((((with_reducible refine wl_store ?_ (fun K hK => ?_)); rfl; refine owp_store rfl st ?_; apply Exists.intro; apply Exists.intro; refine ⟨?_, ?_, ?_⟩; (focus (go_simp; try rfl)); (focus (go_simp; try rfl)); (first | (with_reducible refine ⟨0, _, _, _, _, get0, rfl, rfl, ?_, ?_, ?_, ?_⟩) | (with_reducible refine ⟨1, _, _, _, _, get1, rfl, rfl, ?_, ?_, ?_, ?_⟩) | (with_reducible refine ⟨2, _, _, _, _, get2, rfl, rfl, ?_, ?_, ?_, ?_⟩) | (with_reducible refine ⟨3, _, _, _, _, get3, rfl, rfl, ?_, ?_, ?_, ?_⟩) | (with_reducible refine ⟨4, _, _, _, _, get4, rfl, rfl, ?_, ?_, ?_, ?_⟩) | (with_reducible refine ⟨5, _, _, _, _, get5, rfl, rfl, ?_, ?_, ?_, ?_⟩) | (with_reducible refine ⟨6, _, _, _, _, get6, rfl, rfl, ?_, ?_, ?_, ?_⟩) | (with_reducible refine ⟨7, _, _, _, _, get7, rfl, rfl, ?_, ?_, ?_, ?_⟩)); (kernel_rfl); (simp [Value.cells]); (rfl); (clear st; intro w st))); (try simp only [Value.cells, List.cons_append, List.nil_append, List.set, spl, putIt, pick, List.map_cons, List.map_nil, List.getElem?_cons_zero, List.getElem?_cons_succ, Option.getD_some, List.drop_succ_cons, List.drop_zero, List.drop_nil, List.append_nil, unB] at st); (try clear hc); have hc := st.facts; (try simp only [factsOf, blkI, blkFacts, rowI, byI, datI, nullI, oldI, penI, rdI, rdAnyI, rdOverI, Nat.zero_add, Nat.reduceAdd, and_true, true_and, and_self] at hc))
      have st2 := (st.refMkE (i := 0) (t := t) (xs := ys) (er := 30) rfl (by decide)).keep [0] (by decide) (by simp)
      go_ret
      unfold RefC
      rw [show bnd (Except.ok xs) rdName = rdName xs from rfl, HE.out]
      exact ⟨rfl, by simpa [pick] using st2⟩
end Go.Proofs.Ytdkemfimhdjdiaa

namespace Go.Proofs.Ytdkemfimhdjdiaa
set_option linter.unusedSimpArgs false
set_option linter.unusedVariables false
open Go Go.RowKit
theorem B_toNat (c : UInt8) : UInt8.ofNat c.toNat = c := by simp
theorem rdNumF_canon (f : Nat) : ∀ (i acc : Nat) (xs : List UInt8) (n : Nat) (ys : List UInt8), f + i = 10 → rdNumF f i acc xs = .ok (n, ys) → ∃ m, n = acc + m * 128 ^ i ∧ xs = numF f m ++ ys ∧ (0 < i → 0 < m) := by
  induction f with
  | zero => intro i acc xs n ys _ h; simp [rdNumF] at h
  | succ f ih =>
    intro i acc xs n ys hf h
    unfold rdNumF rdNext at h
    by_cases h9 : i = 9
    · simp [h9] at h
    · rw [if_neg h9] at h
      cases xs with
      | nil => simp at h
      | cons c zs =>
        simp only at h
        by_cases h0 : c = 0 ∧ 0 < i
        · rw [if_pos h0] at h; simp at h
        · rw [if_neg h0] at h
          simp only at h
          by_cases hc : c.toNat < 128
          · rw [if_pos hc] at h
            simp at h
            obtain ⟨h1, rfl⟩ := h
            refine ⟨c.toNat, by rw [← h1, Nat.mod_eq_of_lt hc], by rw [numF_last _ _ (by omega)]; simp, fun hi => ?_⟩
            rcases Nat.eq_zero_or_pos c.toNat with q | q
            · exact absurd ⟨by apply UInt8.toNat_inj.1; simpa using q, hi⟩ h0
            · exact q
          · rw [if_neg hc] at h
            obtain ⟨m, h1, h2, h3⟩ := ih (i + 1) _ zs n ys (by omega) h
            have hm := h3 (by omega)
            have hlt := c.toNat_lt
            refine ⟨c.toNat % 128 + 128 * m, ?_, ?_, fun _ => by omega⟩
            · rw [h1, Nat.pow_succ, Nat.add_mul]
              rw [show 128 * m * 128 ^ i = m * (128 ^ i * 128) by rw [Nat.mul_comm 128 m, Nat.mul_assoc, Nat.mul_comm 128]]
              omega
            · rw [numF_more _ _ (by omega), h2, List.cons_append]
              have e1 : (128 + (c.toNat % 128 + 128 * m) % 128) = c.toNat := by omega
              have e2 : (c.toNat % 128 + 128 * m) / 128 = m := by omega
              rw [e1, e2, B_toNat]
theorem rdNum_canon {xs : List UInt8} {n : Nat} {ys : List UInt8} (h : rdNum xs = .ok (n, ys)) : xs = numB n ++ ys := by
  obtain ⟨m, h1, h2, _⟩ := rdNumF_canon 10 0 0 xs n ys rfl h
  simp at h1
  subst h1
  exact h2
theorem rdNumF_back (f : Nat) : ∀ (i acc m : Nat) (ys : List UInt8), f + i = 10 → m * 128 ^ i < 9223372036854775808 → (0 < i → 0 < m) → rdNumF f i acc (numF f m ++ ys) = .ok (acc + m * 128 ^ i, ys) := by
  induction f with
  | zero =>
    intro i acc m ys hf hm hi
    exfalso
    obtain rfl : i = 10 := by omega
    have := hi (by omega)
    have : (128 : Nat) ^ 10 ≤ m * 128 ^ 10 := Nat.le_mul_of_pos_left _ this
    have h3 : (128 : Nat) ^ 10 = 1180591620717411303424 := by decide
    omega
  | succ f ih =>
    intro i acc m ys hf hm hi
    have h9 : i ≠ 9 := by
      rintro rfl
      have := hi (by omega)
      have h1 : (128 : Nat) ^ 9 ≤ m * 128 ^ 9 := Nat.le_mul_of_pos_left _ this
      have h3 : (128 : Nat) ^ 9 = 9223372036854775808 := by decide
      omega
    by_cases hlt : 128 ≤ m
    · rw [numF_more _ _ hlt, List.cons_append]
      unfold rdNumF rdNext
      rw [if_neg h9]
      have hc : (UInt8.ofNat (128 + m % 128)).toNat = 128 + m % 128 := by simp; omega
      have hne : UInt8.ofNat (128 + m % 128) ≠ 0 := fun q => by have := congrArg UInt8.toNat q; rw [hc] at this; simp at this
      simp only [hne, false_and, if_false, hc]
      rw [if_neg (by omega), ih (i + 1) _ (m / 128) ys (by omega) ?_ (fun _ => by omega)]
      · congr 2
        have e1 : (128 + m % 128) % 128 = m % 128 := by omega
        rw [e1, Nat.pow_succ, Nat.add_assoc, ← Nat.mul_assoc, Nat.mul_right_comm, ← Nat.add_mul]
        congr 2
        omega
      · rw [Nat.pow_succ, Nat.mul_comm (128 ^ i), ← Nat.mul_assoc]
        exact Nat.lt_of_le_of_lt (Nat.mul_le_mul_right _ (Nat.div_mul_le_self m 128)) hm
    · rw [numF_last _ _ hlt, List.cons_append]
      unfold rdNumF rdNext
      rw [if_neg h9]
      have hc : (UInt8.ofNat m).toNat = m := by simp; omega
      have hne : ¬ (UInt8.ofNat m = 0 ∧ 0 < i) := fun ⟨q, q2⟩ => by have := congrArg UInt8.toNat q; rw [hc] at this; simp at this; have := hi q2; omega
      simp only [hne, if_false, hc]
      rw [if_pos (by omega), Nat.mod_eq_of_lt (by omega)]
      rfl
theorem rdNum_back (n : Nat) (ys : List UInt8) (hn : n < 9223372036854775808) : rdNum (numB n ++ ys) = .ok (n, ys) := by
  have := rdNumF_back 10 0 0 n ys rfl (by simpa using hn) (fun h => by omega)
  simpa [rdNum, numB] using this
theorem rdText_put (most : Nat) (b ys : List UInt8) (hb : b.length ≤ most) (hm : most < 9223372036854775808) : rdText (most : Int) (numB b.length ++ b ++ ys) = .ok (b, ys) := by
  unfold rdText
  rw [List.append_assoc, rdNum_back _ _ (by omega)]
  simp only
  rw [if_neg (by omega), if_neg (by simp)]
  simp
theorem rdNumber_put (most n : Nat) (ys : List UInt8) (hn : n ≤ most) (hm : most < 9223372036854775808) : rdNumber (most : Int) (numB n ++ ys) = .ok (n, ys) := by
  unfold rdNumber
  rw [rdNum_back _ _ (by omega)]
  simp only
  rw [if_neg (by omega)]
end Go.Proofs.Ytdkemfimhdjdiaa

namespace Go.Proofs.Ytdkemfimhdjdiaa
set_option linter.unusedSimpArgs false
set_option linter.unusedVariables false
open Go Go.RowKit
section
variable {P : Program} {fn : Func} {R : Ending → World → Prop} {a : Act} {w : World} {p u g : Nat} {ty : TypeId} {d : TypeDesc} {vs : List Value}
theorem bodyPost_cell (h : fn.results = #[.cell p ty]) (hp : a.tmps.getD p undef = .pointer (some ⟨g, 0, none⟩)) (hb : Blk w g vs) (hu : P.underlying ty = some d) (hd : (match d with | .struct _ | .array _ _ => true | _ => false) = true) (hi : (P.info? ty).map (·.size) = some vs.length)
    (hdef : a.defers = []) (hR : R (.returned (.agg vs.toArray)) w) : bodyPost P fn R .ret a w := by
  obtain ⟨t, hb⟩ := hb
  exact bodyPost_ret (results_cell_row h a.tmps w g t vs.toArray (0, 0) d hp hb hu hd (by simpa using hi)) hdef hR
theorem bodyPost_cell2 (h : fn.results = #[.cell p ty, .tmp u]) (hp : a.tmps.getD p undef = .pointer (some ⟨g, 0, none⟩)) (hb : Blk w g vs) (hu : P.underlying ty = some d) (hd : (match d with | .struct _ | .array _ _ => true | _ => false) = true) (hi : (P.info? ty).map (·.size) = some vs.length)
    (hdef : a.defers = []) (hR : R (.returned (.tuple #[.agg vs.toArray, a.tmps.getD u undef])) w) : bodyPost P fn R .ret a w := by
  obtain ⟨t, hb⟩ := hb
  refine bodyPost_ret (v := .tuple #[.agg vs.toArray, a.tmps.getD u undef]) ?_ hdef hR
  rw [results_cell_tmp h]
  rw [hp]
  simp [asAddr, run_loadVar_row w g t ty vs.toArray (0, 0) d hb hu hd (by simpa using hi), Result.andThen]
end
end Go.Proofs.Ytdkemfimhdjdiaa
