/- Sets of credentials. -/
import Derived.Test.YtpenjnccdachaaaSlCredD
import Derived.Test.YtpenjnccdachaaaCredG
import Derived.Test.YtpenjnccdachaaaSortK
import Derived.Test.YtpenjnccdachaaaSortC
namespace Go.Proofs.Ytpenjnccdachaaa
set_option linter.unusedSimpArgs false
set_option linter.unusedVariables false
open Go Go.RowKit Go.Sort Go.Lib
/-- A right credential. -/
abbrev CredK := {x : CredT // credR x = true}
instance : Inhabited CredK := ⟨⟨⟨2, ([97], [97]), [], ([97], [97]), ([], []), []⟩, by decide +kernel⟩⟩
instance fltCredK : Flt CredK := ⟨9, fun x => cC x.1, fun x => Flt.len x.1, by decide, fun x => Flt.one x.1⟩
theorem cellsL_val (xs : List CredK) : cellsL xs = cellsL (xs.map Subtype.val) := by
  induction xs with
  | nil => rfl
  | cons x xs ih => rw [List.map_cons, cellsL_cons, cellsL_cons, ih]; rfl
def credLt (a b : CredT) : Bool := strLt (credBy a) (credBy b)
theorem credBy_r {x : CredT} (h : credR x = true) : credBy x = credB x := if_pos h
theorem credOrd : SOrd credLt credR where
  irr x := strLt_irr _
  tr x y z h1 h2 := strLt_tr h1 h2
  tri x y hx hy := by
    rcases strLt_tri (credBy x) (credBy y) with h | h | h
    · exact .inl h
    · rw [credBy_r hx, credBy_r hy] at h; exact .inr (.inl (credB_inj hx hy h))
    · exact .inr (.inr h)
def cmpK (x y : CredK) : Int := credCmp x.1 y.1
theorem cmpK_lt (x y : CredK) : ltOf cmpK x y = credLt x.1 y.1 := by
  unfold ltOf cmpK credCmp cmp2 credLt
  cases h : strLt (credBy x.1) (credBy y.1) with
  | true => simp
  | false => cases h2 : strLt (credBy y.1) (credBy x.1) <;> simp
theorem cmpKSwo : SWO (ltOf cmpK) where
  irrefl x := by rw [cmpK_lt]; exact credOrd.irr x.1
  trans x y z h1 h2 := by rw [cmpK_lt] at *; exact credOrd.tr x.1 y.1 z.1 h1 h2
  ntrans x y z h1 h2 := by
    rw [cmpK_lt] at *
    cases h : credLt x.1 z.1 with
    | false => rfl
    | true =>
      rcases credOrd.tri x.1 y.1 x.2 y.2 with q | q | q
      · rw [q] at h1; cases h1
      · rw [q] at h; rw [h] at h2; cases h2
      · have := credOrd.tr _ _ _ q h; rw [this] at h2; cases h2
theorem cmpKTot (x y : CredK) (h1 : ltOf cmpK x y = false) (h2 : ltOf cmpK y x = false) : x = y := by
  rw [cmpK_lt] at h1 h2
  rcases credOrd.tri x.1 y.1 x.2 y.2 with q | q | q
  · rw [q] at h1; cases h1
  · exact Subtype.ext q
  · rw [q] at h2; cases h2
def credSort (xs : List CredK) : List CredK := xs.mergeSort fun x y => !(ltOf cmpK) y x
theorem credSort_pw (xs : List CredK) : (credSort xs).Pairwise (fun x y => credLt y.1 x.1 = false) := by
  have h1 := List.pairwise_mergeSort (le := fun x y : CredK => !(ltOf cmpK) y x) (fun a b c h1 h2 => by
    simp only [Bool.not_eq_true'] at *; exact cmpKSwo.ntrans _ _ _ h2 h1) (fun a b => by
    cases h : ltOf cmpK b a with
    | false => rfl
    | true => cases h2 : ltOf cmpK a b with
      | false => rfl
      | true => have := cmpKSwo.trans _ _ _ h h2; rw [cmpKSwo.irrefl] at this; cases this) xs
  refine h1.imp fun {a b} h => ?_
  simpa [cmpK_lt] using h
theorem credR_len {x : CredT} (h : credR x = true) : CredL 100000 x := by
  obtain ⟨h1, h2⟩ := credR_cases h
  have a1 := roleR_len h1
  unfold CredL
  rcases h2 with ⟨_, q, e1, e2, e3⟩ | ⟨e0, q, h3⟩
  · have := (nameR_len q).2
    rw [e1, e2, e3]; simp [nR]; omega
  · have a2 := roleR_len q
    rw [e0]
    rcases h3 with ⟨_, e1, e2⟩ | ⟨_, e1, _, e2⟩ | ⟨_, e1, e2, _⟩
    · rw [e1, e2]; simp [nR]; omega
    · have := (nameR_len e2).2
      rw [e1]; simp [nR]; omega
    · have := roleR_len e2
      rw [e1]; simp; omega
theorem cred76 (args : Array Value) (w : World) : (callFunc 76 args).run Try.prog w = .ok (.enter 76 args) w := enters_of Try.func76 (by kernel_rfl) rfl args w
section
variable {fr al : Nat → Prop} {w0 w : World} {L : List It}
theorem sortCred_c (st : Own fr al w0 L w) (i : Nat) {n c : Nat} {a : Option Addr} {xs : List CredK} (hi : L[i]? = some (rowI 97 9 (.slice a n c) n (cellsL xs))) (hn : n ≤ 2000000) :
    Calls Try.prog 135 #[.slice a n c, .func (.func 76) #[] #[]] w fun e w' => e = .returned (.tuple #[]) ∧ Own fr al w0 (L.set i (rowI 97 9 (.slice a n c) n (cellsL (credSort xs)))) w' := by
  have hrow := st.row hi
  have hnx : n = xs.length := by have := hrow.1; rw [cellsL_len, show Flt.k CredK = 9 from rfl] at this; omega
  rcases Nat.eq_zero_or_pos n with h0 | h0
  · subst h0
    have hx : xs = [] := List.eq_nil_of_length_eq_zero hnx.symm
    subst hx
    refine (AnyF.slices_SortFunc_none Try.sortCred a c _ w).mono ?_
    rintro e w' ⟨rfl, rfl⟩
    refine ⟨rfl, ?_⟩
    have : L.set i (rowI 97 9 (.slice a 0 c) 0 (cellsL (credSort []))) = L := by
      apply List.ext_getElem?
      intro q
      rw [List.getElem?_set]
      split
      · rename_i h; subst h; rw [hi, if_pos (get_lt hi)]; unfold credSort; rw [List.mergeSort_nil]
      · rfl
    rw [this]; exact st
  · obtain ⟨g, cap', hv, hcap, _⟩ := st.rowAt hi h0
    injection hv with hv1 hv2 hv3
    subst hv1 hv3
    have hH := st.holdsK (α := CredK) (xs := xs) hi
    have hcon := AnyQ.slices_SortFunc_total Try.sortCred 9 Try.isAgg97 Try.sizeOf97 (Flt.cells : CredK → List Value) (fun x => Flt.len x) (fun x v hv => Flt.one x v hv) cmpK cmpKSwo 76 #[] g 0 c xs.toArray w cred76
      (fun m os dk _ x y => (credCompare_any x.1 y.1 _ (credR_len x.2) (credR_len y.2)).mono fun e w' h => ⟨h.1, h.2.grow⟩) hH.1 hH.2 (by simp; omega) cmpKTot
    change Calls Try.prog 135 _ _ _ at hcon
    rw [show xs.toArray.size = n by simp [hnx]] at hcon
    refine hcon.mono ?_
    rintro e w' ⟨rfl, m, os, rfl⟩
    exact ⟨rfl, st.sortedK (α := CredK) hi (by unfold credSort; simp) m os⟩
end
end Go.Proofs.Ytpenjnccdachaaa
