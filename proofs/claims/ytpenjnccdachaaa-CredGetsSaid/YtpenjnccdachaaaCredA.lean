/- Credentials: as values; which are right. -/
import Derived.Test.YtpenjnccdachaaaSlRoleA
import Derived.Test.YtpenjnccdachaaaRoleC
namespace Go.Proofs.Ytpenjnccdachaaa
set_option linter.unusedSimpArgs false
set_option linter.unusedVariables false
open Go Go.RowKit
structure CredT where
  k : Int
  h : Role
  w : List UInt8
  b : Role
  c : Role
  e : List UInt8
deriving DecidableEq, Inhabited
def cC (x : CredT) : List Value := [.int .i64 x.k, S x.h.1, S x.h.2, S x.w, S x.b.1, S x.b.2, S x.c.1, S x.c.2, S x.e]
def cV (x : CredT) : Value := .agg #[.int .i64 x.k, S x.h.1, S x.h.2, S x.w, S x.b.1, S x.b.2, S x.c.1, S x.c.2, S x.e]
instance fltCred : Flt CredT := ⟨9, cC, fun _ => rfl, by decide, fun x u hu => by simp [cC] at hu; rcases hu with rfl | rfl | rfl | rfl | rfl | rfl | rfl | rfl | rfl <;> rfl⟩
theorem fltCred_k : Flt.k CredT = 9 := rfl
@[irreducible] def credEq (a b : CredT) : Bool := decide (a = b)
theorem credEq_eq (a b : CredT) : credEq a b = decide (a = b) := by unfold credEq; rfl
@[go_sem] theorem credEq_self (x : CredT) : credEq x x = true := by rw [credEq_eq]; simp
@[go_sem] theorem roleEq_self' (x : Role) : roleEq x x = true := by rw [roleEq_eq]; simp
theorem iteB (p : Prop) [Decidable p] (b : Bool) (W : World) : (if p then Result.ok b W else Result.ok false W) = Result.ok (decide p && b) W := by
  by_cases h : p <;> simp [h]
@[go_sem high] theorem eqCred (k : Int) (ho hd w bo bd co cd e : List UInt8) (k' : Int) (ho' hd' w' bo' bd' co' cd' e' : List UInt8) (W : World) :
    (Op.equalIn 10000 97 (.agg #[.int .i64 k, .string ⟨ho.toArray⟩, .string ⟨hd.toArray⟩, .string ⟨w.toArray⟩, .string ⟨bo.toArray⟩, .string ⟨bd.toArray⟩, .string ⟨co.toArray⟩, .string ⟨cd.toArray⟩, .string ⟨e.toArray⟩])
      (.agg #[.int .i64 k', .string ⟨ho'.toArray⟩, .string ⟨hd'.toArray⟩, .string ⟨w'.toArray⟩, .string ⟨bo'.toArray⟩, .string ⟨bd'.toArray⟩, .string ⟨co'.toArray⟩, .string ⟨cd'.toArray⟩, .string ⟨e'.toArray⟩])).run Try.prog W =
      .ok (credEq ⟨k, (ho, hd), w, (bo, bd), (co, cd), e⟩ ⟨k', (ho', hd'), w', (bo', bd'), (co', cd'), e'⟩) W := by
  have hS : Try.prog.underlying 97 = some (.struct (Try.prog.fieldsOf 97)) := by kernel_rfl
  rw [show (10000 : Nat) = 9999 + 1 from rfl, run_equalIn_agg W 9999 97 _ _ hS (by kernel_rfl), credEq_eq]
  simp only [Program.fieldsOf, Try.underlying97]
  go_simp
  simp only [iteB, Bool.and_true, Bool.and_assoc]
def nR : Role := ([], [])
/-- Which credentials are right. -/
def credR (x : CredT) : Bool := roleR x.h && (if x.k = 1 then nameR x.w && roleEq x.b nR && roleEq x.c nR && (x.e == [])
  else (x.w == []) && roleR x.b && (if x.k = 2 then roleEq x.c nR && (x.e == []) else if x.k = 3 then roleEq x.c nR && (x.b.1 == x.h.1) && nameR x.e else decide (x.k = 4) && (x.e == []) && roleR x.c && roleLt x.b x.c))
set_option maxRecDepth 100000 in
set_option maxHeartbeats 1000000 in
theorem refCredRight_any (x : CredT) (W : World) (hl : x.h.1.length ≤ 1000000 ∧ x.h.2.length ≤ 1000000 ∧ x.w.length ≤ 1000000 ∧ x.b.1.length ≤ 1000000 ∧ x.b.2.length ≤ 1000000 ∧ x.c.1.length ≤ 1000000 ∧ x.c.2.length ≤ 1000000 ∧ x.e.length ≤ 1000000) :
    Calls Try.prog 129 #[cV x] W fun e w' => e = .returned (.bool (credR x)) ∧ Ext W w' := by
  obtain ⟨k, ⟨ho, hd⟩, nw, ⟨bo, bd⟩, ⟨co, cd⟩, we⟩ := x
  simp only at hl
  obtain ⟨l1, l2, l3, l4, l5, l6, l7, l8⟩ := hl
  have HRH := Lib.hid (refRoleRight_any (ho, hd))
  have HRB := Lib.hid (refRoleRight_any (bo, bd))
  have HRC := Lib.hid (refRoleRight_any (co, cd))
  have HLT := Lib.hid (refRoleLess_any (bo, bd) (co, cd))
  have st := Own.startOld W
  unfold cV rV S at *
  (try simp only [Value.cells, List.cons_append, List.nil_append, List.set, spl, putIt, pick, List.map_cons, List.map_nil, List.getElem?_cons_zero, List.getElem?_cons_succ, Option.getD_some, List.drop_succ_cons, List.drop_zero, List.drop_nil, List.append_nil, unB] at st)
  (try clear hc); have hc := st.facts; (try simp only [factsOf, blkI, blkFacts, rowI, byI, datI, nullI, oldI, penI, rdI, rdAnyI, rdOverI, Nat.zero_add, Nat.reduceAdd, and_true, true_and, and_self] at hc)
  go_enter Try.func129, Try.ntmps129
  go_wp2_with ((first
        | ((with_reducible refine wl_box ?_ (fun K hK => ?_)); rfl; refine owp_box (o := ⟨some 1, _, _, _, _, _⟩) rfl st ?_; apply Exists.intro; refine ⟨?_, ?_⟩; (focus (go_simp; try rfl)); (clear st; intro b1 w hb st; clear hb))
        | ((with_reducible refine wl_alloc ?_ (fun K hK => ?_)); rfl; refine owp_alloc (o := ⟨some 3, _, _, _, _, _⟩) rfl st ?_; apply Exists.intro; apply Exists.intro; refine ⟨?_, ?_⟩; (focus (first | (go_simp; done) | (go_simp; rfl))); (clear st; intro b3 w hb st; clear hb))); (try simp only [Value.cells, List.cons_append, List.nil_append, List.set, spl, putIt, pick, List.map_cons, List.map_nil, List.getElem?_cons_zero, List.getElem?_cons_succ, Option.getD_some, List.drop_succ_cons, List.drop_zero, List.drop_nil, List.append_nil, unB] at st); (try clear hc); have hc := st.facts; (try simp only [factsOf, blkI, blkFacts, rowI, byI, datI, nullI, oldI, penI, rdI, rdAnyI, rdOverI, Nat.zero_add, Nat.reduceAdd, and_true, true_and, and_self] at hc))
  refine (HRH.out _ (by omega) (by omega)).mono ?_
  rintro en w ⟨rfl, hx⟩
  replace st := st.ext hx
  clear hx
  (try clear hc); have hc := st.facts; (try simp only [factsOf, blkI, blkFacts, rowI, byI, datI, nullI, oldI, penI, rdI, rdAnyI, rdOverI, Nat.zero_add, Nat.reduceAdd, and_true, true_and, and_self] at hc)
  cases h1 : roleR (ho, hd) with
  | false =>
    have H1 := Lib.hid h1
    clear h1
    go_wp2_with fail
    go_ret
    exact ⟨by simp [credR, H1.out], st.ext0⟩
  | true =>
    have H1 := Lib.hid h1
    clear h1
    by_cases k1 : k = 1
    · subst k1
      go_wp2_with fail
      refine (refRight_any nw _ (by omega)).mono ?_
      rintro en w ⟨rfl, hx⟩
      replace st := st.ext hx
      clear hx
      (try clear hc); have hc := st.facts; (try simp only [factsOf, blkI, blkFacts, rowI, byI, datI, nullI, oldI, penI, rdI, rdAnyI, rdOverI, Nat.zero_add, Nat.reduceAdd, and_true, true_and, and_self] at hc)
      cases h2 : nameR nw with
      | false =>
        have H2 := Lib.hid h2
        clear h2
        go_wp2_with fail
        go_ret
        exact ⟨by simp [credR, H1.out, H2.out], st.ext0⟩
      | true =>
        have H2 := Lib.hid h2
        clear h2
        cases h3 : roleEq (bo, bd) ([], []) with
        | false =>
          go_wp2_with fail
          go_ret
          exact ⟨by simp [credR, nR, H1.out, H2.out, h3], st.ext0⟩
        | true =>
          cases h4 : roleEq (co, cd) ([], []) with
          | false =>
            go_wp2_with fail
            go_ret
            exact ⟨by simp [credR, nR, H1.out, H2.out, h3, h4], st.ext0⟩
          | true =>
            go_wp2_with fail
            go_ret
            exact ⟨by simp [credR, nR, H1.out, H2.out, h3, h4], st.ext0⟩
    · have hk1 : (k == 1) = false := by simpa using k1
      have K1 := Lib.hid k1
      clear k1
      cases h2 : (nw == ([] : List UInt8)) with
      | false =>
        have H2 := Lib.hid h2
        have hb : (!(nw == ([] : List UInt8))) = true := by rw [h2]; rfl
        go_wp2_with fail
        go_ret
        exact ⟨by rw [show credR ⟨k, (ho, hd), nw, (bo, bd), (co, cd), we⟩ = false from by unfold credR; simp only; rw [H1.out, H2.out, if_neg K1.out]; rfl]; rfl, st.ext0⟩
      | true =>
        have H2 := Lib.hid h2
        obtain rfl : nw = [] := by simpa using h2
        clear h2
        go_wp2_with fail
        refine (HRB.out _ (by omega) (by omega)).mono ?_
        rintro en w ⟨rfl, hx⟩
        replace st := st.ext hx
        clear hx
        (try clear hc); have hc := st.facts; (try simp only [factsOf, blkI, blkFacts, rowI, byI, datI, nullI, oldI, penI, rdI, rdAnyI, rdOverI, Nat.zero_add, Nat.reduceAdd, and_true, true_and, and_self] at hc)
        cases h3 : roleR (bo, bd) with
        | false =>
          have H3 := Lib.hid h3
          clear h3
          go_wp2_with fail
          go_ret
          exact ⟨by rw [show credR ⟨k, (ho, hd), [], (bo, bd), (co, cd), we⟩ = false from by unfold credR; simp only; rw [H1.out, H2.out, H3.out, if_neg K1.out]; rfl]; rfl, st.ext0⟩
        | true =>
          have H3 := Lib.hid h3
          clear h3
          have HE := Lib.hid (show credR ⟨k, (ho, hd), [], (bo, bd), (co, cd), we⟩ = (if k = 2 then roleEq (co, cd) nR && (we == []) else if k = 3 then roleEq (co, cd) nR && (bo == ho) && nameR we else decide (k = 4) && (we == []) && roleR (co, cd) && roleLt (bo, bd) (co, cd)) from by
            unfold credR; simp only; rw [H1.out, H2.out, H3.out, if_neg K1.out]; simp)
          by_cases k2 : k = 2
          · subst k2
            cases h4 : roleEq (co, cd) ([], []) with
            | false =>
              go_wp2_with fail
              go_ret
              exact ⟨by rw [HE.out]; simp [nR, h4], st.ext0⟩
            | true =>
              go_wp2_with fail
              go_ret
              exact ⟨by rw [HE.out]; simp [nR, h4], st.ext0⟩
          · have hk2 : (k == 2) = false := by simpa using k2
            have K2 := Lib.hid k2
            clear k2
            by_cases k3 : k = 3
            · subst k3
              cases h4 : roleEq (co, cd) ([], []) with
              | false =>
                go_wp2_with fail
                go_ret
                exact ⟨by rw [HE.out]; simp [nR, h4], st.ext0⟩
              | true =>
                have H4 := Lib.hid h4
                cases h5 : (bo == ho) with
                | false =>
                  have H5 := Lib.hid h5
                  go_wp2_with fail
                  go_ret
                  exact ⟨by rw [HE.out, H5.out]; simp, st.ext0⟩
                | true =>
                  have H5 := Lib.hid h5
                  go_wp2_with fail
                  refine (refRight_any we _ (by omega)).mono ?_
                  rintro en w ⟨rfl, hx⟩
                  replace st := st.ext hx
                  clear hx
                  (try clear hc); have hc := st.facts; (try simp only [factsOf, blkI, blkFacts, rowI, byI, datI, nullI, oldI, penI, rdI, rdAnyI, rdOverI, Nat.zero_add, Nat.reduceAdd, and_true, true_and, and_self] at hc)
                  go_wp2_with fail
                  go_ret
                  exact ⟨by rw [HE.out, H5.out]; simp [nR, H4.out], st.ext0⟩
            · have hk3 : (k == 3) = false := by simpa using k3
              have K3 := Lib.hid k3
              clear k3
              by_cases k4 : k = 4
              · subst k4
                cases h4 : (we == ([] : List UInt8)) with
                | false =>
                  have H4 := Lib.hid h4
                  go_wp2_with fail
                  go_ret
                  exact ⟨by rw [HE.out, H4.out]; simp, st.ext0⟩
                | true =>
                  have H4 := Lib.hid h4
                  obtain rfl : we = [] := by simpa using h4
                  clear h4
                  go_wp2_with fail
                  refine (HRC.out _ (by omega) (by omega)).mono ?_
                  rintro en w ⟨rfl, hx⟩
                  replace st := st.ext hx
                  clear hx
                  (try clear hc); have hc := st.facts; (try simp only [factsOf, blkI, blkFacts, rowI, byI, datI, nullI, oldI, penI, rdI, rdAnyI, rdOverI, Nat.zero_add, Nat.reduceAdd, and_true, true_and, and_self] at hc)
                  cases h5 : roleR (co, cd) with
                  | false =>
                    have H5 := Lib.hid h5
                    clear h5
                    go_wp2_with fail
                    go_ret
                    exact ⟨by rw [HE.out, H4.out, H5.out]; simp, st.ext0⟩
                  | true =>
                    have H5 := Lib.hid h5
                    clear h5
                    go_wp2_with fail
                    refine (HLT.out _).mono ?_
                    rintro en w ⟨rfl, hx⟩
                    replace st := st.ext hx
                    clear hx
                    (try clear hc); have hc := st.facts; (try simp only [factsOf, blkI, blkFacts, rowI, byI, datI, nullI, oldI, penI, rdI, rdAnyI, rdOverI, Nat.zero_add, Nat.reduceAdd, and_true, true_and, and_self] at hc)
                    go_wp2_with fail
                    go_ret
                    exact ⟨by rw [HE.out, H4.out, H5.out]; simp, st.ext0⟩
              · have hk4 : (k == 4) = false := by simpa using k4
                have K4 := Lib.hid k4
                clear k4
                go_wp2_with fail
                go_ret
                exact ⟨by rw [HE.out, if_neg K2.out, if_neg K3.out, decide_eq_false K4.out]; simp, st.ext0⟩
end Go.Proofs.Ytpenjnccdachaaa
