/- Tickets: the reference's Make; Same. -/
import Derived.Test.YtdkemfimhdjdiaaTickB
import Derived.Test.YtdkemfimhdjdiaaRefTapeB
namespace Go.Proofs.Ytdkemfimhdjdiaa
set_option linter.unusedSimpArgs false
set_option linter.unusedVariables false
open Go Go.RowKit
/-- A ticket as it lies, and what its tag reads as. -/
structure TickT where
  o : List UInt8
  cl : List UInt8
  t : Int
  a : Option Addr
  n : Nat
  c : Nat
  xs : List UInt8
deriving Inhabited
def tC (x : TickT) : List Value := [S x.o, S x.cl, .int .i64 x.t, .slice x.a x.n x.c]
def tV (x : TickT) : Value := .agg #[S x.o, S x.cl, .int .i64 x.t, .slice x.a x.n x.c]
instance fltTick : Flt TickT := ⟨4, tC, fun _ => rfl, by decide, fun x u hu => by simp [tC] at hu; rcases hu with rfl | rfl | rfl | rfl <;> rfl⟩
def TOk (W : World) (x : TickT) : Prop := (x.n ≤ x.c ∧ x.c ≤ maxLen) ∧ By W x.a x.n x.xs
theorem TOk.ext {W W' : World} {x : TickT} (h : TOk W x) (hx : Ext W W') : TOk W' x := ⟨h.1, h.2.ext hx⟩
def sameT (x y : TickT) : Bool := (x.o == y.o) && (x.cl == y.cl) && decide (x.t = y.t) && (x.xs == y.xs)
set_option maxRecDepth 100000 in
set_option maxHeartbeats 1000000 in
theorem tickSame_any (x y : TickT) (W : World) (hx : TOk W x) (hy : TOk W y) (hl : x.xs.length ≤ 100000 ∧ y.xs.length ≤ 100000) :
    Calls Try.prog 41 #[tV x, tV y] W fun e w' => e = .returned (.bool (sameT x y)) ∧ Ext W w' := by
  have st := ((Own.startOld W).addOldBy (i := 0) rfl hx.2).addOldBy (i := 0) rfl hy.2
  obtain ⟨r, hr⟩ : ∃ r, sameT x y = r := ⟨_, rfl⟩
  rw [hr]
  have HR : Hid (r = ((x.o == y.o) && (x.cl == y.cl) && decide (x.t = y.t) && (x.xs == y.xs))) := Lib.hid hr.symm
  clear hr hx hy
  unfold tV S
  (try simp only [Value.cells, List.cons_append, List.nil_append, List.set, spl, putIt, pick, List.map_cons, List.map_nil, List.getElem?_cons_zero, List.getElem?_cons_succ, Option.getD_some, List.drop_succ_cons, List.drop_zero, List.drop_nil, List.append_nil, unB] at st)
  (try clear hc); have hc := st.facts; (try simp only [factsOf, blkI, blkFacts, rowI, byI, datI, nullI, oldI, penI, rdI, rdAnyI, rdOverI, Nat.zero_add, Nat.reduceAdd, and_true, true_and, and_self] at hc)
  cases h1 : (x.o == y.o) with
  | false =>
    have H1 : Hid (r = false) := Lib.hid (by rw [HR.out, h1]; rfl)
    go_enter Try.func41, Try.ntmps41
    go_wp2_with ((first
          | ((with_reducible refine wl_box ?_ (fun K hK => ?_)); rfl; refine owp_box (o := ⟨some 2, _, _, _, _, _⟩) rfl st ?_; apply Exists.intro; refine ⟨?_, ?_⟩; (focus (go_simp; try rfl)); (clear st; intro b2 w hb st; clear hb))
          | ((with_reducible refine wl_box ?_ (fun K hK => ?_)); rfl; refine owp_box (o := ⟨some 3, _, _, _, _, _⟩) rfl st ?_; apply Exists.intro; refine ⟨?_, ?_⟩; (focus (go_simp; try rfl)); (clear st; intro b3 w hb st; clear hb))
          | ((with_reducible refine wl_convert ?_ (fun K hK => ?_)); rfl; (first | (refine owp_bs (o := ⟨some 27, _, _, _, _, _⟩) rfl st 0 get0 rfl Try.underlying30 Try.underlying5 Try.underlying9 ?_) | (refine owp_bs (o := ⟨some 27, _, _, _, _, _⟩) rfl st 1 get1 rfl Try.underlying30 Try.underlying5 Try.underlying9 ?_) | (refine owp_bs (o := ⟨some 27, _, _, _, _, _⟩) rfl st 2 get2 rfl Try.underlying30 Try.underlying5 Try.underlying9 ?_) | (refine owp_bs (o := ⟨some 27, _, _, _, _, _⟩) rfl st 3 get3 rfl Try.underlying30 Try.underlying5 Try.underlying9 ?_) | (refine owp_bs (o := ⟨some 27, _, _, _, _, _⟩) rfl st 4 get4 rfl Try.underlying30 Try.underlying5 Try.underlying9 ?_)))
          | ((with_reducible refine wl_convert ?_ (fun K hK => ?_)); rfl; (first | (refine owp_bs (o := ⟨some 30, _, _, _, _, _⟩) rfl st 0 get0 rfl Try.underlying30 Try.underlying5 Try.underlying9 ?_) | (refine owp_bs (o := ⟨some 30, _, _, _, _, _⟩) rfl st 1 get1 rfl Try.underlying30 Try.underlying5 Try.underlying9 ?_) | (refine owp_bs (o := ⟨some 30, _, _, _, _, _⟩) rfl st 2 get2 rfl Try.underlying30 Try.underlying5 Try.underlying9 ?_) | (refine owp_bs (o := ⟨some 30, _, _, _, _, _⟩) rfl st 3 get3 rfl Try.underlying30 Try.underlying5 Try.underlying9 ?_) | (refine owp_bs (o := ⟨some 30, _, _, _, _, _⟩) rfl st 4 get4 rfl Try.underlying30 Try.underlying5 Try.underlying9 ?_)))); (try simp only [Value.cells, List.cons_append, List.nil_append, List.set, spl, putIt, pick, List.map_cons, List.map_nil, List.getElem?_cons_zero, List.getElem?_cons_succ, Option.getD_some, List.drop_succ_cons, List.drop_zero, List.drop_nil, List.append_nil, unB] at st); (try clear hc); have hc := st.facts; (try simp only [factsOf, blkI, blkFacts, rowI, byI, datI, nullI, oldI, penI, rdI, rdAnyI, rdOverI, Nat.zero_add, Nat.reduceAdd, and_true, true_and, and_self] at hc))
    go_ret
    exact ⟨by rw [H1.out]; rfl, st.ext0⟩
  | true =>
    cases h2 : (x.cl == y.cl) with
    | false =>
      have H1 : Hid (r = false) := Lib.hid (by rw [HR.out, h1, h2]; rfl)
      go_enter Try.func41, Try.ntmps41
      go_wp2_with ((first
            | ((with_reducible refine wl_box ?_ (fun K hK => ?_)); rfl; refine owp_box (o := ⟨some 2, _, _, _, _, _⟩) rfl st ?_; apply Exists.intro; refine ⟨?_, ?_⟩; (focus (go_simp; try rfl)); (clear st; intro b2 w hb st; clear hb))
            | ((with_reducible refine wl_box ?_ (fun K hK => ?_)); rfl; refine owp_box (o := ⟨some 3, _, _, _, _, _⟩) rfl st ?_; apply Exists.intro; refine ⟨?_, ?_⟩; (focus (go_simp; try rfl)); (clear st; intro b3 w hb st; clear hb))
            | ((with_reducible refine wl_convert ?_ (fun K hK => ?_)); rfl; (first | (refine owp_bs (o := ⟨some 27, _, _, _, _, _⟩) rfl st 0 get0 rfl Try.underlying30 Try.underlying5 Try.underlying9 ?_) | (refine owp_bs (o := ⟨some 27, _, _, _, _, _⟩) rfl st 1 get1 rfl Try.underlying30 Try.underlying5 Try.underlying9 ?_) | (refine owp_bs (o := ⟨some 27, _, _, _, _, _⟩) rfl st 2 get2 rfl Try.underlying30 Try.underlying5 Try.underlying9 ?_) | (refine owp_bs (o := ⟨some 27, _, _, _, _, _⟩) rfl st 3 get3 rfl Try.underlying30 Try.underlying5 Try.underlying9 ?_) | (refine owp_bs (o := ⟨some 27, _, _, _, _, _⟩) rfl st 4 get4 rfl Try.underlying30 Try.underlying5 Try.underlying9 ?_)))
            | ((with_reducible refine wl_convert ?_ (fun K hK => ?_)); rfl; (first | (refine owp_bs (o := ⟨some 30, _, _, _, _, _⟩) rfl st 0 get0 rfl Try.underlying30 Try.underlying5 Try.underlying9 ?_) | (refine owp_bs (o := ⟨some 30, _, _, _, _, _⟩) rfl st 1 get1 rfl Try.underlying30 Try.underlying5 Try.underlying9 ?_) | (refine owp_bs (o := ⟨some 30, _, _, _, _, _⟩) rfl st 2 get2 rfl Try.underlying30 Try.underlying5 Try.underlying9 ?_) | (refine owp_bs (o := ⟨some 30, _, _, _, _, _⟩) rfl st 3 get3 rfl Try.underlying30 Try.underlying5 Try.underlying9 ?_) | (refine owp_bs (o := ⟨some 30, _, _, _, _, _⟩) rfl st 4 get4 rfl Try.underlying30 Try.underlying5 Try.underlying9 ?_)))); (try simp only [Value.cells, List.cons_append, List.nil_append, List.set, spl, putIt, pick, List.map_cons, List.map_nil, List.getElem?_cons_zero, List.getElem?_cons_succ, Option.getD_some, List.drop_succ_cons, List.drop_zero, List.drop_nil, List.append_nil, unB] at st); (try clear hc); have hc := st.facts; (try simp only [factsOf, blkI, blkFacts, rowI, byI, datI, nullI, oldI, penI, rdI, rdAnyI, rdOverI, Nat.zero_add, Nat.reduceAdd, and_true, true_and, and_self] at hc))
      go_ret
      exact ⟨by rw [H1.out]; rfl, st.ext0⟩
    | true =>
      by_cases h3 : x.t = y.t
      · have h3b : (x.t == y.t) = true := by simpa using h3
        have H1 : Hid (r = (x.xs == y.xs)) := Lib.hid (by rw [HR.out, h1, h2, decide_eq_true h3]; simp)
        clear h3
        go_enter Try.func41, Try.ntmps41
        go_wp2_with ((first
              | ((with_reducible refine wl_box ?_ (fun K hK => ?_)); rfl; refine owp_box (o := ⟨some 2, _, _, _, _, _⟩) rfl st ?_; apply Exists.intro; refine ⟨?_, ?_⟩; (focus (go_simp; try rfl)); (clear st; intro b2 w hb st; clear hb))
              | ((with_reducible refine wl_box ?_ (fun K hK => ?_)); rfl; refine owp_box (o := ⟨some 3, _, _, _, _, _⟩) rfl st ?_; apply Exists.intro; refine ⟨?_, ?_⟩; (focus (go_simp; try rfl)); (clear st; intro b3 w hb st; clear hb))
              | ((with_reducible refine wl_convert ?_ (fun K hK => ?_)); rfl; (first | (refine owp_bs (o := ⟨some 27, _, _, _, _, _⟩) rfl st 0 get0 rfl Try.underlying30 Try.underlying5 Try.underlying9 ?_) | (refine owp_bs (o := ⟨some 27, _, _, _, _, _⟩) rfl st 1 get1 rfl Try.underlying30 Try.underlying5 Try.underlying9 ?_) | (refine owp_bs (o := ⟨some 27, _, _, _, _, _⟩) rfl st 2 get2 rfl Try.underlying30 Try.underlying5 Try.underlying9 ?_) | (refine owp_bs (o := ⟨some 27, _, _, _, _, _⟩) rfl st 3 get3 rfl Try.underlying30 Try.underlying5 Try.underlying9 ?_) | (refine owp_bs (o := ⟨some 27, _, _, _, _, _⟩) rfl st 4 get4 rfl Try.underlying30 Try.underlying5 Try.underlying9 ?_)))
              | ((with_reducible refine wl_convert ?_ (fun K hK => ?_)); rfl; (first | (refine owp_bs (o := ⟨some 30, _, _, _, _, _⟩) rfl st 0 get0 rfl Try.underlying30 Try.underlying5 Try.underlying9 ?_) | (refine owp_bs (o := ⟨some 30, _, _, _, _, _⟩) rfl st 1 get1 rfl Try.underlying30 Try.underlying5 Try.underlying9 ?_) | (refine owp_bs (o := ⟨some 30, _, _, _, _, _⟩) rfl st 2 get2 rfl Try.underlying30 Try.underlying5 Try.underlying9 ?_) | (refine owp_bs (o := ⟨some 30, _, _, _, _, _⟩) rfl st 3 get3 rfl Try.underlying30 Try.underlying5 Try.underlying9 ?_) | (refine owp_bs (o := ⟨some 30, _, _, _, _, _⟩) rfl st 4 get4 rfl Try.underlying30 Try.underlying5 Try.underlying9 ?_)))); (try simp only [Value.cells, List.cons_append, List.nil_append, List.set, spl, putIt, pick, List.map_cons, List.map_nil, List.getElem?_cons_zero, List.getElem?_cons_succ, Option.getD_some, List.drop_succ_cons, List.drop_zero, List.drop_nil, List.append_nil, unB] at st); (try clear hc); have hc := st.facts; (try simp only [factsOf, blkI, blkFacts, rowI, byI, datI, nullI, oldI, penI, rdI, rdAnyI, rdOverI, Nat.zero_add, Nat.reduceAdd, and_true, true_and, and_self] at hc))
        go_ret
        exact ⟨by rw [H1.out]; rfl, st.ext0⟩
      · have h3b : (x.t == y.t) = false := by simpa using h3
        have H1 : Hid (r = false) := Lib.hid (by rw [HR.out, h1, h2, decide_eq_false h3]; rfl)
        clear h3
        go_enter Try.func41, Try.ntmps41
        go_wp2_with ((first
              | ((with_reducible refine wl_box ?_ (fun K hK => ?_)); rfl; refine owp_box (o := ⟨some 2, _, _, _, _, _⟩) rfl st ?_; apply Exists.intro; refine ⟨?_, ?_⟩; (focus (go_simp; try rfl)); (clear st; intro b2 w hb st; clear hb))
              | ((with_reducible refine wl_box ?_ (fun K hK => ?_)); rfl; refine owp_box (o := ⟨some 3, _, _, _, _, _⟩) rfl st ?_; apply Exists.intro; refine ⟨?_, ?_⟩; (focus (go_simp; try rfl)); (clear st; intro b3 w hb st; clear hb))
              | ((with_reducible refine wl_convert ?_ (fun K hK => ?_)); rfl; (first | (refine owp_bs (o := ⟨some 27, _, _, _, _, _⟩) rfl st 0 get0 rfl Try.underlying30 Try.underlying5 Try.underlying9 ?_) | (refine owp_bs (o := ⟨some 27, _, _, _, _, _⟩) rfl st 1 get1 rfl Try.underlying30 Try.underlying5 Try.underlying9 ?_) | (refine owp_bs (o := ⟨some 27, _, _, _, _, _⟩) rfl st 2 get2 rfl Try.underlying30 Try.underlying5 Try.underlying9 ?_) | (refine owp_bs (o := ⟨some 27, _, _, _, _, _⟩) rfl st 3 get3 rfl Try.underlying30 Try.underlying5 Try.underlying9 ?_) | (refine owp_bs (o := ⟨some 27, _, _, _, _, _⟩) rfl st 4 get4 rfl Try.underlying30 Try.underlying5 Try.underlying9 ?_)))
              | ((with_reducible refine wl_convert ?_ (fun K hK => ?_)); rfl; (first | (refine owp_bs (o := ⟨some 30, _, _, _, _, _⟩) rfl st 0 get0 rfl Try.underlying30 Try.underlying5 Try.underlying9 ?_) | (refine owp_bs (o := ⟨some 30, _, _, _, _, _⟩) rfl st 1 get1 rfl Try.underlying30 Try.underlying5 Try.underlying9 ?_) | (refine owp_bs (o := ⟨some 30, _, _, _, _, _⟩) rfl st 2 get2 rfl Try.underlying30 Try.underlying5 Try.underlying9 ?_) | (refine owp_bs (o := ⟨some 30, _, _, _, _, _⟩) rfl st 3 get3 rfl Try.underlying30 Try.underlying5 Try.underlying9 ?_) | (refine owp_bs (o := ⟨some 30, _, _, _, _, _⟩) rfl st 4 get4 rfl Try.underlying30 Try.underlying5 Try.underlying9 ?_)))); (try simp only [Value.cells, List.cons_append, List.nil_append, List.set, spl, putIt, pick, List.map_cons, List.map_nil, List.getElem?_cons_zero, List.getElem?_cons_succ, Option.getD_some, List.drop_succ_cons, List.drop_zero, List.drop_nil, List.append_nil, unB] at st); (try clear hc); have hc := st.facts; (try simp only [factsOf, blkI, blkFacts, rowI, byI, datI, nullI, oldI, penI, rdI, rdAnyI, rdOverI, Nat.zero_add, Nat.reduceAdd, and_true, true_and, and_self] at hc))
        go_ret
        exact ⟨by rw [H1.out]; rfl, st.ext0⟩
end Go.Proofs.Ytdkemfimhdjdiaa
