/- Tickets: the reference's Make; Same. -/
import Derived.Test.YtpenjnccdachaaaTickB
import Derived.Test.YtpenjnccdachaaaRefTapeB
namespace Go.Proofs.Ytpenjnccdachaaa
set_option linter.unusedSimpArgs false
set_option linter.unusedVariables false
open Go Go.RowKit
/-- A ticket as it lies, and what its tag reads as. -/
structure TickT where
  o : List UInt8
  cl : List UInt8
  t : Int
  a : Option Addr
  n : Nat
  c : Nat
  xs : List UInt8
deriving Inhabited
def tC (x : TickT) : List Value := [S x.o, S x.cl, .int .i64 x.t, .slice x.a x.n x.c]
def tV (x : TickT) : Value := .agg #[S x.o, S x.cl, .int .i64 x.t, .slice x.a x.n x.c]
instance fltTick : Flt TickT := ⟨4, tC, fun _ => rfl, by decide, fun x u hu => by simp [tC] at hu; rcases hu with rfl | rfl | rfl | rfl <;> rfl⟩
def TOk (W : World) (x : TickT) : Prop := (x.n ≤ x.c ∧ x.c ≤ maxLen) ∧ By W x.a x.n x.xs
theorem TOk.ext {W W' : World} {x : TickT} (h : TOk W x) (hx : Ext W W') : TOk W' x := ⟨h.1, h.2.ext hx⟩
def sameT (x y : TickT) : Bool := (x.o == y.o) && (x.cl == y.cl) && decide (x.t = y.t) && (x.xs == y.xs)
set_option maxRecDepth 100000 in
set_option maxHeartbeats 1000000 in
theorem tickSame_any (x y : TickT) (W : World) (hx : TOk W x) (hy : TOk W y) (hl : x.xs.length ≤ 100000 ∧ y.xs.length ≤ 100000) :
    Calls Try.prog 20 #[tV x, tV y] W fun e w' => e = .returned (.bool (sameT x y)) ∧ Ext W w' := by
  have st := ((Own.startOld W).addOldBy (i := 0) rfl hx.2).addOldBy (i := 0) rfl hy.2
  obtain ⟨r, hr⟩ : ∃ r, sameT x y = r := ⟨_, rfl⟩
  rw [hr]
  have HR : Hid (r = ((x.o == y.o) && (x.cl == y.cl) && decide (x.t = y.t) && (x.xs == y.xs))) := Lib.hid hr.symm
  clear hr hx hy
  unfold tV S
  (try simp only [Value.cells, List.cons_append, List.nil_append, List.set, spl, putIt, pick, List.map_cons, List.map_nil, List.getElem?_cons_zero, List.getElem?_cons_succ, Option.getD_some, List.drop_succ_cons, List.drop_zero, List.drop_nil, List.append_nil, unB] at st)
  (try clear hc); have hc := st.facts; (try simp only [factsOf, blkI, blkFacts, rowI, byI, datI, nullI, oldI, penI, rdI, rdAnyI, rdOverI, Nat.zero_add, Nat.reduceAdd, and_true, true_and, and_self] at hc)
  cases h1 : (x.o == y.o) with
  | false =>
    have H1 : Hid (r = false) := Lib.hid (by rw [HR.out, h1]; rfl)
    go_enter Try.func20, Try.ntmps20
    go_wp2_with ((first
          | ((with_reducible refine wl_box ?_ (fun K hK => ?_)); rfl; refine owp_box (o := ⟨some 2, _, _, _, _, _⟩) rfl st ?_; apply Exists.intro; refine ⟨?_, ?_⟩; (focus (go_simp; try rfl)); (clear st; intro b2 w hb st; clear hb))
          | ((with_reducible refine wl_box ?_ (fun K hK => ?_)); rfl; refine owp_box (o := ⟨some 3, _, _, _, _, _⟩) rfl st ?_; apply Exists.intro; refine ⟨?_, ?_⟩; (focus (go_simp; try rfl)); (clear st; intro b3 w hb st; clear hb))
          | ((with_reducible refine wl_convert ?_ (fun K hK => ?_)); rfl; (first | (refine owp_bs (o := ⟨some 27, _, _, _, _, _⟩) rfl st 0 get0 rfl Try.underlying23 Try.underlying5 Try.underlying9 ?_) | (refine owp_bs (o := ⟨some 27, _, _, _, _, _⟩) rfl st 1 get1 rfl Try.underlying23 Try.underlying5 Try.underlying9 ?_) | (refine owp_bs (o := ⟨some 27, _, _, _, _, _⟩) rfl st 2 get2 rfl Try.underlying23 Try.underlying5 Try.underlying9 ?_) | (refine owp_bs (o := ⟨some 27, _, _, _, _, _⟩) rfl st 3 get3 rfl Try.underlying23 Try.underlying5 Try.underlying9 ?_) | (refine owp_bs (o := ⟨some 27, _, _, _, _, _⟩) rfl st 4 get4 rfl Try.underlying23 Try.underlying5 Try.underlying9 ?_)))
          | ((with_reducible refine wl_convert ?_ (fun K hK => ?_)); rfl; (first | (refine owp_bs (o := ⟨some 30, _, _, _, _, _⟩) rfl st 0 get0 rfl Try.underlying23 Try.underlying5 Try.underlying9 ?_) | (refine owp_bs (o := ⟨some 30, _, _, _, _, _⟩) rfl st 1 get1 rfl Try.underlying23 Try.underlying5 Try.underlying9 ?_) | (refine owp_bs (o := ⟨some 30, _, _, _, _, _⟩) rfl st 2 get2 rfl Try.underlying23 Try.underlying5 Try.underlying9 ?_) | (refine owp_bs (o := ⟨some 30, _, _, _, _, _⟩) rfl st 3 get3 rfl Try.underlying23 Try.underlying5 Try.underlying9 ?_) | (refine owp_bs (o := ⟨some 30, _, _, _, _, _⟩) rfl st 4 get4 rfl Try.underlying23 Try.underlying5 Try.underlying9 ?_)))); (try simp only [Value.cells, List.cons_append, List.nil_append, List.set, spl, putIt, pick, List.map_cons, List.map_nil, List.getElem?_cons_zero, List.getElem?_cons_succ, Option.getD_some, List.drop_succ_cons, List.drop_zero, List.drop_nil, List.append_nil, unB] at st); (try clear hc); have hc := st.facts; (try simp only [factsOf, blkI, blkFacts, rowI, byI, datI, nullI, oldI, penI, rdI, rdAnyI, rdOverI, Nat.zero_add, Nat.reduceAdd, and_true, true_and, and_self] at hc))
    go_ret
    exact ⟨by rw [H1.out]; rfl, st.ext0⟩
  | true =>
    cases h2 : (x.cl == y.cl) with
    | false =>
      have H1 : Hid (r = false) := Lib.hid (by rw [HR.out, h1, h2]; rfl)
      go_enter Try.func20, Try.ntmps20
      go_wp2_with ((first
            | ((with_reducible refine wl_box ?_ (fun K hK => ?_)); rfl; refine owp_box (o := ⟨some 2, _, _, _, _, _⟩) rfl st ?_; apply Exists.intro; refine ⟨?_, ?_⟩; (focus (go_simp; try rfl)); (clear st; intro b2 w hb st; clear hb))
            | ((with_reducible refine wl_box ?_ (fun K hK => ?_)); rfl; refine owp_box (o := ⟨some 3, _, _, _, _, _⟩) rfl st ?_; apply Exists.intro; refine ⟨?_, ?_⟩; (focus (go_simp; try rfl)); (clear st; intro b3 w hb st; clear hb))
            | ((with_reducible refine wl_convert ?_ (fun K hK => ?_)); rfl; (first | (refine owp_bs (o := ⟨some 27, _, _, _, _, _⟩) rfl st 0 get0 rfl Try.underlying23 Try.underlying5 Try.underlying9 ?_) | (refine owp_bs (o := ⟨some 27, _, _, _, _, _⟩) rfl st 1 get1 rfl Try.underlying23 Try.underlying5 Try.underlying9 ?_) | (refine owp_bs (o := ⟨some 27, _, _, _, _, _⟩) rfl st 2 get2 rfl Try.underlying23 Try.underlying5 Try.underlying9 ?_) | (refine owp_bs (o := ⟨some 27, _, _, _, _, _⟩) rfl st 3 get3 rfl Try.underlying23 Try.underlying5 Try.underlying9 ?_) | (refine owp_bs (o := ⟨some 27, _, _, _, _, _⟩) rfl st 4 get4 rfl Try.underlying23 Try.underlying5 Try.underlying9 ?_)))
            | ((with_reducible refine wl_convert ?_ (fun K hK => ?_)); rfl; (first | (refine owp_bs (o := ⟨some 30, _, _, _, _, _⟩) rfl st 0 get0 rfl Try.underlying23 Try.underlying5 Try.underlying9 ?_) | (refine owp_bs (o := ⟨some 30, _, _, _, _, _⟩) rfl st 1 get1 rfl Try.underlying23 Try.underlying5 Try.underlying9 ?_) | (refine owp_bs (o := ⟨some 30, _, _, _, _, _⟩) rfl st 2 get2 rfl Try.underlying23 Try.underlying5 Try.underlying9 ?_) | (refine owp_bs (o := ⟨some 30, _, _, _, _, _⟩) rfl st 3 get3 rfl Try.underlying23 Try.underlying5 Try.underlying9 ?_) | (refine owp_bs (o := ⟨some 30, _, _, _, _, _⟩) rfl st 4 get4 rfl Try.underlying23 Try.underlying5 Try.underlying9 ?_)))); (try simp only [Value.cells, List.cons_append, List.nil_append, List.set, spl, putIt, pick, List.map_cons, List.map_nil, List.getElem?_cons_zero, List.getElem?_cons_succ, Option.getD_some, List.drop_succ_cons, List.drop_zero, List.drop_nil, List.append_nil, unB] at st); (try clear hc); have hc := st.facts; (try simp only [factsOf, blkI, blkFacts, rowI, byI, datI, nullI, oldI, penI, rdI, rdAnyI, rdOverI, Nat.zero_add, Nat.reduceAdd, and_true, true_and, and_self] at hc))
      go_ret
      exact ⟨by rw [H1.out]; rfl, st.ext0⟩
    | true =>
      by_cases h3 : x.t = y.t
      · have h3b : (x.t == y.t) = true := by simpa using h3
        have H1 : Hid (r = (x.xs == y.xs)) := Lib.hid (by rw [HR.out, h1, h2, decide_eq_true h3]; simp)
        clear h3
        go_enter Try.func20, Try.ntmps20
        go_wp2_with ((first
              | ((with_reducible refine wl_box ?_ (fun K hK => ?_)); rfl; refine owp_box (o := ⟨some 2, _, _, _, _, _⟩) rfl st ?_; apply Exists.intro; refine ⟨?_, ?_⟩; (focus (go_simp; try rfl)); (clear st; intro b2 w hb st; clear hb))
              | ((with_reducible refine wl_box ?_ (fun K hK => ?_)); rfl; refine owp_box (o := ⟨some 3, _, _, _, _, _⟩) rfl st ?_; apply Exists.intro; refine ⟨?_, ?_⟩; (focus (go_simp; try rfl)); (clear st; intro b3 w hb st; clear hb))
              | ((with_reducible refine wl_convert ?_ (fun K hK => ?_)); rfl; (first | (refine owp_bs (o := ⟨some 27, _, _, _, _, _⟩) rfl st 0 get0 rfl Try.underlying23 Try.underlying5 Try.underlying9 ?_) | (refine owp_bs (o := ⟨some 27, _, _, _, _, _⟩) rfl st 1 get1 rfl Try.underlying23 Try.underlying5 Try.underlying9 ?_) | (refine owp_bs (o := ⟨some 27, _, _, _, _, _⟩) rfl st 2 get2 rfl Try.underlying23 Try.underlying5 Try.underlying9 ?_) | (refine owp_bs (o := ⟨some 27, _, _, _, _, _⟩) rfl st 3 get3 rfl Try.underlying23 Try.underlying5 Try.underlying9 ?_) | (refine owp_bs (o := ⟨some 27, _, _, _, _, _⟩) rfl st 4 get4 rfl Try.underlying23 Try.underlying5 Try.underlying9 ?_)))
              | ((with_reducible refine wl_convert ?_ (fun K hK => ?_)); rfl; (first | (refine owp_bs (o := ⟨some 30, _, _, _, _, _⟩) rfl st 0 get0 rfl Try.underlying23 Try.underlying5 Try.underlying9 ?_) | (refine owp_bs (o := ⟨some 30, _, _, _, _, _⟩) rfl st 1 get1 rfl Try.underlying23 Try.underlying5 Try.underlying9 ?_) | (refine owp_bs (o := ⟨some 30, _, _, _, _, _⟩) rfl st 2 get2 rfl Try.underlying23 Try.underlying5 Try.underlying9 ?_) | (refine owp_bs (o := ⟨some 30, _, _, _, _, _⟩) rfl st 3 get3 rfl Try.underlying23 Try.underlying5 Try.underlying9 ?_) | (refine owp_bs (o := ⟨some 30, _, _, _, _, _⟩) rfl st 4 get4 rfl Try.underlying23 Try.underlying5 Try.underlying9 ?_)))); (try simp only [Value.cells, List.cons_append, List.nil_append, List.set, spl, putIt, pick, List.map_cons, List.map_nil, List.getElem?_cons_zero, List.getElem?_cons_succ, Option.getD_some, List.drop_succ_cons, List.drop_zero, List.drop_nil, List.append_nil, unB] at st); (try clear hc); have hc := st.facts; (try simp only [factsOf, blkI, blkFacts, rowI, byI, datI, nullI, oldI, penI, rdI, rdAnyI, rdOverI, Nat.zero_add, Nat.reduceAdd, and_true, true_and, and_self] at hc))
        go_ret
        exact ⟨by rw [H1.out]; rfl, st.ext0⟩
      · have h3b : (x.t == y.t) = false := by simpa using h3
        have H1 : Hid (r = false) := Lib.hid (by rw [HR.out, h1, h2, decide_eq_false h3]; rfl)
        clear h3
        go_enter Try.func20, Try.ntmps20
        go_wp2_with ((first
              | ((with_reducible refine wl_box ?_ (fun K hK => ?_)); rfl; refine owp_box (o := ⟨some 2, _, _, _, _, _⟩) rfl st ?_; apply Exists.intro; refine ⟨?_, ?_⟩; (focus (go_simp; try rfl)); (clear st; intro b2 w hb st; clear hb))
              | ((with_reducible refine wl_box ?_ (fun K hK => ?_)); rfl; refine owp_box (o := ⟨some 3, _, _, _, _, _⟩) rfl st ?_; apply Exists.intro; refine ⟨?_, ?_⟩; (focus (go_simp; try rfl)); (clear st; intro b3 w hb st; clear hb))
              | ((with_reducible refine wl_convert ?_ (fun K hK => ?_)); rfl; (first | (refine owp_bs (o := ⟨some 27, _, _, _, _, _⟩) rfl st 0 get0 rfl Try.underlying23 Try.underlying5 Try.underlying9 ?_) | (refine owp_bs (o := ⟨some 27, _, _, _, _, _⟩) rfl st 1 get1 rfl Try.underlying23 Try.underlying5 Try.underlying9 ?_) | (refine owp_bs (o := ⟨some 27, _, _, _, _, _⟩) rfl st 2 get2 rfl Try.underlying23 Try.underlying5 Try.underlying9 ?_) | (refine owp_bs (o := ⟨some 27, _, _, _, _, _⟩) rfl st 3 get3 rfl Try.underlying23 Try.underlying5 Try.underlying9 ?_) | (refine owp_bs (o := ⟨some 27, _, _, _, _, _⟩) rfl st 4 get4 rfl Try.underlying23 Try.underlying5 Try.underlying9 ?_)))
              | ((with_reducible refine wl_convert ?_ (fun K hK => ?_)); rfl; (first | (refine owp_bs (o := ⟨some 30, _, _, _, _, _⟩) rfl st 0 get0 rfl Try.underlying23 Try.underlying5 Try.underlying9 ?_) | (refine owp_bs (o := ⟨some 30, _, _, _, _, _⟩) rfl st 1 get1 rfl Try.underlying23 Try.underlying5 Try.underlying9 ?_) | (refine owp_bs (o := ⟨some 30, _, _, _, _, _⟩) rfl st 2 get2 rfl Try.underlying23 Try.underlying5 Try.underlying9 ?_) | (refine owp_bs (o := ⟨some 30, _, _, _, _, _⟩) rfl st 3 get3 rfl Try.underlying23 Try.underlying5 Try.underlying9 ?_) | (refine owp_bs (o := ⟨some 30, _, _, _, _, _⟩) rfl st 4 get4 rfl Try.underlying23 Try.underlying5 Try.underlying9 ?_)))); (try simp only [Value.cells, List.cons_append, List.nil_append, List.set, spl, putIt, pick, List.map_cons, List.map_nil, List.getElem?_cons_zero, List.getElem?_cons_succ, Option.getD_some, List.drop_succ_cons, List.drop_zero, List.drop_nil, List.append_nil, unB] at st); (try clear hc); have hc := st.facts; (try simp only [factsOf, blkI, blkFacts, rowI, byI, datI, nullI, oldI, penI, rdI, rdAnyI, rdOverI, Nat.zero_add, Nat.reduceAdd, and_true, true_and, and_self] at hc))
        go_ret
        exact ⟨by rw [H1.out]; rfl, st.ext0⟩
set_option maxRecDepth 100000 in
set_option maxHeartbeats 2000000 in
theorem refMake_er (a : Option Addr) (n c : Nat) (l : List KeyT) (o cl : List UInt8) (t : Int) (W : World) (h : Fl W a n l) (hn : n ≤ 2000000) (hc : n ≤ c ∧ c ≤ maxLen) (hs : ∀ k ∈ l, k.who.length ≤ 100000 ∧ k.n ≤ 100000) (hk : ∀ k ∈ l, KOk W k) (ho : o.length ≤ 100000) (hcl : cl.length ≤ 100000) (hne : mkErr l o cl t ≠ 0) :
    Calls Try.prog 18 #[.slice a n c, S o, S cl, .int .i64 t] W fun e w' => e = .returned (.tuple #[zTV, .int .i64 (mkErr l o cl t)]) ∧ Ext W w' := by
  have HKN := Lib.hid (fun W' (hx : Ext W W') => refKeysNew_any a n c l W' (h.extW hx) hn hc fun k q => ⟨(hs k q).1, (hk k q).1.1, (hk k q).1.2⟩)
  have H := Lib.hid h
  have HNL := Lib.hid h.1
  obtain ⟨r, hr⟩ : ∃ r, mkErr l o cl t = r := ⟨_, rfl⟩
  rw [hr] at hne ⊢
  have HM : Hid (r = if keyErr l ≠ 0 then keyErr l else if nameR o = false ∨ nameR cl = false then 30 else if t < 0 ∨ 1099511627776 < t then 2 else if keyOf l o = none then 21 else 0) := Lib.hid hr.symm
  obtain ⟨ke, hke⟩ : ∃ e, keyErr l = e := ⟨_, rfl⟩
  rw [hke] at HKN HM
  have HN := Lib.hid hne
  have HZ : Hid (zTV = .agg #[.string ⟨#[]⟩, .string ⟨#[]⟩, .int .i64 0, .slice none 0 0]) := Lib.hid rfl
  rw [HZ.out]
  clear hr hke hk hs h hne
  have st := Own.startOld W
  unfold S at *
  (try simp only [Value.cells, List.cons_append, List.nil_append, List.set, spl, putIt, pick, List.map_cons, List.map_nil, List.getElem?_cons_zero, List.getElem?_cons_succ, Option.getD_some, List.drop_succ_cons, List.drop_zero, List.drop_nil, List.append_nil, unB] at st)
  (try clear hc); have hc := st.facts; (try simp only [factsOf, blkI, blkFacts, rowI, byI, datI, nullI, oldI, penI, rdI, rdAnyI, rdOverI, Nat.zero_add, Nat.reduceAdd, and_true, true_and, and_self] at hc)
  go_enter Try.func18, Try.ntmps18
  go_wp2_with ((first
        | ((with_reducible refine wl_alloc ?_ (fun K hK => ?_)); rfl; refine owp_alloc (o := ⟨some 8, _, _, _, _, _⟩) rfl st ?_; apply Exists.intro; apply Exists.intro; refine ⟨?_, ?_⟩; (focus (first | (go_simp; done) | (go_simp; rfl))); (clear st; intro b8 w hb st; clear hb))
        | ((with_reducible refine wl_store ?_ (fun K hK => ?_)); rfl; refine owp_store rfl st ?_; apply Exists.intro; apply Exists.intro; refine ⟨?_, ?_, ?_⟩; (focus (go_simp; try rfl)); (focus (go_simp; try rfl)); (first | (with_reducible refine ⟨0, _, _, _, _, get0, rfl, rfl, ?_, ?_, ?_, ?_⟩) | (with_reducible refine ⟨1, _, _, _, _, get1, rfl, rfl, ?_, ?_, ?_, ?_⟩) | (with_reducible refine ⟨2, _, _, _, _, get2, rfl, rfl, ?_, ?_, ?_, ?_⟩) | (with_reducible refine ⟨3, _, _, _, _, get3, rfl, rfl, ?_, ?_, ?_, ?_⟩) | (with_reducible refine ⟨4, _, _, _, _, get4, rfl, rfl, ?_, ?_, ?_, ?_⟩)); (kernel_rfl); (simp [Value.cells]); (rfl); (clear st; intro w st))
        | ((with_reducible refine wl_alloc ?_ (fun K hK => ?_)); rfl; refine owp_alloc (o := ⟨some 12, _, _, _, _, _⟩) rfl st ?_; apply Exists.intro; apply Exists.intro; refine ⟨?_, ?_⟩; (focus (first | (go_simp; done) | (go_simp; rfl))); (clear st; intro b12 w hb st; clear hb))
        | ((with_reducible refine wl_convert ?_ (fun K hK => ?_)); rfl; (first | (refine owp_bs (o := ⟨some 61, _, _, _, _, _⟩) rfl st 0 get0 rfl Try.underlying23 Try.underlying5 Try.underlying9 ?_) | (refine owp_bs (o := ⟨some 61, _, _, _, _, _⟩) rfl st 1 get1 rfl Try.underlying23 Try.underlying5 Try.underlying9 ?_) | (refine owp_bs (o := ⟨some 61, _, _, _, _, _⟩) rfl st 2 get2 rfl Try.underlying23 Try.underlying5 Try.underlying9 ?_) | (refine owp_bs (o := ⟨some 61, _, _, _, _, _⟩) rfl st 3 get3 rfl Try.underlying23 Try.underlying5 Try.underlying9 ?_) | (refine owp_bs (o := ⟨some 61, _, _, _, _, _⟩) rfl st 4 get4 rfl Try.underlying23 Try.underlying5 Try.underlying9 ?_)))
        | ((with_reducible refine wl_convert ?_ (fun K hK => ?_)); rfl; refine owp_sb (o := ⟨some 64, _, _, _, _, _⟩) rfl st rfl Try.underlying9 Try.underlying23 Try.underlying5 ?_ ?_; (simp only [maxLen]; omega); (clear st; intro A64 c64 w hc64 st))); (try simp only [Value.cells, List.cons_append, List.nil_append, List.set, spl, putIt, pick, List.map_cons, List.map_nil, List.getElem?_cons_zero, List.getElem?_cons_succ, Option.getD_some, List.drop_succ_cons, List.drop_zero, List.drop_nil, List.append_nil, unB] at st); (try clear hc); have hc := st.facts; (try simp only [factsOf, blkI, blkFacts, rowI, byI, datI, nullI, oldI, penI, rdI, rdAnyI, rdOverI, Nat.zero_add, Nat.reduceAdd, and_true, true_and, and_self] at hc))
  refine (HKN.out _ st.ext0).mono ?_
  rintro en w ⟨rfl, hx⟩
  replace st := st.ext hx
  clear hx
  (try clear hc); have hc := st.facts; (try simp only [factsOf, blkI, blkFacts, rowI, byI, datI, nullI, oldI, penI, rdI, rdAnyI, rdOverI, Nat.zero_add, Nat.reduceAdd, and_true, true_and, and_self] at hc)
  by_cases k0 : ke = 0
  · subst k0
    go_wp2_with ((first
          | ((with_reducible refine wl_alloc ?_ (fun K hK => ?_)); rfl; refine owp_alloc (o := ⟨some 8, _, _, _, _, _⟩) rfl st ?_; apply Exists.intro; apply Exists.intro; refine ⟨?_, ?_⟩; (focus (first | (go_simp; done) | (go_simp; rfl))); (clear st; intro b8 w hb st; clear hb))
          | ((with_reducible refine wl_store ?_ (fun K hK => ?_)); rfl; refine owp_store rfl st ?_; apply Exists.intro; apply Exists.intro; refine ⟨?_, ?_, ?_⟩; (focus (go_simp; try rfl)); (focus (go_simp; try rfl)); (first | (with_reducible refine ⟨0, _, _, _, _, get0, rfl, rfl, ?_, ?_, ?_, ?_⟩) | (with_reducible refine ⟨1, _, _, _, _, get1, rfl, rfl, ?_, ?_, ?_, ?_⟩) | (with_reducible refine ⟨2, _, _, _, _, get2, rfl, rfl, ?_, ?_, ?_, ?_⟩) | (with_reducible refine ⟨3, _, _, _, _, get3, rfl, rfl, ?_, ?_, ?_, ?_⟩) | (with_reducible refine ⟨4, _, _, _, _, get4, rfl, rfl, ?_, ?_, ?_, ?_⟩)); (kernel_rfl); (simp [Value.cells]); (rfl); (clear st; intro w st))
          | ((with_reducible refine wl_alloc ?_ (fun K hK => ?_)); rfl; refine owp_alloc (o := ⟨some 12, _, _, _, _, _⟩) rfl st ?_; apply Exists.intro; apply Exists.intro; refine ⟨?_, ?_⟩; (focus (first | (go_simp; done) | (go_simp; rfl))); (clear st; intro b12 w hb st; clear hb))
          | ((with_reducible refine wl_convert ?_ (fun K hK => ?_)); rfl; (first | (refine owp_bs (o := ⟨some 61, _, _, _, _, _⟩) rfl st 0 get0 rfl Try.underlying23 Try.underlying5 Try.underlying9 ?_) | (refine owp_bs (o := ⟨some 61, _, _, _, _, _⟩) rfl st 1 get1 rfl Try.underlying23 Try.underlying5 Try.underlying9 ?_) | (refine owp_bs (o := ⟨some 61, _, _, _, _, _⟩) rfl st 2 get2 rfl Try.underlying23 Try.underlying5 Try.underlying9 ?_) | (refine owp_bs (o := ⟨some 61, _, _, _, _, _⟩) rfl st 3 get3 rfl Try.underlying23 Try.underlying5 Try.underlying9 ?_) | (refine owp_bs (o := ⟨some 61, _, _, _, _, _⟩) rfl st 4 get4 rfl Try.underlying23 Try.underlying5 Try.underlying9 ?_)))
          | ((with_reducible refine wl_convert ?_ (fun K hK => ?_)); rfl; refine owp_sb (o := ⟨some 64, _, _, _, _, _⟩) rfl st rfl Try.underlying9 Try.underlying23 Try.underlying5 ?_ ?_; (simp only [maxLen]; omega); (clear st; intro A64 c64 w hc64 st))); (try simp only [Value.cells, List.cons_append, List.nil_append, List.set, spl, putIt, pick, List.map_cons, List.map_nil, List.getElem?_cons_zero, List.getElem?_cons_succ, Option.getD_some, List.drop_succ_cons, List.drop_zero, List.drop_nil, List.append_nil, unB] at st); (try clear hc); have hc := st.facts; (try simp only [factsOf, blkI, blkFacts, rowI, byI, datI, nullI, oldI, penI, rdI, rdAnyI, rdOverI, Nat.zero_add, Nat.reduceAdd, and_true, true_and, and_self] at hc))
    refine (refRight_any o _ (by omega)).mono ?_
    rintro en w ⟨rfl, hx⟩
    replace st := st.ext hx
    clear hx
    (try clear hc); have hc := st.facts; (try simp only [factsOf, blkI, blkFacts, rowI, byI, datI, nullI, oldI, penI, rdI, rdAnyI, rdOverI, Nat.zero_add, Nat.reduceAdd, and_true, true_and, and_self] at hc)
    cases ho1 : nameR o with
    | false =>
      have H1 : Hid (r = 30) := Lib.hid (by rw [HM.out, if_neg (by decide), if_pos (.inl ho1)])
      clear ho1
      go_wp2_with ((first
            | ((with_reducible refine wl_alloc ?_ (fun K hK => ?_)); rfl; refine owp_alloc (o := ⟨some 8, _, _, _, _, _⟩) rfl st ?_; apply Exists.intro; apply Exists.intro; refine ⟨?_, ?_⟩; (focus (first | (go_simp; done) | (go_simp; rfl))); (clear st; intro b8 w hb st; clear hb))
            | ((with_reducible refine wl_store ?_ (fun K hK => ?_)); rfl; refine owp_store rfl st ?_; apply Exists.intro; apply Exists.intro; refine ⟨?_, ?_, ?_⟩; (focus (go_simp; try rfl)); (focus (go_simp; try rfl)); (first | (with_reducible refine ⟨0, _, _, _, _, get0, rfl, rfl, ?_, ?_, ?_, ?_⟩) | (with_reducible refine ⟨1, _, _, _, _, get1, rfl, rfl, ?_, ?_, ?_, ?_⟩) | (with_reducible refine ⟨2, _, _, _, _, get2, rfl, rfl, ?_, ?_, ?_, ?_⟩) | (with_reducible refine ⟨3, _, _, _, _, get3, rfl, rfl, ?_, ?_, ?_, ?_⟩) | (with_reducible refine ⟨4, _, _, _, _, get4, rfl, rfl, ?_, ?_, ?_, ?_⟩)); (kernel_rfl); (simp [Value.cells]); (rfl); (clear st; intro w st))
            | ((with_reducible refine wl_alloc ?_ (fun K hK => ?_)); rfl; refine owp_alloc (o := ⟨some 12, _, _, _, _, _⟩) rfl st ?_; apply Exists.intro; apply Exists.intro; refine ⟨?_, ?_⟩; (focus (first | (go_simp; done) | (go_simp; rfl))); (clear st; intro b12 w hb st; clear hb))
            | ((with_reducible refine wl_convert ?_ (fun K hK => ?_)); rfl; (first | (refine owp_bs (o := ⟨some 61, _, _, _, _, _⟩) rfl st 0 get0 rfl Try.underlying23 Try.underlying5 Try.underlying9 ?_) | (refine owp_bs (o := ⟨some 61, _, _, _, _, _⟩) rfl st 1 get1 rfl Try.underlying23 Try.underlying5 Try.underlying9 ?_) | (refine owp_bs (o := ⟨some 61, _, _, _, _, _⟩) rfl st 2 get2 rfl Try.underlying23 Try.underlying5 Try.underlying9 ?_) | (refine owp_bs (o := ⟨some 61, _, _, _, _, _⟩) rfl st 3 get3 rfl Try.underlying23 Try.underlying5 Try.underlying9 ?_) | (refine owp_bs (o := ⟨some 61, _, _, _, _, _⟩) rfl st 4 get4 rfl Try.underlying23 Try.underlying5 Try.underlying9 ?_)))
            | ((with_reducible refine wl_convert ?_ (fun K hK => ?_)); rfl; refine owp_sb (o := ⟨some 64, _, _, _, _, _⟩) rfl st rfl Try.underlying9 Try.underlying23 Try.underlying5 ?_ ?_; (simp only [maxLen]; omega); (clear st; intro A64 c64 w hc64 st))); (try simp only [Value.cells, List.cons_append, List.nil_append, List.set, spl, putIt, pick, List.map_cons, List.map_nil, List.getElem?_cons_zero, List.getElem?_cons_succ, Option.getD_some, List.drop_succ_cons, List.drop_zero, List.drop_nil, List.append_nil, unB] at st); (try clear hc); have hc := st.facts; (try simp only [factsOf, blkI, blkFacts, rowI, byI, datI, nullI, oldI, penI, rdI, rdAnyI, rdOverI, Nat.zero_add, Nat.reduceAdd, and_true, true_and, and_self] at hc))
      (try simp only [Exit.inBlock, Exit.then])
      refine bodyPost_cell2 rfl rfl (st.blk (i := 1) get1) Try.underlying25 rfl (by kernel_rfl) rfl ?_
      exact ⟨by rw [H1.out]; rfl, st.ext0⟩
    | true =>
      have HNO := Lib.hid ho1
      clear ho1
      go_wp2_with ((first
            | ((with_reducible refine wl_alloc ?_ (fun K hK => ?_)); rfl; refine owp_alloc (o := ⟨some 8, _, _, _, _, _⟩) rfl st ?_; apply Exists.intro; apply Exists.intro; refine ⟨?_, ?_⟩; (focus (first | (go_simp; done) | (go_simp; rfl))); (clear st; intro b8 w hb st; clear hb))
            | ((with_reducible refine wl_store ?_ (fun K hK => ?_)); rfl; refine owp_store rfl st ?_; apply Exists.intro; apply Exists.intro; refine ⟨?_, ?_, ?_⟩; (focus (go_simp; try rfl)); (focus (go_simp; try rfl)); (first | (with_reducible refine ⟨0, _, _, _, _, get0, rfl, rfl, ?_, ?_, ?_, ?_⟩) | (with_reducible refine ⟨1, _, _, _, _, get1, rfl, rfl, ?_, ?_, ?_, ?_⟩) | (with_reducible refine ⟨2, _, _, _, _, get2, rfl, rfl, ?_, ?_, ?_, ?_⟩) | (with_reducible refine ⟨3, _, _, _, _, get3, rfl, rfl, ?_, ?_, ?_, ?_⟩) | (with_reducible refine ⟨4, _, _, _, _, get4, rfl, rfl, ?_, ?_, ?_, ?_⟩)); (kernel_rfl); (simp [Value.cells]); (rfl); (clear st; intro w st))
            | ((with_reducible refine wl_alloc ?_ (fun K hK => ?_)); rfl; refine owp_alloc (o := ⟨some 12, _, _, _, _, _⟩) rfl st ?_; apply Exists.intro; apply Exists.intro; refine ⟨?_, ?_⟩; (focus (first | (go_simp; done) | (go_simp; rfl))); (clear st; intro b12 w hb st; clear hb))
            | ((with_reducible refine wl_convert ?_ (fun K hK => ?_)); rfl; (first | (refine owp_bs (o := ⟨some 61, _, _, _, _, _⟩) rfl st 0 get0 rfl Try.underlying23 Try.underlying5 Try.underlying9 ?_) | (refine owp_bs (o := ⟨some 61, _, _, _, _, _⟩) rfl st 1 get1 rfl Try.underlying23 Try.underlying5 Try.underlying9 ?_) | (refine owp_bs (o := ⟨some 61, _, _, _, _, _⟩) rfl st 2 get2 rfl Try.underlying23 Try.underlying5 Try.underlying9 ?_) | (refine owp_bs (o := ⟨some 61, _, _, _, _, _⟩) rfl st 3 get3 rfl Try.underlying23 Try.underlying5 Try.underlying9 ?_) | (refine owp_bs (o := ⟨some 61, _, _, _, _, _⟩) rfl st 4 get4 rfl Try.underlying23 Try.underlying5 Try.underlying9 ?_)))
            | ((with_reducible refine wl_convert ?_ (fun K hK => ?_)); rfl; refine owp_sb (o := ⟨some 64, _, _, _, _, _⟩) rfl st rfl Try.underlying9 Try.underlying23 Try.underlying5 ?_ ?_; (simp only [maxLen]; omega); (clear st; intro A64 c64 w hc64 st))); (try simp only [Value.cells, List.cons_append, List.nil_append, List.set, spl, putIt, pick, List.map_cons, List.map_nil, List.getElem?_cons_zero, List.getElem?_cons_succ, Option.getD_some, List.drop_succ_cons, List.drop_zero, List.drop_nil, List.append_nil, unB] at st); (try clear hc); have hc := st.facts; (try simp only [factsOf, blkI, blkFacts, rowI, byI, datI, nullI, oldI, penI, rdI, rdAnyI, rdOverI, Nat.zero_add, Nat.reduceAdd, and_true, true_and, and_self] at hc))
      refine (refRight_any cl _ (by omega)).mono ?_
      rintro en w ⟨rfl, hx⟩
      replace st := st.ext hx
      clear hx
      (try clear hc); have hc := st.facts; (try simp only [factsOf, blkI, blkFacts, rowI, byI, datI, nullI, oldI, penI, rdI, rdAnyI, rdOverI, Nat.zero_add, Nat.reduceAdd, and_true, true_and, and_self] at hc)
      cases hc1 : nameR cl with
      | false =>
        have H1 : Hid (r = 30) := Lib.hid (by rw [HM.out, if_neg (by decide), if_pos (.inr hc1)])
        clear hc1
        go_wp2_with ((first
              | ((with_reducible refine wl_alloc ?_ (fun K hK => ?_)); rfl; refine owp_alloc (o := ⟨some 8, _, _, _, _, _⟩) rfl st ?_; apply Exists.intro; apply Exists.intro; refine ⟨?_, ?_⟩; (focus (first | (go_simp; done) | (go_simp; rfl))); (clear st; intro b8 w hb st; clear hb))
              | ((with_reducible refine wl_store ?_ (fun K hK => ?_)); rfl; refine owp_store rfl st ?_; apply Exists.intro; apply Exists.intro; refine ⟨?_, ?_, ?_⟩; (focus (go_simp; try rfl)); (focus (go_simp; try rfl)); (first | (with_reducible refine ⟨0, _, _, _, _, get0, rfl, rfl, ?_, ?_, ?_, ?_⟩) | (with_reducible refine ⟨1, _, _, _, _, get1, rfl, rfl, ?_, ?_, ?_, ?_⟩) | (with_reducible refine ⟨2, _, _, _, _, get2, rfl, rfl, ?_, ?_, ?_, ?_⟩) | (with_reducible refine ⟨3, _, _, _, _, get3, rfl, rfl, ?_, ?_, ?_, ?_⟩) | (with_reducible refine ⟨4, _, _, _, _, get4, rfl, rfl, ?_, ?_, ?_, ?_⟩)); (kernel_rfl); (simp [Value.cells]); (rfl); (clear st; intro w st))
              | ((with_reducible refine wl_alloc ?_ (fun K hK => ?_)); rfl; refine owp_alloc (o := ⟨some 12, _, _, _, _, _⟩) rfl st ?_; apply Exists.intro; apply Exists.intro; refine ⟨?_, ?_⟩; (focus (first | (go_simp; done) | (go_simp; rfl))); (clear st; intro b12 w hb st; clear hb))
              | ((with_reducible refine wl_convert ?_ (fun K hK => ?_)); rfl; (first | (refine owp_bs (o := ⟨some 61, _, _, _, _, _⟩) rfl st 0 get0 rfl Try.underlying23 Try.underlying5 Try.underlying9 ?_) | (refine owp_bs (o := ⟨some 61, _, _, _, _, _⟩) rfl st 1 get1 rfl Try.underlying23 Try.underlying5 Try.underlying9 ?_) | (refine owp_bs (o := ⟨some 61, _, _, _, _, _⟩) rfl st 2 get2 rfl Try.underlying23 Try.underlying5 Try.underlying9 ?_) | (refine owp_bs (o := ⟨some 61, _, _, _, _, _⟩) rfl st 3 get3 rfl Try.underlying23 Try.underlying5 Try.underlying9 ?_) | (refine owp_bs (o := ⟨some 61, _, _, _, _, _⟩) rfl st 4 get4 rfl Try.underlying23 Try.underlying5 Try.underlying9 ?_)))
              | ((with_reducible refine wl_convert ?_ (fun K hK => ?_)); rfl; refine owp_sb (o := ⟨some 64, _, _, _, _, _⟩) rfl st rfl Try.underlying9 Try.underlying23 Try.underlying5 ?_ ?_; (simp only [maxLen]; omega); (clear st; intro A64 c64 w hc64 st))); (try simp only [Value.cells, List.cons_append, List.nil_append, List.set, spl, putIt, pick, List.map_cons, List.map_nil, List.getElem?_cons_zero, List.getElem?_cons_succ, Option.getD_some, List.drop_succ_cons, List.drop_zero, List.drop_nil, List.append_nil, unB] at st); (try clear hc); have hc := st.facts; (try simp only [factsOf, blkI, blkFacts, rowI, byI, datI, nullI, oldI, penI, rdI, rdAnyI, rdOverI, Nat.zero_add, Nat.reduceAdd, and_true, true_and, and_self] at hc))
        (try simp only [Exit.inBlock, Exit.then])
        refine bodyPost_cell2 rfl rfl (st.blk (i := 1) get1) Try.underlying25 rfl (by kernel_rfl) rfl ?_
        exact ⟨by rw [H1.out]; rfl, st.ext0⟩
      | true =>
        have HM2 : Hid (r = if t < 0 ∨ 1099511627776 < t then 2 else if keyOf l o = none then 21 else 0) := Lib.hid (by rw [HM.out, if_neg (by decide), if_neg (by rw [HNO.out, hc1]; decide)])
        clear hc1
        by_cases t0 : t < 0
        · have H1 : Hid (r = 2) := Lib.hid (by rw [HM2.out, if_pos (.inl t0)])
          go_wp2_with ((first
                | ((with_reducible refine wl_alloc ?_ (fun K hK => ?_)); rfl; refine owp_alloc (o := ⟨some 8, _, _, _, _, _⟩) rfl st ?_; apply Exists.intro; apply Exists.intro; refine ⟨?_, ?_⟩; (focus (first | (go_simp; done) | (go_simp; rfl))); (clear st; intro b8 w hb st; clear hb))
                | ((with_reducible refine wl_store ?_ (fun K hK => ?_)); rfl; refine owp_store rfl st ?_; apply Exists.intro; apply Exists.intro; refine ⟨?_, ?_, ?_⟩; (focus (go_simp; try rfl)); (focus (go_simp; try rfl)); (first | (with_reducible refine ⟨0, _, _, _, _, get0, rfl, rfl, ?_, ?_, ?_, ?_⟩) | (with_reducible refine ⟨1, _, _, _, _, get1, rfl, rfl, ?_, ?_, ?_, ?_⟩) | (with_reducible refine ⟨2, _, _, _, _, get2, rfl, rfl, ?_, ?_, ?_, ?_⟩) | (with_reducible refine ⟨3, _, _, _, _, get3, rfl, rfl, ?_, ?_, ?_, ?_⟩) | (with_reducible refine ⟨4, _, _, _, _, get4, rfl, rfl, ?_, ?_, ?_, ?_⟩)); (kernel_rfl); (simp [Value.cells]); (rfl); (clear st; intro w st))
                | ((with_reducible refine wl_alloc ?_ (fun K hK => ?_)); rfl; refine owp_alloc (o := ⟨some 12, _, _, _, _, _⟩) rfl st ?_; apply Exists.intro; apply Exists.intro; refine ⟨?_, ?_⟩; (focus (first | (go_simp; done) | (go_simp; rfl))); (clear st; intro b12 w hb st; clear hb))
                | ((with_reducible refine wl_convert ?_ (fun K hK => ?_)); rfl; (first | (refine owp_bs (o := ⟨some 61, _, _, _, _, _⟩) rfl st 0 get0 rfl Try.underlying23 Try.underlying5 Try.underlying9 ?_) | (refine owp_bs (o := ⟨some 61, _, _, _, _, _⟩) rfl st 1 get1 rfl Try.underlying23 Try.underlying5 Try.underlying9 ?_) | (refine owp_bs (o := ⟨some 61, _, _, _, _, _⟩) rfl st 2 get2 rfl Try.underlying23 Try.underlying5 Try.underlying9 ?_) | (refine owp_bs (o := ⟨some 61, _, _, _, _, _⟩) rfl st 3 get3 rfl Try.underlying23 Try.underlying5 Try.underlying9 ?_) | (refine owp_bs (o := ⟨some 61, _, _, _, _, _⟩) rfl st 4 get4 rfl Try.underlying23 Try.underlying5 Try.underlying9 ?_)))
                | ((with_reducible refine wl_convert ?_ (fun K hK => ?_)); rfl; refine owp_sb (o := ⟨some 64, _, _, _, _, _⟩) rfl st rfl Try.underlying9 Try.underlying23 Try.underlying5 ?_ ?_; (simp only [maxLen]; omega); (clear st; intro A64 c64 w hc64 st))); (try simp only [Value.cells, List.cons_append, List.nil_append, List.set, spl, putIt, pick, List.map_cons, List.map_nil, List.getElem?_cons_zero, List.getElem?_cons_succ, Option.getD_some, List.drop_succ_cons, List.drop_zero, List.drop_nil, List.append_nil, unB] at st); (try clear hc); have hc := st.facts; (try simp only [factsOf, blkI, blkFacts, rowI, byI, datI, nullI, oldI, penI, rdI, rdAnyI, rdOverI, Nat.zero_add, Nat.reduceAdd, and_true, true_and, and_self] at hc))
          (try simp only [Exit.inBlock, Exit.then])
          refine bodyPost_cell2 rfl rfl (st.blk (i := 1) get1) Try.underlying25 rfl (by kernel_rfl) rfl ?_
          exact ⟨by rw [H1.out]; rfl, st.ext0⟩
        by_cases t1 : 1099511627776 < t
        · have H1 : Hid (r = 2) := Lib.hid (by rw [HM2.out, if_pos (.inr t1)])
          go_wp2_with ((first
                | ((with_reducible refine wl_alloc ?_ (fun K hK => ?_)); rfl; refine owp_alloc (o := ⟨some 8, _, _, _, _, _⟩) rfl st ?_; apply Exists.intro; apply Exists.intro; refine ⟨?_, ?_⟩; (focus (first | (go_simp; done) | (go_simp; rfl))); (clear st; intro b8 w hb st; clear hb))
                | ((with_reducible refine wl_store ?_ (fun K hK => ?_)); rfl; refine owp_store rfl st ?_; apply Exists.intro; apply Exists.intro; refine ⟨?_, ?_, ?_⟩; (focus (go_simp; try rfl)); (focus (go_simp; try rfl)); (first | (with_reducible refine ⟨0, _, _, _, _, get0, rfl, rfl, ?_, ?_, ?_, ?_⟩) | (with_reducible refine ⟨1, _, _, _, _, get1, rfl, rfl, ?_, ?_, ?_, ?_⟩) | (with_reducible refine ⟨2, _, _, _, _, get2, rfl, rfl, ?_, ?_, ?_, ?_⟩) | (with_reducible refine ⟨3, _, _, _, _, get3, rfl, rfl, ?_, ?_, ?_, ?_⟩) | (with_reducible refine ⟨4, _, _, _, _, get4, rfl, rfl, ?_, ?_, ?_, ?_⟩)); (kernel_rfl); (simp [Value.cells]); (rfl); (clear st; intro w st))
                | ((with_reducible refine wl_alloc ?_ (fun K hK => ?_)); rfl; refine owp_alloc (o := ⟨some 12, _, _, _, _, _⟩) rfl st ?_; apply Exists.intro; apply Exists.intro; refine ⟨?_, ?_⟩; (focus (first | (go_simp; done) | (go_simp; rfl))); (clear st; intro b12 w hb st; clear hb))
                | ((with_reducible refine wl_convert ?_ (fun K hK => ?_)); rfl; (first | (refine owp_bs (o := ⟨some 61, _, _, _, _, _⟩) rfl st 0 get0 rfl Try.underlying23 Try.underlying5 Try.underlying9 ?_) | (refine owp_bs (o := ⟨some 61, _, _, _, _, _⟩) rfl st 1 get1 rfl Try.underlying23 Try.underlying5 Try.underlying9 ?_) | (refine owp_bs (o := ⟨some 61, _, _, _, _, _⟩) rfl st 2 get2 rfl Try.underlying23 Try.underlying5 Try.underlying9 ?_) | (refine owp_bs (o := ⟨some 61, _, _, _, _, _⟩) rfl st 3 get3 rfl Try.underlying23 Try.underlying5 Try.underlying9 ?_) | (refine owp_bs (o := ⟨some 61, _, _, _, _, _⟩) rfl st 4 get4 rfl Try.underlying23 Try.underlying5 Try.underlying9 ?_)))
                | ((with_reducible refine wl_convert ?_ (fun K hK => ?_)); rfl; refine owp_sb (o := ⟨some 64, _, _, _, _, _⟩) rfl st rfl Try.underlying9 Try.underlying23 Try.underlying5 ?_ ?_; (simp only [maxLen]; omega); (clear st; intro A64 c64 w hc64 st))); (try simp only [Value.cells, List.cons_append, List.nil_append, List.set, spl, putIt, pick, List.map_cons, List.map_nil, List.getElem?_cons_zero, List.getElem?_cons_succ, Option.getD_some, List.drop_succ_cons, List.drop_zero, List.drop_nil, List.append_nil, unB] at st); (try clear hc); have hc := st.facts; (try simp only [factsOf, blkI, blkFacts, rowI, byI, datI, nullI, oldI, penI, rdI, rdAnyI, rdOverI, Nat.zero_add, Nat.reduceAdd, and_true, true_and, and_self] at hc))
          (try simp only [Exit.inBlock, Exit.then])
          refine bodyPost_cell2 rfl rfl (st.blk (i := 1) get1) Try.underlying25 rfl (by kernel_rfl) rfl ?_
          exact ⟨by rw [H1.out]; rfl, st.ext0⟩
        have HKO : Hid (keyOf l o = none ∧ r = 21) := Lib.hid (by
          have := HM2.out
          rw [if_neg (by omega)] at this
          by_cases q : keyOf l o = none
          · rw [if_pos q] at this; exact ⟨q, this⟩
          · rw [if_neg q] at this; exact absurd this HN.out)
        go_wp2_with ((first
              | ((with_reducible refine wl_alloc ?_ (fun K hK => ?_)); rfl; refine owp_alloc (o := ⟨some 8, _, _, _, _, _⟩) rfl st ?_; apply Exists.intro; apply Exists.intro; refine ⟨?_, ?_⟩; (focus (first | (go_simp; done) | (go_simp; rfl))); (clear st; intro b8 w hb st; clear hb))
              | ((with_reducible refine wl_store ?_ (fun K hK => ?_)); rfl; refine owp_store rfl st ?_; apply Exists.intro; apply Exists.intro; refine ⟨?_, ?_, ?_⟩; (focus (go_simp; try rfl)); (focus (go_simp; try rfl)); (first | (with_reducible refine ⟨0, _, _, _, _, get0, rfl, rfl, ?_, ?_, ?_, ?_⟩) | (with_reducible refine ⟨1, _, _, _, _, get1, rfl, rfl, ?_, ?_, ?_, ?_⟩) | (with_reducible refine ⟨2, _, _, _, _, get2, rfl, rfl, ?_, ?_, ?_, ?_⟩) | (with_reducible refine ⟨3, _, _, _, _, get3, rfl, rfl, ?_, ?_, ?_, ?_⟩) | (with_reducible refine ⟨4, _, _, _, _, get4, rfl, rfl, ?_, ?_, ?_, ?_⟩)); (kernel_rfl); (simp [Value.cells]); (rfl); (clear st; intro w st))
              | ((with_reducible refine wl_alloc ?_ (fun K hK => ?_)); rfl; refine owp_alloc (o := ⟨some 12, _, _, _, _, _⟩) rfl st ?_; apply Exists.intro; apply Exists.intro; refine ⟨?_, ?_⟩; (focus (first | (go_simp; done) | (go_simp; rfl))); (clear st; intro b12 w hb st; clear hb))
              | ((with_reducible refine wl_convert ?_ (fun K hK => ?_)); rfl; (first | (refine owp_bs (o := ⟨some 61, _, _, _, _, _⟩) rfl st 0 get0 rfl Try.underlying23 Try.underlying5 Try.underlying9 ?_) | (refine owp_bs (o := ⟨some 61, _, _, _, _, _⟩) rfl st 1 get1 rfl Try.underlying23 Try.underlying5 Try.underlying9 ?_) | (refine owp_bs (o := ⟨some 61, _, _, _, _, _⟩) rfl st 2 get2 rfl Try.underlying23 Try.underlying5 Try.underlying9 ?_) | (refine owp_bs (o := ⟨some 61, _, _, _, _, _⟩) rfl st 3 get3 rfl Try.underlying23 Try.underlying5 Try.underlying9 ?_) | (refine owp_bs (o := ⟨some 61, _, _, _, _, _⟩) rfl st 4 get4 rfl Try.underlying23 Try.underlying5 Try.underlying9 ?_)))
              | ((with_reducible refine wl_convert ?_ (fun K hK => ?_)); rfl; refine owp_sb (o := ⟨some 64, _, _, _, _, _⟩) rfl st rfl Try.underlying9 Try.underlying23 Try.underlying5 ?_ ?_; (simp only [maxLen]; omega); (clear st; intro A64 c64 w hc64 st))); (try simp only [Value.cells, List.cons_append, List.nil_append, List.set, spl, putIt, pick, List.map_cons, List.map_nil, List.getElem?_cons_zero, List.getElem?_cons_succ, Option.getD_some, List.drop_succ_cons, List.drop_zero, List.drop_nil, List.append_nil, unB] at st); (try clear hc); have hc := st.facts; (try simp only [factsOf, blkI, blkFacts, rowI, byI, datI, nullI, oldI, penI, rdI, rdAnyI, rdOverI, Nat.zero_add, Nat.reduceAdd, and_true, true_and, and_self] at hc))
        go_loopg [38] n (fun k i wr => ∃ j : Nat, j ≤ n ∧ k = n - j ∧ i = .int .i64 (j : Int) ∧ Own (fun _ => False) (fun _ => True) W [oldI W, blkI b8 [.string ⟨#[]⟩, .string ⟨#[]⟩, .int .i64 0, .slice none 0 0]] wr)
        case atStart => exact ⟨0, by omega, by omega, rfl, st⟩
        case round =>
          obtain ⟨j, hj, rfl, rfl, st'⟩ := hrel
          clear st hc
          have st := st'
          clear st'
          (try simp only [Value.cells, List.cons_append, List.nil_append, List.set, spl, putIt, pick, List.map_cons, List.map_nil, List.getElem?_cons_zero, List.getElem?_cons_succ, Option.getD_some, List.drop_succ_cons, List.drop_zero, List.drop_nil, List.append_nil, unB] at st)
          (try clear hc); have hc := st.facts; (try simp only [factsOf, blkI, blkFacts, rowI, byI, datI, nullI, oldI, penI, rdI, rdAnyI, rdOverI, Nat.zero_add, Nat.reduceAdd, and_true, true_and, and_self] at hc)
          by_cases hjn : j < n
          · obtain ⟨b, off, ha, hcell⟩ := H.out.key (by omega)
            have hjl : j < l.length := by have := HNL.out; omega
            have r0 := st.oldCell (i := 0) get0 (hcell j l[j] (List.getElem?_eq_getElem hjl)).1
            have r1 := st.oldCell (i := 0) get0 (hcell j l[j] (List.getElem?_eq_getElem hjl)).2
            have hne : (l[j].who == o) = false := by
              have hf := List.find?_eq_none.1 HKO.out.1 l[j] (List.getElem_mem hjl)
              simpa using hf
            clear hcell
            generalize l[j] = k at *
            subst ha
            unfold S at r0
            go_wp2_with ((first
                  | ((with_reducible refine wl_alloc ?_ (fun K hK => ?_)); rfl; refine owp_alloc (o := ⟨some 8, _, _, _, _, _⟩) rfl st ?_; apply Exists.intro; apply Exists.intro; refine ⟨?_, ?_⟩; (focus (first | (go_simp; done) | (go_simp; rfl))); (clear st; intro b8 w hb st; clear hb))
                  | ((with_reducible refine wl_store ?_ (fun K hK => ?_)); rfl; refine owp_store rfl st ?_; apply Exists.intro; apply Exists.intro; refine ⟨?_, ?_, ?_⟩; (focus (go_simp; try rfl)); (focus (go_simp; try rfl)); (first | (with_reducible refine ⟨0, _, _, _, _, get0, rfl, rfl, ?_, ?_, ?_, ?_⟩) | (with_reducible refine ⟨1, _, _, _, _, get1, rfl, rfl, ?_, ?_, ?_, ?_⟩) | (with_reducible refine ⟨2, _, _, _, _, get2, rfl, rfl, ?_, ?_, ?_, ?_⟩) | (with_reducible refine ⟨3, _, _, _, _, get3, rfl, rfl, ?_, ?_, ?_, ?_⟩) | (with_reducible refine ⟨4, _, _, _, _, get4, rfl, rfl, ?_, ?_, ?_, ?_⟩)); (kernel_rfl); (simp [Value.cells]); (rfl); (clear st; intro w st))
                  | ((with_reducible refine wl_alloc ?_ (fun K hK => ?_)); rfl; refine owp_alloc (o := ⟨some 12, _, _, _, _, _⟩) rfl st ?_; apply Exists.intro; apply Exists.intro; refine ⟨?_, ?_⟩; (focus (first | (go_simp; done) | (go_simp; rfl))); (clear st; intro b12 w hb st; clear hb))
                  | ((with_reducible refine wl_convert ?_ (fun K hK => ?_)); rfl; (first | (refine owp_bs (o := ⟨some 61, _, _, _, _, _⟩) rfl st 0 get0 rfl Try.underlying23 Try.underlying5 Try.underlying9 ?_) | (refine owp_bs (o := ⟨some 61, _, _, _, _, _⟩) rfl st 1 get1 rfl Try.underlying23 Try.underlying5 Try.underlying9 ?_) | (refine owp_bs (o := ⟨some 61, _, _, _, _, _⟩) rfl st 2 get2 rfl Try.underlying23 Try.underlying5 Try.underlying9 ?_) | (refine owp_bs (o := ⟨some 61, _, _, _, _, _⟩) rfl st 3 get3 rfl Try.underlying23 Try.underlying5 Try.underlying9 ?_) | (refine owp_bs (o := ⟨some 61, _, _, _, _, _⟩) rfl st 4 get4 rfl Try.underlying23 Try.underlying5 Try.underlying9 ?_)))
                  | ((with_reducible refine wl_convert ?_ (fun K hK => ?_)); rfl; refine owp_sb (o := ⟨some 64, _, _, _, _, _⟩) rfl st rfl Try.underlying9 Try.underlying23 Try.underlying5 ?_ ?_; (simp only [maxLen]; omega); (clear st; intro A64 c64 w hc64 st))); (try simp only [Value.cells, List.cons_append, List.nil_append, List.set, spl, putIt, pick, List.map_cons, List.map_nil, List.getElem?_cons_zero, List.getElem?_cons_succ, Option.getD_some, List.drop_succ_cons, List.drop_zero, List.drop_nil, List.append_nil, unB] at st); (try clear hc); have hc := st.facts; (try simp only [factsOf, blkI, blkFacts, rowI, byI, datI, nullI, oldI, penI, rdI, rdAnyI, rdOverI, Nat.zero_add, Nat.reduceAdd, and_true, true_and, and_self] at hc))
            have st' := st.keep [0, 1] (by decide) (by simp)
            go_roundg (n - (j + 1))
            case measure => omega
            case rel => exact ⟨j + 1, by omega, by omega, by go_num, by simpa [pick] using st'⟩
          · obtain rfl : j = n := by omega
            have H1 : Hid (r = 21) := Lib.hid HKO.out.2
            go_wp2_with ((first
                  | ((with_reducible refine wl_alloc ?_ (fun K hK => ?_)); rfl; refine owp_alloc (o := ⟨some 8, _, _, _, _, _⟩) rfl st ?_; apply Exists.intro; apply Exists.intro; refine ⟨?_, ?_⟩; (focus (first | (go_simp; done) | (go_simp; rfl))); (clear st; intro b8 w hb st; clear hb))
                  | ((with_reducible refine wl_store ?_ (fun K hK => ?_)); rfl; refine owp_store rfl st ?_; apply Exists.intro; apply Exists.intro; refine ⟨?_, ?_, ?_⟩; (focus (go_simp; try rfl)); (focus (go_simp; try rfl)); (first | (with_reducible refine ⟨0, _, _, _, _, get0, rfl, rfl, ?_, ?_, ?_, ?_⟩) | (with_reducible refine ⟨1, _, _, _, _, get1, rfl, rfl, ?_, ?_, ?_, ?_⟩) | (with_reducible refine ⟨2, _, _, _, _, get2, rfl, rfl, ?_, ?_, ?_, ?_⟩) | (with_reducible refine ⟨3, _, _, _, _, get3, rfl, rfl, ?_, ?_, ?_, ?_⟩) | (with_reducible refine ⟨4, _, _, _, _, get4, rfl, rfl, ?_, ?_, ?_, ?_⟩)); (kernel_rfl); (simp [Value.cells]); (rfl); (clear st; intro w st))
                  | ((with_reducible refine wl_alloc ?_ (fun K hK => ?_)); rfl; refine owp_alloc (o := ⟨some 12, _, _, _, _, _⟩) rfl st ?_; apply Exists.intro; apply Exists.intro; refine ⟨?_, ?_⟩; (focus (first | (go_simp; done) | (go_simp; rfl))); (clear st; intro b12 w hb st; clear hb))
                  | ((with_reducible refine wl_convert ?_ (fun K hK => ?_)); rfl; (first | (refine owp_bs (o := ⟨some 61, _, _, _, _, _⟩) rfl st 0 get0 rfl Try.underlying23 Try.underlying5 Try.underlying9 ?_) | (refine owp_bs (o := ⟨some 61, _, _, _, _, _⟩) rfl st 1 get1 rfl Try.underlying23 Try.underlying5 Try.underlying9 ?_) | (refine owp_bs (o := ⟨some 61, _, _, _, _, _⟩) rfl st 2 get2 rfl Try.underlying23 Try.underlying5 Try.underlying9 ?_) | (refine owp_bs (o := ⟨some 61, _, _, _, _, _⟩) rfl st 3 get3 rfl Try.underlying23 Try.underlying5 Try.underlying9 ?_) | (refine owp_bs (o := ⟨some 61, _, _, _, _, _⟩) rfl st 4 get4 rfl Try.underlying23 Try.underlying5 Try.underlying9 ?_)))
                  | ((with_reducible refine wl_convert ?_ (fun K hK => ?_)); rfl; refine owp_sb (o := ⟨some 64, _, _, _, _, _⟩) rfl st rfl Try.underlying9 Try.underlying23 Try.underlying5 ?_ ?_; (simp only [maxLen]; omega); (clear st; intro A64 c64 w hc64 st))); (try simp only [Value.cells, List.cons_append, List.nil_append, List.set, spl, putIt, pick, List.map_cons, List.map_nil, List.getElem?_cons_zero, List.getElem?_cons_succ, Option.getD_some, List.drop_succ_cons, List.drop_zero, List.drop_nil, List.append_nil, unB] at st); (try clear hc); have hc := st.facts; (try simp only [factsOf, blkI, blkFacts, rowI, byI, datI, nullI, oldI, penI, rdI, rdAnyI, rdOverI, Nat.zero_add, Nat.reduceAdd, and_true, true_and, and_self] at hc))
            (try simp only [Exit.inBlock, Exit.then])
            refine bodyPost_cell2 rfl rfl (st.blk (i := 1) get1) Try.underlying25 rfl (by kernel_rfl) rfl ?_
            exact ⟨by rw [H1.out]; rfl, st.ext0⟩
  · have H1 : Hid (r = ke) := Lib.hid (by rw [HM.out, if_pos k0])
    have hb : (ke != 0) = true := by simpa using k0
    have K0 := Lib.hid k0
    clear k0
    go_wp2_with ((first
          | ((with_reducible refine wl_alloc ?_ (fun K hK => ?_)); rfl; refine owp_alloc (o := ⟨some 8, _, _, _, _, _⟩) rfl st ?_; apply Exists.intro; apply Exists.intro; refine ⟨?_, ?_⟩; (focus (first | (go_simp; done) | (go_simp; rfl))); (clear st; intro b8 w hb st; clear hb))
          | ((with_reducible refine wl_store ?_ (fun K hK => ?_)); rfl; refine owp_store rfl st ?_; apply Exists.intro; apply Exists.intro; refine ⟨?_, ?_, ?_⟩; (focus (go_simp; try rfl)); (focus (go_simp; try rfl)); (first | (with_reducible refine ⟨0, _, _, _, _, get0, rfl, rfl, ?_, ?_, ?_, ?_⟩) | (with_reducible refine ⟨1, _, _, _, _, get1, rfl, rfl, ?_, ?_, ?_, ?_⟩) | (with_reducible refine ⟨2, _, _, _, _, get2, rfl, rfl, ?_, ?_, ?_, ?_⟩) | (with_reducible refine ⟨3, _, _, _, _, get3, rfl, rfl, ?_, ?_, ?_, ?_⟩) | (with_reducible refine ⟨4, _, _, _, _, get4, rfl, rfl, ?_, ?_, ?_, ?_⟩)); (kernel_rfl); (simp [Value.cells]); (rfl); (clear st; intro w st))
          | ((with_reducible refine wl_alloc ?_ (fun K hK => ?_)); rfl; refine owp_alloc (o := ⟨some 12, _, _, _, _, _⟩) rfl st ?_; apply Exists.intro; apply Exists.intro; refine ⟨?_, ?_⟩; (focus (first | (go_simp; done) | (go_simp; rfl))); (clear st; intro b12 w hb st; clear hb))
          | ((with_reducible refine wl_convert ?_ (fun K hK => ?_)); rfl; (first | (refine owp_bs (o := ⟨some 61, _, _, _, _, _⟩) rfl st 0 get0 rfl Try.underlying23 Try.underlying5 Try.underlying9 ?_) | (refine owp_bs (o := ⟨some 61, _, _, _, _, _⟩) rfl st 1 get1 rfl Try.underlying23 Try.underlying5 Try.underlying9 ?_) | (refine owp_bs (o := ⟨some 61, _, _, _, _, _⟩) rfl st 2 get2 rfl Try.underlying23 Try.underlying5 Try.underlying9 ?_) | (refine owp_bs (o := ⟨some 61, _, _, _, _, _⟩) rfl st 3 get3 rfl Try.underlying23 Try.underlying5 Try.underlying9 ?_) | (refine owp_bs (o := ⟨some 61, _, _, _, _, _⟩) rfl st 4 get4 rfl Try.underlying23 Try.underlying5 Try.underlying9 ?_)))
          | ((with_reducible refine wl_convert ?_ (fun K hK => ?_)); rfl; refine owp_sb (o := ⟨some 64, _, _, _, _, _⟩) rfl st rfl Try.underlying9 Try.underlying23 Try.underlying5 ?_ ?_; (simp only [maxLen]; omega); (clear st; intro A64 c64 w hc64 st))); (try simp only [Value.cells, List.cons_append, List.nil_append, List.set, spl, putIt, pick, List.map_cons, List.map_nil, List.getElem?_cons_zero, List.getElem?_cons_succ, Option.getD_some, List.drop_succ_cons, List.drop_zero, List.drop_nil, List.append_nil, unB] at st); (try clear hc); have hc := st.facts; (try simp only [factsOf, blkI, blkFacts, rowI, byI, datI, nullI, oldI, penI, rdI, rdAnyI, rdOverI, Nat.zero_add, Nat.reduceAdd, and_true, true_and, and_self] at hc))
    (try simp only [Exit.inBlock, Exit.then])
    refine bodyPost_cell2 rfl rfl (st.blk (i := 1) get1) Try.underlying25 rfl (by kernel_rfl) rfl ?_
    exact ⟨by rw [H1.out]; rfl, st.ext0⟩
end Go.Proofs.Ytpenjnccdachaaa
