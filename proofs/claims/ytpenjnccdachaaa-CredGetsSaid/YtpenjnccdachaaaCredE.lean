/- The reference's order of credentials. -/
import Derived.Test.YtpenjnccdachaaaCredD
namespace Go.Proofs.Ytpenjnccdachaaa
set_option linter.unusedSimpArgs false
set_option linter.unusedVariables false
open Go Go.RowKit
def credCmp (a b : CredT) : Int := cmp2 (credBy a) (credBy b)
set_option maxRecDepth 100000 in
set_option maxHeartbeats 1000000 in
theorem refCredCompare_any (x y : CredT) (W : World) (hx : CredL 100000 x) (hy : CredL 100000 y) :
    Calls Try.prog 77 #[cV x, cV y] W fun e w' => e = .returned (.int .i64 (credCmp x y)) ∧ Ext W w' := by
  have HX := Lib.hid (fun W => refCredBy_any x W hx)
  have HY := Lib.hid (fun W => refCredBy_any y W hy)
  have HC : Hid (credCmp x y = cmp2 (credBy x) (credBy y)) := Lib.hid rfl
  clear hx hy
  generalize credBy x = p at *
  generalize credBy y = q at *
  generalize credCmp x y = r at *
  obtain ⟨k, ⟨ho, hd⟩, nw, ⟨bo, bd⟩, ⟨co, cd⟩, we⟩ := x
  obtain ⟨k', ⟨ho', hd'⟩, nw', ⟨bo', bd'⟩, ⟨co', cd'⟩, we'⟩ := y
  have st := Own.startOld W
  unfold cV S at *
  simp only at HX HY
  (try simp only [Value.cells, List.cons_append, List.nil_append, List.set, spl, putIt, pick, List.map_cons, List.map_nil, List.getElem?_cons_zero, List.getElem?_cons_succ, Option.getD_some, List.drop_succ_cons, List.drop_zero, List.drop_nil, List.append_nil, unB] at st)
  (try clear hc); have hc := st.facts; (try simp only [factsOf, blkI, blkFacts, rowI, byI, datI, nullI, oldI, penI, rdI, rdAnyI, rdOverI, Nat.zero_add, Nat.reduceAdd, and_true, true_and, and_self] at hc)
  go_enter Try.func77, Try.ntmps77
  go_wp2_with ((first
        | ((with_reducible refine wl_box ?_ (fun K hK => ?_)); rfl; refine owp_box (o := ⟨some 2, _, _, _, _, _⟩) rfl st ?_; apply Exists.intro; refine ⟨?_, ?_⟩; (focus (go_simp; try rfl)); (clear st; intro b2 w hb st; clear hb))
        | ((with_reducible refine wl_box ?_ (fun K hK => ?_)); rfl; refine owp_box (o := ⟨some 3, _, _, _, _, _⟩) rfl st ?_; apply Exists.intro; refine ⟨?_, ?_⟩; (focus (go_simp; try rfl)); (clear st; intro b3 w hb st; clear hb))); (try simp only [Value.cells, List.cons_append, List.nil_append, List.set, spl, putIt, pick, List.map_cons, List.map_nil, List.getElem?_cons_zero, List.getElem?_cons_succ, Option.getD_some, List.drop_succ_cons, List.drop_zero, List.drop_nil, List.append_nil, unB] at st); (try clear hc); have hc := st.facts; (try simp only [factsOf, blkI, blkFacts, rowI, byI, datI, nullI, oldI, penI, rdI, rdAnyI, rdOverI, Nat.zero_add, Nat.reduceAdd, and_true, true_and, and_self] at hc))
  refine (HX.out _).mono ?_
  rintro en w ⟨rfl, hx⟩
  replace st := st.ext hx
  clear hx
  (try clear hc); have hc := st.facts; (try simp only [factsOf, blkI, blkFacts, rowI, byI, datI, nullI, oldI, penI, rdI, rdAnyI, rdOverI, Nat.zero_add, Nat.reduceAdd, and_true, true_and, and_self] at hc)
  go_wp2_with fail
  refine (HY.out _).mono ?_
  rintro en w ⟨rfl, hx⟩
  replace st := st.ext hx
  clear hx
  (try clear hc); have hc := st.facts; (try simp only [factsOf, blkI, blkFacts, rowI, byI, datI, nullI, oldI, penI, rdI, rdAnyI, rdOverI, Nat.zero_add, Nat.reduceAdd, and_true, true_and, and_self] at hc)
  cases h1 : strLt p q with
  | true =>
    have H1 := Lib.hid h1
    have hb : Op.bytesLess p q = true := h1
    clear h1
    go_wp2_with fail
    go_ret
    exact ⟨by rw [HC.out]; simp [cmp2, H1.out], st.ext0⟩
  | false =>
    have H1 := Lib.hid h1
    have hb : Op.bytesLess p q = false := h1
    clear h1
    cases h2 : strLt q p with
    | true =>
      have H2 := Lib.hid h2
      have hb2 : (!(Op.bytesLess p q || p == q)) = true := by
        rw [hb, (strLt_asymm h2).2]; rfl
      have hb3 : (p == q) = false := (strLt_asymm h2).2
      have hb4 : (!(p == q)) = true := by rw [hb3]; rfl
      clear h2
      go_wp2_with fail
      go_ret
      exact ⟨by rw [HC.out]; simp [cmp2, H1.out, H2.out], st.ext0⟩
    | false =>
      have H2 := Lib.hid h2
      have hpq : p = q := by
        rcases strLt_tri p q with h | h | h
        · rw [H1.out] at h; cases h
        · exact h
        · rw [H2.out] at h; cases h
      subst hpq
      have hb2 : (!(Op.bytesLess p p || p == p)) = false := by simp
      have hb4 : (!(p == p)) = false := by simp
      clear h2
      go_wp2_with fail
      go_ret
      exact ⟨by rw [HC.out]; simp [cmp2, H1.out, H2.out], st.ext0⟩
end Go.Proofs.Ytpenjnccdachaaa
