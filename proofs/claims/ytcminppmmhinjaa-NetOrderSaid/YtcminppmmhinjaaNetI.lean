/- NetOrder. -/
import Derived.Test.YtcminppmmhinjaaNetF
import Derived.Test.YtcminppmmhinjaaQueue
namespace Go.Proofs.Ytcminppmmhinjaa
set_option linter.unusedSimpArgs false
set_option linter.unusedVariables false
open Go Go.RowKit Go.Conc
structure BoT where
  b : Bool
deriving Inhabited
instance fltBo : Flt BoT := ⟨1, fun x => [.bool x.b], fun _ => rfl, by decide, fun x u hu => by simp at hu; subst hu; rfl⟩
def strV (x : List UInt8) : Value := .string ⟨x.toArray⟩
theorem Fl.one1 {α : Type} [Flt α] (v : α → Value) (hk : Flt.k α = 1) (hv : ∀ x, Flt.cells x = [v x]) {w : World} {a : Option Addr} {n : Nat} {xs : List α} (h : Fl w a n xs) (h0 : 0 < n) : ∃ b off, a = some ⟨b, off, none⟩ ∧ ∀ (j : Nat) (x : α), xs[j]? = some x → w.cell? ⟨b, off + j, none⟩ = some (v x) := by
  obtain ⟨b, off, rfl, hc⟩ := h.2 h0
  refine ⟨b, off, rfl, fun j x hj => ?_⟩
  have := hc j x hj 0 (v x) (by rw [hv]; rfl)
  rw [hk] at this
  simpa using this
def cellI (p : Addr) (v : Value) : It where
  P _ s w := s p.block ∧ w.cell? p = some v
  st := fun ⟨h1, h2⟩ hag => ⟨h1, by rw [World.cell?_of_block (hag _ (.inr h1))]; exact h2⟩
  facts w := w.cell? p = some v
  ok := fun h => h.2
theorem Own.addCell {fr al : Nat → Prop} {w0 w W : World} {L : List It} (st : Own fr al w0 L w) {i : Nat} (hi : L[i]? = some (oldI W)) {p : Addr} {v : Value} (h : W.cell? p = some v) : Own fr al w0 (L ++ [cellI p v]) w :=
  st.share hi fun e s h1 => ⟨h1.1 _ (World.block_lt_of_cell? W p h), by rw [World.cell?_of_block (w := W) (h1.2.2 _ (World.block_lt_of_cell? W p h))]; exact h⟩
set_option maxRecDepth 100000 in
set_option maxHeartbeats 8000000 in
theorem netOrder_all (a : Option Addr) (n c : Nat) (l : List FrT) (a' : Option Addr) (n' c' : Nat) (tk : List BoT) (W : World) (h : Fl W a n l) (hk : ∀ x ∈ l, (x.n ≤ x.c ∧ x.c ≤ maxLen) ∧ By W x.a x.n x.xs) (h' : Fl W a' n' tk) (hn' : n' ≤ maxLen) :
    Calls Try.prog 4 #[.slice a n c, .slice a' n' c'] W fun e w' => e = .returned (.bool true) ∧ Ext W w' := by
  have H := Lib.hid h
  have HN : Hid (n = l.length) := Lib.hid h.1
  have HK := Lib.hid hk
  have H' := Lib.hid h'
  have HN' : Hid (n' = tk.length) := Lib.hid h'.1
  have hnm' : n' ≤ 9223372036854775807 := by simp only [maxLen] at hn'; omega
  have st := Own.startOld W
  clear h hk hn' h'
  (try simp only [Value.cells, List.cons_append, List.nil_append, List.set, spl, putIt, pick, List.map_cons, List.map_nil, List.getElem?_cons_zero, List.getElem?_cons_succ, Option.getD_some, List.drop_succ_cons, List.drop_zero, List.drop_nil, List.append_nil, unB] at st)
  (try clear hc); have hc := st.facts; (try simp only [factsOf, blkI, blkFacts, rowI, byI, datI, nullI, oldI, penI, rdI, rdAnyI, rdOverI, cellI, Nat.zero_add, Nat.reduceAdd, and_true, true_and, and_self] at hc)
  go_enter Try.func4, Try.ntmps4
  go_wp2_with ((first
        | ((with_reducible refine wl_convert ?_ (fun K hK => ?_)); rfl; (first | (refine owp_bs (o := ⟨some 36, _, _, _, _, _⟩) rfl st 0 get0 rfl Try.underlying30 Try.underlying5 Try.underlying9 ?_) | (refine owp_bs (o := ⟨some 36, _, _, _, _, _⟩) rfl st 1 get1 rfl Try.underlying30 Try.underlying5 Try.underlying9 ?_) | (refine owp_bs (o := ⟨some 36, _, _, _, _, _⟩) rfl st 2 get2 rfl Try.underlying30 Try.underlying5 Try.underlying9 ?_) | (refine owp_bs (o := ⟨some 36, _, _, _, _, _⟩) rfl st 3 get3 rfl Try.underlying30 Try.underlying5 Try.underlying9 ?_) | (refine owp_bs (o := ⟨some 36, _, _, _, _, _⟩) rfl st 4 get4 rfl Try.underlying30 Try.underlying5 Try.underlying9 ?_) | (refine owp_bs (o := ⟨some 36, _, _, _, _, _⟩) rfl st 5 get5 rfl Try.underlying30 Try.underlying5 Try.underlying9 ?_) | (refine owp_bs (o := ⟨some 36, _, _, _, _, _⟩) rfl st 6 get6 rfl Try.underlying30 Try.underlying5 Try.underlying9 ?_) | (refine owp_bs (o := ⟨some 36, _, _, _, _, _⟩) rfl st 7 get7 rfl Try.underlying30 Try.underlying5 Try.underlying9 ?_)))
        | ((with_reducible refine wl_buildSlice ?_ (fun K hK => ?_)); rfl; refine owp_buildSlice (o := ⟨some 37, _, _, _, _, _⟩) rfl st ?_; apply Exists.intro; apply Exists.intro; apply Exists.intro; apply Exists.intro; refine ⟨?_, ?_⟩; (focus (go_simp; (first | done | exact ⟨⟨rfl, rfl⟩, rfl⟩ | rfl))); (clear st; intro b37 w hb st; clear hb))
        | ((with_reducible refine wl_convert ?_ (fun K hK => ?_)); rfl; (first | (refine owp_bs (o := ⟨some 66, _, _, _, _, _⟩) rfl st 0 get0 rfl Try.underlying30 Try.underlying5 Try.underlying9 ?_) | (refine owp_bs (o := ⟨some 66, _, _, _, _, _⟩) rfl st 1 get1 rfl Try.underlying30 Try.underlying5 Try.underlying9 ?_) | (refine owp_bs (o := ⟨some 66, _, _, _, _, _⟩) rfl st 2 get2 rfl Try.underlying30 Try.underlying5 Try.underlying9 ?_) | (refine owp_bs (o := ⟨some 66, _, _, _, _, _⟩) rfl st 3 get3 rfl Try.underlying30 Try.underlying5 Try.underlying9 ?_) | (refine owp_bs (o := ⟨some 66, _, _, _, _, _⟩) rfl st 4 get4 rfl Try.underlying30 Try.underlying5 Try.underlying9 ?_) | (refine owp_bs (o := ⟨some 66, _, _, _, _, _⟩) rfl st 5 get5 rfl Try.underlying30 Try.underlying5 Try.underlying9 ?_) | (refine owp_bs (o := ⟨some 66, _, _, _, _, _⟩) rfl st 6 get6 rfl Try.underlying30 Try.underlying5 Try.underlying9 ?_) | (refine owp_bs (o := ⟨some 66, _, _, _, _, _⟩) rfl st 7 get7 rfl Try.underlying30 Try.underlying5 Try.underlying9 ?_)))
        | ((with_reducible refine wl_convert ?_ (fun K hK => ?_)); rfl; (first | (refine owp_bs (o := ⟨some 90, _, _, _, _, _⟩) rfl st 0 get0 rfl Try.underlying30 Try.underlying5 Try.underlying9 ?_) | (refine owp_bs (o := ⟨some 90, _, _, _, _, _⟩) rfl st 1 get1 rfl Try.underlying30 Try.underlying5 Try.underlying9 ?_) | (refine owp_bs (o := ⟨some 90, _, _, _, _, _⟩) rfl st 2 get2 rfl Try.underlying30 Try.underlying5 Try.underlying9 ?_) | (refine owp_bs (o := ⟨some 90, _, _, _, _, _⟩) rfl st 3 get3 rfl Try.underlying30 Try.underlying5 Try.underlying9 ?_) | (refine owp_bs (o := ⟨some 90, _, _, _, _, _⟩) rfl st 4 get4 rfl Try.underlying30 Try.underlying5 Try.underlying9 ?_) | (refine owp_bs (o := ⟨some 90, _, _, _, _, _⟩) rfl st 5 get5 rfl Try.underlying30 Try.underlying5 Try.underlying9 ?_) | (refine owp_bs (o := ⟨some 90, _, _, _, _, _⟩) rfl st 6 get6 rfl Try.underlying30 Try.underlying5 Try.underlying9 ?_) | (refine owp_bs (o := ⟨some 90, _, _, _, _, _⟩) rfl st 7 get7 rfl Try.underlying30 Try.underlying5 Try.underlying9 ?_)))); (try simp only [Value.cells, List.cons_append, List.nil_append, List.set, spl, putIt, pick, List.map_cons, List.map_nil, List.getElem?_cons_zero, List.getElem?_cons_succ, Option.getD_some, List.drop_succ_cons, List.drop_zero, List.drop_nil, List.append_nil, unB] at st); (try clear hc); have hc := st.facts; (try simp only [factsOf, blkI, blkFacts, rowI, byI, datI, nullI, oldI, penI, rdI, rdAnyI, rdOverI, cellI, Nat.zero_add, Nat.reduceAdd, and_true, true_and, and_self] at hc))
  refine (netFirst_any _).mono ?_
  rintro en w ⟨rfl, hx⟩
  replace st := st.ext hx
  clear hx
  (try clear hc); have hc := st.facts; (try simp only [factsOf, blkI, blkFacts, rowI, byI, datI, nullI, oldI, penI, rdI, rdAnyI, rdOverI, cellI, Nat.zero_add, Nat.reduceAdd, and_true, true_and, and_self] at hc)
  by_cases hn2 : 200 < n
  · skip
    go_wp2_with ((first
          | ((with_reducible refine wl_convert ?_ (fun K hK => ?_)); rfl; (first | (refine owp_bs (o := ⟨some 36, _, _, _, _, _⟩) rfl st 0 get0 rfl Try.underlying30 Try.underlying5 Try.underlying9 ?_) | (refine owp_bs (o := ⟨some 36, _, _, _, _, _⟩) rfl st 1 get1 rfl Try.underlying30 Try.underlying5 Try.underlying9 ?_) | (refine owp_bs (o := ⟨some 36, _, _, _, _, _⟩) rfl st 2 get2 rfl Try.underlying30 Try.underlying5 Try.underlying9 ?_) | (refine owp_bs (o := ⟨some 36, _, _, _, _, _⟩) rfl st 3 get3 rfl Try.underlying30 Try.underlying5 Try.underlying9 ?_) | (refine owp_bs (o := ⟨some 36, _, _, _, _, _⟩) rfl st 4 get4 rfl Try.underlying30 Try.underlying5 Try.underlying9 ?_) | (refine owp_bs (o := ⟨some 36, _, _, _, _, _⟩) rfl st 5 get5 rfl Try.underlying30 Try.underlying5 Try.underlying9 ?_) | (refine owp_bs (o := ⟨some 36, _, _, _, _, _⟩) rfl st 6 get6 rfl Try.underlying30 Try.underlying5 Try.underlying9 ?_) | (refine owp_bs (o := ⟨some 36, _, _, _, _, _⟩) rfl st 7 get7 rfl Try.underlying30 Try.underlying5 Try.underlying9 ?_)))
          | ((with_reducible refine wl_buildSlice ?_ (fun K hK => ?_)); rfl; refine owp_buildSlice (o := ⟨some 37, _, _, _, _, _⟩) rfl st ?_; apply Exists.intro; apply Exists.intro; apply Exists.intro; apply Exists.intro; refine ⟨?_, ?_⟩; (focus (go_simp; (first | done | exact ⟨⟨rfl, rfl⟩, rfl⟩ | rfl))); (clear st; intro b37 w hb st; clear hb))
          | ((with_reducible refine wl_convert ?_ (fun K hK => ?_)); rfl; (first | (refine owp_bs (o := ⟨some 66, _, _, _, _, _⟩) rfl st 0 get0 rfl Try.underlying30 Try.underlying5 Try.underlying9 ?_) | (refine owp_bs (o := ⟨some 66, _, _, _, _, _⟩) rfl st 1 get1 rfl Try.underlying30 Try.underlying5 Try.underlying9 ?_) | (refine owp_bs (o := ⟨some 66, _, _, _, _, _⟩) rfl st 2 get2 rfl Try.underlying30 Try.underlying5 Try.underlying9 ?_) | (refine owp_bs (o := ⟨some 66, _, _, _, _, _⟩) rfl st 3 get3 rfl Try.underlying30 Try.underlying5 Try.underlying9 ?_) | (refine owp_bs (o := ⟨some 66, _, _, _, _, _⟩) rfl st 4 get4 rfl Try.underlying30 Try.underlying5 Try.underlying9 ?_) | (refine owp_bs (o := ⟨some 66, _, _, _, _, _⟩) rfl st 5 get5 rfl Try.underlying30 Try.underlying5 Try.underlying9 ?_) | (refine owp_bs (o := ⟨some 66, _, _, _, _, _⟩) rfl st 6 get6 rfl Try.underlying30 Try.underlying5 Try.underlying9 ?_) | (refine owp_bs (o := ⟨some 66, _, _, _, _, _⟩) rfl st 7 get7 rfl Try.underlying30 Try.underlying5 Try.underlying9 ?_)))
          | ((with_reducible refine wl_convert ?_ (fun K hK => ?_)); rfl; (first | (refine owp_bs (o := ⟨some 90, _, _, _, _, _⟩) rfl st 0 get0 rfl Try.underlying30 Try.underlying5 Try.underlying9 ?_) | (refine owp_bs (o := ⟨some 90, _, _, _, _, _⟩) rfl st 1 get1 rfl Try.underlying30 Try.underlying5 Try.underlying9 ?_) | (refine owp_bs (o := ⟨some 90, _, _, _, _, _⟩) rfl st 2 get2 rfl Try.underlying30 Try.underlying5 Try.underlying9 ?_) | (refine owp_bs (o := ⟨some 90, _, _, _, _, _⟩) rfl st 3 get3 rfl Try.underlying30 Try.underlying5 Try.underlying9 ?_) | (refine owp_bs (o := ⟨some 90, _, _, _, _, _⟩) rfl st 4 get4 rfl Try.underlying30 Try.underlying5 Try.underlying9 ?_) | (refine owp_bs (o := ⟨some 90, _, _, _, _, _⟩) rfl st 5 get5 rfl Try.underlying30 Try.underlying5 Try.underlying9 ?_) | (refine owp_bs (o := ⟨some 90, _, _, _, _, _⟩) rfl st 6 get6 rfl Try.underlying30 Try.underlying5 Try.underlying9 ?_) | (refine owp_bs (o := ⟨some 90, _, _, _, _, _⟩) rfl st 7 get7 rfl Try.underlying30 Try.underlying5 Try.underlying9 ?_)))); (try simp only [Value.cells, List.cons_append, List.nil_append, List.set, spl, putIt, pick, List.map_cons, List.map_nil, List.getElem?_cons_zero, List.getElem?_cons_succ, Option.getD_some, List.drop_succ_cons, List.drop_zero, List.drop_nil, List.append_nil, unB] at st); (try clear hc); have hc := st.facts; (try simp only [factsOf, blkI, blkFacts, rowI, byI, datI, nullI, oldI, penI, rdI, rdAnyI, rdOverI, cellI, Nat.zero_add, Nat.reduceAdd, and_true, true_and, and_self] at hc))
    go_ret
    exact ⟨rfl, st.ext0⟩
  go_wp2_with ((first
        | ((with_reducible refine wl_convert ?_ (fun K hK => ?_)); rfl; (first | (refine owp_bs (o := ⟨some 36, _, _, _, _, _⟩) rfl st 0 get0 rfl Try.underlying30 Try.underlying5 Try.underlying9 ?_) | (refine owp_bs (o := ⟨some 36, _, _, _, _, _⟩) rfl st 1 get1 rfl Try.underlying30 Try.underlying5 Try.underlying9 ?_) | (refine owp_bs (o := ⟨some 36, _, _, _, _, _⟩) rfl st 2 get2 rfl Try.underlying30 Try.underlying5 Try.underlying9 ?_) | (refine owp_bs (o := ⟨some 36, _, _, _, _, _⟩) rfl st 3 get3 rfl Try.underlying30 Try.underlying5 Try.underlying9 ?_) | (refine owp_bs (o := ⟨some 36, _, _, _, _, _⟩) rfl st 4 get4 rfl Try.underlying30 Try.underlying5 Try.underlying9 ?_) | (refine owp_bs (o := ⟨some 36, _, _, _, _, _⟩) rfl st 5 get5 rfl Try.underlying30 Try.underlying5 Try.underlying9 ?_) | (refine owp_bs (o := ⟨some 36, _, _, _, _, _⟩) rfl st 6 get6 rfl Try.underlying30 Try.underlying5 Try.underlying9 ?_) | (refine owp_bs (o := ⟨some 36, _, _, _, _, _⟩) rfl st 7 get7 rfl Try.underlying30 Try.underlying5 Try.underlying9 ?_)))
        | ((with_reducible refine wl_buildSlice ?_ (fun K hK => ?_)); rfl; refine owp_buildSlice (o := ⟨some 37, _, _, _, _, _⟩) rfl st ?_; apply Exists.intro; apply Exists.intro; apply Exists.intro; apply Exists.intro; refine ⟨?_, ?_⟩; (focus (go_simp; (first | done | exact ⟨⟨rfl, rfl⟩, rfl⟩ | rfl))); (clear st; intro b37 w hb st; clear hb))
        | ((with_reducible refine wl_convert ?_ (fun K hK => ?_)); rfl; (first | (refine owp_bs (o := ⟨some 66, _, _, _, _, _⟩) rfl st 0 get0 rfl Try.underlying30 Try.underlying5 Try.underlying9 ?_) | (refine owp_bs (o := ⟨some 66, _, _, _, _, _⟩) rfl st 1 get1 rfl Try.underlying30 Try.underlying5 Try.underlying9 ?_) | (refine owp_bs (o := ⟨some 66, _, _, _, _, _⟩) rfl st 2 get2 rfl Try.underlying30 Try.underlying5 Try.underlying9 ?_) | (refine owp_bs (o := ⟨some 66, _, _, _, _, _⟩) rfl st 3 get3 rfl Try.underlying30 Try.underlying5 Try.underlying9 ?_) | (refine owp_bs (o := ⟨some 66, _, _, _, _, _⟩) rfl st 4 get4 rfl Try.underlying30 Try.underlying5 Try.underlying9 ?_) | (refine owp_bs (o := ⟨some 66, _, _, _, _, _⟩) rfl st 5 get5 rfl Try.underlying30 Try.underlying5 Try.underlying9 ?_) | (refine owp_bs (o := ⟨some 66, _, _, _, _, _⟩) rfl st 6 get6 rfl Try.underlying30 Try.underlying5 Try.underlying9 ?_) | (refine owp_bs (o := ⟨some 66, _, _, _, _, _⟩) rfl st 7 get7 rfl Try.underlying30 Try.underlying5 Try.underlying9 ?_)))
        | ((with_reducible refine wl_convert ?_ (fun K hK => ?_)); rfl; (first | (refine owp_bs (o := ⟨some 90, _, _, _, _, _⟩) rfl st 0 get0 rfl Try.underlying30 Try.underlying5 Try.underlying9 ?_) | (refine owp_bs (o := ⟨some 90, _, _, _, _, _⟩) rfl st 1 get1 rfl Try.underlying30 Try.underlying5 Try.underlying9 ?_) | (refine owp_bs (o := ⟨some 90, _, _, _, _, _⟩) rfl st 2 get2 rfl Try.underlying30 Try.underlying5 Try.underlying9 ?_) | (refine owp_bs (o := ⟨some 90, _, _, _, _, _⟩) rfl st 3 get3 rfl Try.underlying30 Try.underlying5 Try.underlying9 ?_) | (refine owp_bs (o := ⟨some 90, _, _, _, _, _⟩) rfl st 4 get4 rfl Try.underlying30 Try.underlying5 Try.underlying9 ?_) | (refine owp_bs (o := ⟨some 90, _, _, _, _, _⟩) rfl st 5 get5 rfl Try.underlying30 Try.underlying5 Try.underlying9 ?_) | (refine owp_bs (o := ⟨some 90, _, _, _, _, _⟩) rfl st 6 get6 rfl Try.underlying30 Try.underlying5 Try.underlying9 ?_) | (refine owp_bs (o := ⟨some 90, _, _, _, _, _⟩) rfl st 7 get7 rfl Try.underlying30 Try.underlying5 Try.underlying9 ?_)))); (try simp only [Value.cells, List.cons_append, List.nil_append, List.set, spl, putIt, pick, List.map_cons, List.map_nil, List.getElem?_cons_zero, List.getElem?_cons_succ, Option.getD_some, List.drop_succ_cons, List.drop_zero, List.drop_nil, List.append_nil, unB] at st); (try clear hc); have hc := st.facts; (try simp only [factsOf, blkI, blkFacts, rowI, byI, datI, nullI, oldI, penI, rdI, rdAnyI, rdOverI, cellI, Nat.zero_add, Nat.reduceAdd, and_true, true_and, and_self] at hc))
  obtain ⟨fr', al', st', back⟩ := st.sub [] (by decide) (by simp)
  (try simp only [Value.cells, List.cons_append, List.nil_append, List.set, spl, putIt, pick, List.map_cons, List.map_nil, List.getElem?_cons_zero, List.getElem?_cons_succ, Option.getD_some, List.drop_succ_cons, List.drop_zero, List.drop_nil, List.append_nil, unB] at st')
  refine (netNew_c st').mono ?_
  clear st'
  rintro en w ⟨p, c0, c1, rfl, st'⟩
  replace st := back _ _ (by simp) st'
  clear back st'
  (try simp only [Value.cells, List.cons_append, List.nil_append, List.set, spl, putIt, pick, List.map_cons, List.map_nil, List.getElem?_cons_zero, List.getElem?_cons_succ, Option.getD_some, List.drop_succ_cons, List.drop_zero, List.drop_nil, List.append_nil, unB] at st)
  (try clear hc); have hc := st.facts; (try simp only [factsOf, blkI, blkFacts, rowI, byI, datI, nullI, oldI, penI, rdI, rdAnyI, rdOverI, cellI, Nat.zero_add, Nat.reduceAdd, and_true, true_and, and_self] at hc)
  replace st := st.qNil 9
  simp only [List.cons_append, List.nil_append] at st
  go_wp2_with ((first
        | ((with_reducible refine wl_convert ?_ (fun K hK => ?_)); rfl; (first | (refine owp_bs (o := ⟨some 36, _, _, _, _, _⟩) rfl st 0 get0 rfl Try.underlying30 Try.underlying5 Try.underlying9 ?_) | (refine owp_bs (o := ⟨some 36, _, _, _, _, _⟩) rfl st 1 get1 rfl Try.underlying30 Try.underlying5 Try.underlying9 ?_) | (refine owp_bs (o := ⟨some 36, _, _, _, _, _⟩) rfl st 2 get2 rfl Try.underlying30 Try.underlying5 Try.underlying9 ?_) | (refine owp_bs (o := ⟨some 36, _, _, _, _, _⟩) rfl st 3 get3 rfl Try.underlying30 Try.underlying5 Try.underlying9 ?_) | (refine owp_bs (o := ⟨some 36, _, _, _, _, _⟩) rfl st 4 get4 rfl Try.underlying30 Try.underlying5 Try.underlying9 ?_) | (refine owp_bs (o := ⟨some 36, _, _, _, _, _⟩) rfl st 5 get5 rfl Try.underlying30 Try.underlying5 Try.underlying9 ?_) | (refine owp_bs (o := ⟨some 36, _, _, _, _, _⟩) rfl st 6 get6 rfl Try.underlying30 Try.underlying5 Try.underlying9 ?_) | (refine owp_bs (o := ⟨some 36, _, _, _, _, _⟩) rfl st 7 get7 rfl Try.underlying30 Try.underlying5 Try.underlying9 ?_)))
        | ((with_reducible refine wl_buildSlice ?_ (fun K hK => ?_)); rfl; refine owp_buildSlice (o := ⟨some 37, _, _, _, _, _⟩) rfl st ?_; apply Exists.intro; apply Exists.intro; apply Exists.intro; apply Exists.intro; refine ⟨?_, ?_⟩; (focus (go_simp; (first | done | exact ⟨⟨rfl, rfl⟩, rfl⟩ | rfl))); (clear st; intro b37 w hb st; clear hb))
        | ((with_reducible refine wl_convert ?_ (fun K hK => ?_)); rfl; (first | (refine owp_bs (o := ⟨some 66, _, _, _, _, _⟩) rfl st 0 get0 rfl Try.underlying30 Try.underlying5 Try.underlying9 ?_) | (refine owp_bs (o := ⟨some 66, _, _, _, _, _⟩) rfl st 1 get1 rfl Try.underlying30 Try.underlying5 Try.underlying9 ?_) | (refine owp_bs (o := ⟨some 66, _, _, _, _, _⟩) rfl st 2 get2 rfl Try.underlying30 Try.underlying5 Try.underlying9 ?_) | (refine owp_bs (o := ⟨some 66, _, _, _, _, _⟩) rfl st 3 get3 rfl Try.underlying30 Try.underlying5 Try.underlying9 ?_) | (refine owp_bs (o := ⟨some 66, _, _, _, _, _⟩) rfl st 4 get4 rfl Try.underlying30 Try.underlying5 Try.underlying9 ?_) | (refine owp_bs (o := ⟨some 66, _, _, _, _, _⟩) rfl st 5 get5 rfl Try.underlying30 Try.underlying5 Try.underlying9 ?_) | (refine owp_bs (o := ⟨some 66, _, _, _, _, _⟩) rfl st 6 get6 rfl Try.underlying30 Try.underlying5 Try.underlying9 ?_) | (refine owp_bs (o := ⟨some 66, _, _, _, _, _⟩) rfl st 7 get7 rfl Try.underlying30 Try.underlying5 Try.underlying9 ?_)))
        | ((with_reducible refine wl_convert ?_ (fun K hK => ?_)); rfl; (first | (refine owp_bs (o := ⟨some 90, _, _, _, _, _⟩) rfl st 0 get0 rfl Try.underlying30 Try.underlying5 Try.underlying9 ?_) | (refine owp_bs (o := ⟨some 90, _, _, _, _, _⟩) rfl st 1 get1 rfl Try.underlying30 Try.underlying5 Try.underlying9 ?_) | (refine owp_bs (o := ⟨some 90, _, _, _, _, _⟩) rfl st 2 get2 rfl Try.underlying30 Try.underlying5 Try.underlying9 ?_) | (refine owp_bs (o := ⟨some 90, _, _, _, _, _⟩) rfl st 3 get3 rfl Try.underlying30 Try.underlying5 Try.underlying9 ?_) | (refine owp_bs (o := ⟨some 90, _, _, _, _, _⟩) rfl st 4 get4 rfl Try.underlying30 Try.underlying5 Try.underlying9 ?_) | (refine owp_bs (o := ⟨some 90, _, _, _, _, _⟩) rfl st 5 get5 rfl Try.underlying30 Try.underlying5 Try.underlying9 ?_) | (refine owp_bs (o := ⟨some 90, _, _, _, _, _⟩) rfl st 6 get6 rfl Try.underlying30 Try.underlying5 Try.underlying9 ?_) | (refine owp_bs (o := ⟨some 90, _, _, _, _, _⟩) rfl st 7 get7 rfl Try.underlying30 Try.underlying5 Try.underlying9 ?_)))); (try simp only [Value.cells, List.cons_append, List.nil_append, List.set, spl, putIt, pick, List.map_cons, List.map_nil, List.getElem?_cons_zero, List.getElem?_cons_succ, Option.getD_some, List.drop_succ_cons, List.drop_zero, List.drop_nil, List.append_nil, unB] at st); (try clear hc); have hc := st.facts; (try simp only [factsOf, blkI, blkFacts, rowI, byI, datI, nullI, oldI, penI, rdI, rdAnyI, rdOverI, cellI, Nat.zero_add, Nat.reduceAdd, and_true, true_and, and_self] at hc))
  go_loopg [6, 23] n (fun kk v i wr => ∃ (j : Nat) (bss : List (List UInt8)) (A : Option Addr) (m k : Nat), j ≤ n ∧ kk = n - j ∧ i = .int .i64 (j : Int) ∧ v = .slice A m k ∧ Hid (bss.length = m) ∧ m ≤ 64 ∧ Hid (∀ x ∈ bss, x.length ≤ 100) ∧
    Own (fun _ => False) (fun _ => True) W [oldI W, blkI p [.chan (some c0), .chan (some c1)], chI c0 [], chI c1 bss, qI 9 (.slice A m k) m (bss.map strV)] wr)
  case atStart => exact ⟨0, [], none, 0, 0, by omega, by omega, rfl, rfl, Lib.hid rfl, by omega, Lib.hid (by simp), st⟩
  case round =>
    obtain ⟨j, bss, A, m, k, hj, rfl, rfl, rfl, HL, hm, HX, st'⟩ := hrel
    clear st hc
    have st := st'
    clear st'
    (try simp only [Value.cells, List.cons_append, List.nil_append, List.set, spl, putIt, pick, List.map_cons, List.map_nil, List.getElem?_cons_zero, List.getElem?_cons_succ, Option.getD_some, List.drop_succ_cons, List.drop_zero, List.drop_nil, List.append_nil, unB] at st)
    (try clear hc); have hc := st.facts; (try simp only [factsOf, blkI, blkFacts, rowI, byI, datI, nullI, oldI, penI, rdI, rdAnyI, rdOverI, cellI, Nat.zero_add, Nat.reduceAdd, and_true, true_and, and_self] at hc)
    by_cases hjn : j < n
    · obtain ⟨b, off, rfl, hcell⟩ := H.out.one1 frV rfl (fun _ => rfl) (by omega)
      have hjl : j < l.length := by have := HN.out; omega
      have r0 := st.oldCell (i := 0) get0 (hcell j l[j] (List.getElem?_eq_getElem hjl))
      have HB := Lib.hid (HK.out l[j] (List.getElem_mem hjl))
      clear hcell
      generalize l[j] = x at *
      obtain ⟨oa, on, oc, bs⟩ := x
      simp only [frV] at r0
      have hoc := HB.out.1
      simp only at hoc
      by_cases hon : 100 < on
      · skip
        go_wp2_with ((first
              | ((with_reducible refine wl_convert ?_ (fun K hK => ?_)); rfl; (first | (refine owp_bs (o := ⟨some 36, _, _, _, _, _⟩) rfl st 0 get0 rfl Try.underlying30 Try.underlying5 Try.underlying9 ?_) | (refine owp_bs (o := ⟨some 36, _, _, _, _, _⟩) rfl st 1 get1 rfl Try.underlying30 Try.underlying5 Try.underlying9 ?_) | (refine owp_bs (o := ⟨some 36, _, _, _, _, _⟩) rfl st 2 get2 rfl Try.underlying30 Try.underlying5 Try.underlying9 ?_) | (refine owp_bs (o := ⟨some 36, _, _, _, _, _⟩) rfl st 3 get3 rfl Try.underlying30 Try.underlying5 Try.underlying9 ?_) | (refine owp_bs (o := ⟨some 36, _, _, _, _, _⟩) rfl st 4 get4 rfl Try.underlying30 Try.underlying5 Try.underlying9 ?_) | (refine owp_bs (o := ⟨some 36, _, _, _, _, _⟩) rfl st 5 get5 rfl Try.underlying30 Try.underlying5 Try.underlying9 ?_) | (refine owp_bs (o := ⟨some 36, _, _, _, _, _⟩) rfl st 6 get6 rfl Try.underlying30 Try.underlying5 Try.underlying9 ?_) | (refine owp_bs (o := ⟨some 36, _, _, _, _, _⟩) rfl st 7 get7 rfl Try.underlying30 Try.underlying5 Try.underlying9 ?_)))
              | ((with_reducible refine wl_buildSlice ?_ (fun K hK => ?_)); rfl; refine owp_buildSlice (o := ⟨some 37, _, _, _, _, _⟩) rfl st ?_; apply Exists.intro; apply Exists.intro; apply Exists.intro; apply Exists.intro; refine ⟨?_, ?_⟩; (focus (go_simp; (first | done | exact ⟨⟨rfl, rfl⟩, rfl⟩ | rfl))); (clear st; intro b37 w hb st; clear hb))
              | ((with_reducible refine wl_convert ?_ (fun K hK => ?_)); rfl; (first | (refine owp_bs (o := ⟨some 66, _, _, _, _, _⟩) rfl st 0 get0 rfl Try.underlying30 Try.underlying5 Try.underlying9 ?_) | (refine owp_bs (o := ⟨some 66, _, _, _, _, _⟩) rfl st 1 get1 rfl Try.underlying30 Try.underlying5 Try.underlying9 ?_) | (refine owp_bs (o := ⟨some 66, _, _, _, _, _⟩) rfl st 2 get2 rfl Try.underlying30 Try.underlying5 Try.underlying9 ?_) | (refine owp_bs (o := ⟨some 66, _, _, _, _, _⟩) rfl st 3 get3 rfl Try.underlying30 Try.underlying5 Try.underlying9 ?_) | (refine owp_bs (o := ⟨some 66, _, _, _, _, _⟩) rfl st 4 get4 rfl Try.underlying30 Try.underlying5 Try.underlying9 ?_) | (refine owp_bs (o := ⟨some 66, _, _, _, _, _⟩) rfl st 5 get5 rfl Try.underlying30 Try.underlying5 Try.underlying9 ?_) | (refine owp_bs (o := ⟨some 66, _, _, _, _, _⟩) rfl st 6 get6 rfl Try.underlying30 Try.underlying5 Try.underlying9 ?_) | (refine owp_bs (o := ⟨some 66, _, _, _, _, _⟩) rfl st 7 get7 rfl Try.underlying30 Try.underlying5 Try.underlying9 ?_)))
              | ((with_reducible refine wl_convert ?_ (fun K hK => ?_)); rfl; (first | (refine owp_bs (o := ⟨some 90, _, _, _, _, _⟩) rfl st 0 get0 rfl Try.underlying30 Try.underlying5 Try.underlying9 ?_) | (refine owp_bs (o := ⟨some 90, _, _, _, _, _⟩) rfl st 1 get1 rfl Try.underlying30 Try.underlying5 Try.underlying9 ?_) | (refine owp_bs (o := ⟨some 90, _, _, _, _, _⟩) rfl st 2 get2 rfl Try.underlying30 Try.underlying5 Try.underlying9 ?_) | (refine owp_bs (o := ⟨some 90, _, _, _, _, _⟩) rfl st 3 get3 rfl Try.underlying30 Try.underlying5 Try.underlying9 ?_) | (refine owp_bs (o := ⟨some 90, _, _, _, _, _⟩) rfl st 4 get4 rfl Try.underlying30 Try.underlying5 Try.underlying9 ?_) | (refine owp_bs (o := ⟨some 90, _, _, _, _, _⟩) rfl st 5 get5 rfl Try.underlying30 Try.underlying5 Try.underlying9 ?_) | (refine owp_bs (o := ⟨some 90, _, _, _, _, _⟩) rfl st 6 get6 rfl Try.underlying30 Try.underlying5 Try.underlying9 ?_) | (refine owp_bs (o := ⟨some 90, _, _, _, _, _⟩) rfl st 7 get7 rfl Try.underlying30 Try.underlying5 Try.underlying9 ?_)))); (try simp only [Value.cells, List.cons_append, List.nil_append, List.set, spl, putIt, pick, List.map_cons, List.map_nil, List.getElem?_cons_zero, List.getElem?_cons_succ, Option.getD_some, List.drop_succ_cons, List.drop_zero, List.drop_nil, List.append_nil, unB] at st); (try clear hc); have hc := st.facts; (try simp only [factsOf, blkI, blkFacts, rowI, byI, datI, nullI, oldI, penI, rdI, rdAnyI, rdOverI, cellI, Nat.zero_add, Nat.reduceAdd, and_true, true_and, and_self] at hc))
        go_ret
        exact ⟨rfl, st.ext0⟩
      replace st := st.addOldBy (i := 0) get0 HB.out.2
      simp only [List.cons_append, List.nil_append] at st
      have hbl : bs.length ≤ 100 := by have := HB.out.2.1; simp only at this; omega
      by_cases ht : j < n'
      · obtain ⟨b', off', rfl, hcell'⟩ := H'.out.one1 (fun x : BoT => .bool x.b) rfl (fun _ => rfl) (by omega)
        have hjl' : j < tk.length := by have := HN'.out; omega
        have rt := hcell' j tk[j] (List.getElem?_eq_getElem hjl')
        clear hcell'
        generalize tk[j] = bt at *
        obtain ⟨bt⟩ := bt
        simp only at rt
        replace st := st.addCell (i := 0) get0 rt
        simp only [List.cons_append, List.nil_append] at st
        clear rt
        cases bt with
        | false =>
          (try simp only [Value.cells, List.cons_append, List.nil_append, List.set, spl, putIt, pick, List.map_cons, List.map_nil, List.getElem?_cons_zero, List.getElem?_cons_succ, Option.getD_some, List.drop_succ_cons, List.drop_zero, List.drop_nil, List.append_nil, unB] at st)
          (try clear hc); have hc := st.facts; (try simp only [factsOf, blkI, blkFacts, rowI, byI, datI, nullI, oldI, penI, rdI, rdAnyI, rdOverI, cellI, Nat.zero_add, Nat.reduceAdd, and_true, true_and, and_self] at hc)
          by_cases hf : m < 64
          · go_wp2_with fail
            clear r0
            obtain ⟨fr', al', st', back⟩ := st.sub [1, 3] (by decide) (by simp)
            (try simp only [Value.cells, List.cons_append, List.nil_append, List.set, spl, putIt, pick, List.map_cons, List.map_nil, List.getElem?_cons_zero, List.getElem?_cons_succ, Option.getD_some, List.drop_succ_cons, List.drop_zero, List.drop_nil, List.append_nil, unB] at st')
            refine (netSend_room 1 (wayV1 _ _) st' (by rw [HL.out]; exact hf) oa on oc bs (st.by (i := 5) get5) hoc (by omega)).mono ?_
            clear st'
            rintro en w ⟨rfl, st'⟩
            replace st := back _ _ (by simp) st'
            clear back st'
            (try simp only [Value.cells, List.cons_append, List.nil_append, List.set, spl, putIt, pick, List.map_cons, List.map_nil, List.getElem?_cons_zero, List.getElem?_cons_succ, Option.getD_some, List.drop_succ_cons, List.drop_zero, List.drop_nil, List.append_nil, unB] at st)
            (try clear hc); have hc := st.facts; (try simp only [factsOf, blkI, blkFacts, rowI, byI, datI, nullI, oldI, penI, rdI, rdAnyI, rdOverI, cellI, Nat.zero_add, Nat.reduceAdd, and_true, true_and, and_self] at hc)
            go_wp2_with (first
                | (((with_reducible refine wl_append ?_ (fun K hK => ?_)); (rfl); (obtain ⟨inf, hinf, hz0, hz1, hz2⟩ := strInfoN); (refine owp_qAppend rfl st 4 get4 Try.underlying26 hinf hz0 hz1 hz2 rfl rfl rfl ((st.blk (i := 7) get7).cell 0) rfl (by simp only [maxLen]; omega) (by omega) ?_); (clear hinf hz0 hz1 hz2 inf); (clear st; intro v' w st); (obtain ⟨_, A2, k2, rfl, hcv⟩ := st.qForm (i := 4) get4)); (try simp only [Value.cells, List.cons_append, List.nil_append, List.set, spl, putIt, pick, List.map_cons, List.map_nil, List.getElem?_cons_zero, List.getElem?_cons_succ, Option.getD_some, List.drop_succ_cons, List.drop_zero, List.drop_nil, List.append_nil, unB] at st); (try clear hc); have hc := st.facts; (try simp only [factsOf, blkI, blkFacts, rowI, byI, datI, nullI, oldI, penI, rdI, rdAnyI, rdOverI, cellI, Nat.zero_add, Nat.reduceAdd, and_true, true_and, and_self] at hc))
                | ((with_reducible refine wl_buildSlice ?_ (fun K hK => ?_)); (rfl); (refine owp_buildRow (o := ⟨some 9999, _, _, _, _, _⟩) rfl st 9 1 ?_; refine ⟨0, #[], ?_, by simp, by simp [maxLen], ?_⟩; (focus (go_simp; (first | done | rfl))); (clear st; intro b9999 w hb st; clear hb)); (try simp only [Value.cells, List.cons_append, List.nil_append, List.set, spl, putIt, pick, List.map_cons, List.map_nil, List.getElem?_cons_zero, List.getElem?_cons_succ, Option.getD_some, List.drop_succ_cons, List.drop_zero, List.drop_nil, List.append_nil, unB] at st); (try clear hc); have hc := st.facts; (try simp only [factsOf, blkI, blkFacts, rowI, byI, datI, nullI, oldI, penI, rdI, rdAnyI, rdOverI, cellI, Nat.zero_add, Nat.reduceAdd, and_true, true_and, and_self] at hc))
                | ((first
                  | ((with_reducible refine wl_convert ?_ (fun K hK => ?_)); rfl; (first | (refine owp_bs (o := ⟨some 36, _, _, _, _, _⟩) rfl st 0 get0 rfl Try.underlying30 Try.underlying5 Try.underlying9 ?_) | (refine owp_bs (o := ⟨some 36, _, _, _, _, _⟩) rfl st 1 get1 rfl Try.underlying30 Try.underlying5 Try.underlying9 ?_) | (refine owp_bs (o := ⟨some 36, _, _, _, _, _⟩) rfl st 2 get2 rfl Try.underlying30 Try.underlying5 Try.underlying9 ?_) | (refine owp_bs (o := ⟨some 36, _, _, _, _, _⟩) rfl st 3 get3 rfl Try.underlying30 Try.underlying5 Try.underlying9 ?_) | (refine owp_bs (o := ⟨some 36, _, _, _, _, _⟩) rfl st 4 get4 rfl Try.underlying30 Try.underlying5 Try.underlying9 ?_) | (refine owp_bs (o := ⟨some 36, _, _, _, _, _⟩) rfl st 5 get5 rfl Try.underlying30 Try.underlying5 Try.underlying9 ?_) | (refine owp_bs (o := ⟨some 36, _, _, _, _, _⟩) rfl st 6 get6 rfl Try.underlying30 Try.underlying5 Try.underlying9 ?_) | (refine owp_bs (o := ⟨some 36, _, _, _, _, _⟩) rfl st 7 get7 rfl Try.underlying30 Try.underlying5 Try.underlying9 ?_)))
                  | ((with_reducible refine wl_buildSlice ?_ (fun K hK => ?_)); rfl; refine owp_buildSlice (o := ⟨some 37, _, _, _, _, _⟩) rfl st ?_; apply Exists.intro; apply Exists.intro; apply Exists.intro; apply Exists.intro; refine ⟨?_, ?_⟩; (focus (go_simp; (first | done | exact ⟨⟨rfl, rfl⟩, rfl⟩ | rfl))); (clear st; intro b37 w hb st; clear hb))
                  | ((with_reducible refine wl_convert ?_ (fun K hK => ?_)); rfl; (first | (refine owp_bs (o := ⟨some 66, _, _, _, _, _⟩) rfl st 0 get0 rfl Try.underlying30 Try.underlying5 Try.underlying9 ?_) | (refine owp_bs (o := ⟨some 66, _, _, _, _, _⟩) rfl st 1 get1 rfl Try.underlying30 Try.underlying5 Try.underlying9 ?_) | (refine owp_bs (o := ⟨some 66, _, _, _, _, _⟩) rfl st 2 get2 rfl Try.underlying30 Try.underlying5 Try.underlying9 ?_) | (refine owp_bs (o := ⟨some 66, _, _, _, _, _⟩) rfl st 3 get3 rfl Try.underlying30 Try.underlying5 Try.underlying9 ?_) | (refine owp_bs (o := ⟨some 66, _, _, _, _, _⟩) rfl st 4 get4 rfl Try.underlying30 Try.underlying5 Try.underlying9 ?_) | (refine owp_bs (o := ⟨some 66, _, _, _, _, _⟩) rfl st 5 get5 rfl Try.underlying30 Try.underlying5 Try.underlying9 ?_) | (refine owp_bs (o := ⟨some 66, _, _, _, _, _⟩) rfl st 6 get6 rfl Try.underlying30 Try.underlying5 Try.underlying9 ?_) | (refine owp_bs (o := ⟨some 66, _, _, _, _, _⟩) rfl st 7 get7 rfl Try.underlying30 Try.underlying5 Try.underlying9 ?_)))
                  | ((with_reducible refine wl_convert ?_ (fun K hK => ?_)); rfl; (first | (refine owp_bs (o := ⟨some 90, _, _, _, _, _⟩) rfl st 0 get0 rfl Try.underlying30 Try.underlying5 Try.underlying9 ?_) | (refine owp_bs (o := ⟨some 90, _, _, _, _, _⟩) rfl st 1 get1 rfl Try.underlying30 Try.underlying5 Try.underlying9 ?_) | (refine owp_bs (o := ⟨some 90, _, _, _, _, _⟩) rfl st 2 get2 rfl Try.underlying30 Try.underlying5 Try.underlying9 ?_) | (refine owp_bs (o := ⟨some 90, _, _, _, _, _⟩) rfl st 3 get3 rfl Try.underlying30 Try.underlying5 Try.underlying9 ?_) | (refine owp_bs (o := ⟨some 90, _, _, _, _, _⟩) rfl st 4 get4 rfl Try.underlying30 Try.underlying5 Try.underlying9 ?_) | (refine owp_bs (o := ⟨some 90, _, _, _, _, _⟩) rfl st 5 get5 rfl Try.underlying30 Try.underlying5 Try.underlying9 ?_) | (refine owp_bs (o := ⟨some 90, _, _, _, _, _⟩) rfl st 6 get6 rfl Try.underlying30 Try.underlying5 Try.underlying9 ?_) | (refine owp_bs (o := ⟨some 90, _, _, _, _, _⟩) rfl st 7 get7 rfl Try.underlying30 Try.underlying5 Try.underlying9 ?_)))); (try simp only [Value.cells, List.cons_append, List.nil_append, List.set, spl, putIt, pick, List.map_cons, List.map_nil, List.getElem?_cons_zero, List.getElem?_cons_succ, Option.getD_some, List.drop_succ_cons, List.drop_zero, List.drop_nil, List.append_nil, unB] at st); (try clear hc); have hc := st.facts; (try simp only [factsOf, blkI, blkFacts, rowI, byI, datI, nullI, oldI, penI, rdI, rdAnyI, rdOverI, cellI, Nat.zero_add, Nat.reduceAdd, and_true, true_and, and_self] at hc)))
            have eq2 : bss.map strV ++ [.string ⟨bs.toArray⟩] = (bss ++ [bs]).map strV := by simp [strV]
            rw [eq2] at st
            have HL2 : Hid ((bss ++ [bs]).length = m + 1) := Lib.hid (by simp [HL.out])
            have HX2 : Hid (∀ x ∈ bss ++ [bs], x.length ≤ 100) := Lib.hid (fun x hx => by rcases List.mem_append.1 hx with hx | hx; exact HX.out x hx; rw [List.mem_singleton.1 hx]; exact hbl)
            clear eq2 hc
            obtain ⟨bs2, hbs2⟩ : ∃ bs2, bss ++ [bs] = bs2 := ⟨_, rfl⟩
            rw [hbs2] at st HL2 HX2
            obtain ⟨m2, hme⟩ : ∃ m2, m + 1 = m2 := ⟨_, rfl⟩
            rw [hme] at st HL2 ⊢
            have hm2 : m2 ≤ 64 := by omega
            have hm20 : 0 < m2 := by omega
            clear hbs2
            have st' := st.keep [0, 1, 2, 3, 4] (by decide) (by simp)
            go_roundg (n - (j + 1))
            case measure => omega
            case rel => exact ⟨j + 1, bs2, A2, m2, k2, by omega, by omega, by go_num, rfl, HL2, hm2, HX2, by simpa [pick] using st'⟩
          · have hm64 : ((m : Int) != 64) = false := by simp; omega
            go_wp2_with fail
            clear r0
            obtain ⟨fr', al', st', back⟩ := st.sub [1, 3] (by decide) (by simp)
            (try simp only [Value.cells, List.cons_append, List.nil_append, List.set, spl, putIt, pick, List.map_cons, List.map_nil, List.getElem?_cons_zero, List.getElem?_cons_succ, Option.getD_some, List.drop_succ_cons, List.drop_zero, List.drop_nil, List.append_nil, unB] at st')
            refine (netSend_full 1 (wayV1 _ _) st' (by rw [HL.out]; omega) oa on oc bs (st.by (i := 5) get5) hoc (by omega)).mono ?_
            clear st'
            rintro en w ⟨rfl, st'⟩
            replace st := back _ _ (by simp) st'
            clear back st'
            (try simp only [Value.cells, List.cons_append, List.nil_append, List.set, spl, putIt, pick, List.map_cons, List.map_nil, List.getElem?_cons_zero, List.getElem?_cons_succ, Option.getD_some, List.drop_succ_cons, List.drop_zero, List.drop_nil, List.append_nil, unB] at st)
            (try clear hc); have hc := st.facts; (try simp only [factsOf, blkI, blkFacts, rowI, byI, datI, nullI, oldI, penI, rdI, rdAnyI, rdOverI, cellI, Nat.zero_add, Nat.reduceAdd, and_true, true_and, and_self] at hc)
            go_wp2_with fail
            have HL2 := HL
            have HX2 := HX
            have hm2 := hm
            have hm20 : 0 < m := by omega
            clear HL HX hm hf hm64
            generalize bss = bs2 at *
            generalize m = m2 at *
            generalize A = A2 at *
            generalize k = k2 at *
            have st' := st.keep [0, 1, 2, 3, 4] (by decide) (by simp)
            go_roundg (n - (j + 1))
            case measure => omega
            case rel => exact ⟨j + 1, bs2, A2, m2, k2, by omega, by omega, by go_num, rfl, HL2, hm2, HX2, by simpa [pick] using st'⟩
        | true =>
          (try simp only [Value.cells, List.cons_append, List.nil_append, List.set, spl, putIt, pick, List.map_cons, List.map_nil, List.getElem?_cons_zero, List.getElem?_cons_succ, Option.getD_some, List.drop_succ_cons, List.drop_zero, List.drop_nil, List.append_nil, unB] at st)
          (try clear hc); have hc := st.facts; (try simp only [factsOf, blkI, blkFacts, rowI, byI, datI, nullI, oldI, penI, rdI, rdAnyI, rdOverI, cellI, Nat.zero_add, Nat.reduceAdd, and_true, true_and, and_self] at hc)
          by_cases hf : m < 64
          · go_wp2_with fail
            clear r0
            obtain ⟨fr', al', st', back⟩ := st.sub [1, 3] (by decide) (by simp)
            (try simp only [Value.cells, List.cons_append, List.nil_append, List.set, spl, putIt, pick, List.map_cons, List.map_nil, List.getElem?_cons_zero, List.getElem?_cons_succ, Option.getD_some, List.drop_succ_cons, List.drop_zero, List.drop_nil, List.append_nil, unB] at st')
            refine (netSend_room 1 (wayV1 _ _) st' (by rw [HL.out]; exact hf) oa on oc bs (st.by (i := 5) get5) hoc (by omega)).mono ?_
            clear st'
            rintro en w ⟨rfl, st'⟩
            replace st := back _ _ (by simp) st'
            clear back st'
            (try simp only [Value.cells, List.cons_append, List.nil_append, List.set, spl, putIt, pick, List.map_cons, List.map_nil, List.getElem?_cons_zero, List.getElem?_cons_succ, Option.getD_some, List.drop_succ_cons, List.drop_zero, List.drop_nil, List.append_nil, unB] at st)
            (try clear hc); have hc := st.facts; (try simp only [factsOf, blkI, blkFacts, rowI, byI, datI, nullI, oldI, penI, rdI, rdAnyI, rdOverI, cellI, Nat.zero_add, Nat.reduceAdd, and_true, true_and, and_self] at hc)
            go_wp2_with (first
                | (((with_reducible refine wl_append ?_ (fun K hK => ?_)); (rfl); (obtain ⟨inf, hinf, hz0, hz1, hz2⟩ := strInfoN); (refine owp_qAppend rfl st 4 get4 Try.underlying26 hinf hz0 hz1 hz2 rfl rfl rfl ((st.blk (i := 7) get7).cell 0) rfl (by simp only [maxLen]; omega) (by omega) ?_); (clear hinf hz0 hz1 hz2 inf); (clear st; intro v' w st); (obtain ⟨_, A2, k2, rfl, hcv⟩ := st.qForm (i := 4) get4)); (try simp only [Value.cells, List.cons_append, List.nil_append, List.set, spl, putIt, pick, List.map_cons, List.map_nil, List.getElem?_cons_zero, List.getElem?_cons_succ, Option.getD_some, List.drop_succ_cons, List.drop_zero, List.drop_nil, List.append_nil, unB] at st); (try clear hc); have hc := st.facts; (try simp only [factsOf, blkI, blkFacts, rowI, byI, datI, nullI, oldI, penI, rdI, rdAnyI, rdOverI, cellI, Nat.zero_add, Nat.reduceAdd, and_true, true_and, and_self] at hc))
                | ((with_reducible refine wl_buildSlice ?_ (fun K hK => ?_)); (rfl); (refine owp_buildRow (o := ⟨some 9999, _, _, _, _, _⟩) rfl st 9 1 ?_; refine ⟨0, #[], ?_, by simp, by simp [maxLen], ?_⟩; (focus (go_simp; (first | done | rfl))); (clear st; intro b9999 w hb st; clear hb)); (try simp only [Value.cells, List.cons_append, List.nil_append, List.set, spl, putIt, pick, List.map_cons, List.map_nil, List.getElem?_cons_zero, List.getElem?_cons_succ, Option.getD_some, List.drop_succ_cons, List.drop_zero, List.drop_nil, List.append_nil, unB] at st); (try clear hc); have hc := st.facts; (try simp only [factsOf, blkI, blkFacts, rowI, byI, datI, nullI, oldI, penI, rdI, rdAnyI, rdOverI, cellI, Nat.zero_add, Nat.reduceAdd, and_true, true_and, and_self] at hc))
                | ((first
                  | ((with_reducible refine wl_convert ?_ (fun K hK => ?_)); rfl; (first | (refine owp_bs (o := ⟨some 36, _, _, _, _, _⟩) rfl st 0 get0 rfl Try.underlying30 Try.underlying5 Try.underlying9 ?_) | (refine owp_bs (o := ⟨some 36, _, _, _, _, _⟩) rfl st 1 get1 rfl Try.underlying30 Try.underlying5 Try.underlying9 ?_) | (refine owp_bs (o := ⟨some 36, _, _, _, _, _⟩) rfl st 2 get2 rfl Try.underlying30 Try.underlying5 Try.underlying9 ?_) | (refine owp_bs (o := ⟨some 36, _, _, _, _, _⟩) rfl st 3 get3 rfl Try.underlying30 Try.underlying5 Try.underlying9 ?_) | (refine owp_bs (o := ⟨some 36, _, _, _, _, _⟩) rfl st 4 get4 rfl Try.underlying30 Try.underlying5 Try.underlying9 ?_) | (refine owp_bs (o := ⟨some 36, _, _, _, _, _⟩) rfl st 5 get5 rfl Try.underlying30 Try.underlying5 Try.underlying9 ?_) | (refine owp_bs (o := ⟨some 36, _, _, _, _, _⟩) rfl st 6 get6 rfl Try.underlying30 Try.underlying5 Try.underlying9 ?_) | (refine owp_bs (o := ⟨some 36, _, _, _, _, _⟩) rfl st 7 get7 rfl Try.underlying30 Try.underlying5 Try.underlying9 ?_)))
                  | ((with_reducible refine wl_buildSlice ?_ (fun K hK => ?_)); rfl; refine owp_buildSlice (o := ⟨some 37, _, _, _, _, _⟩) rfl st ?_; apply Exists.intro; apply Exists.intro; apply Exists.intro; apply Exists.intro; refine ⟨?_, ?_⟩; (focus (go_simp; (first | done | exact ⟨⟨rfl, rfl⟩, rfl⟩ | rfl))); (clear st; intro b37 w hb st; clear hb))
                  | ((with_reducible refine wl_convert ?_ (fun K hK => ?_)); rfl; (first | (refine owp_bs (o := ⟨some 66, _, _, _, _, _⟩) rfl st 0 get0 rfl Try.underlying30 Try.underlying5 Try.underlying9 ?_) | (refine owp_bs (o := ⟨some 66, _, _, _, _, _⟩) rfl st 1 get1 rfl Try.underlying30 Try.underlying5 Try.underlying9 ?_) | (refine owp_bs (o := ⟨some 66, _, _, _, _, _⟩) rfl st 2 get2 rfl Try.underlying30 Try.underlying5 Try.underlying9 ?_) | (refine owp_bs (o := ⟨some 66, _, _, _, _, _⟩) rfl st 3 get3 rfl Try.underlying30 Try.underlying5 Try.underlying9 ?_) | (refine owp_bs (o := ⟨some 66, _, _, _, _, _⟩) rfl st 4 get4 rfl Try.underlying30 Try.underlying5 Try.underlying9 ?_) | (refine owp_bs (o := ⟨some 66, _, _, _, _, _⟩) rfl st 5 get5 rfl Try.underlying30 Try.underlying5 Try.underlying9 ?_) | (refine owp_bs (o := ⟨some 66, _, _, _, _, _⟩) rfl st 6 get6 rfl Try.underlying30 Try.underlying5 Try.underlying9 ?_) | (refine owp_bs (o := ⟨some 66, _, _, _, _, _⟩) rfl st 7 get7 rfl Try.underlying30 Try.underlying5 Try.underlying9 ?_)))
                  | ((with_reducible refine wl_convert ?_ (fun K hK => ?_)); rfl; (first | (refine owp_bs (o := ⟨some 90, _, _, _, _, _⟩) rfl st 0 get0 rfl Try.underlying30 Try.underlying5 Try.underlying9 ?_) | (refine owp_bs (o := ⟨some 90, _, _, _, _, _⟩) rfl st 1 get1 rfl Try.underlying30 Try.underlying5 Try.underlying9 ?_) | (refine owp_bs (o := ⟨some 90, _, _, _, _, _⟩) rfl st 2 get2 rfl Try.underlying30 Try.underlying5 Try.underlying9 ?_) | (refine owp_bs (o := ⟨some 90, _, _, _, _, _⟩) rfl st 3 get3 rfl Try.underlying30 Try.underlying5 Try.underlying9 ?_) | (refine owp_bs (o := ⟨some 90, _, _, _, _, _⟩) rfl st 4 get4 rfl Try.underlying30 Try.underlying5 Try.underlying9 ?_) | (refine owp_bs (o := ⟨some 90, _, _, _, _, _⟩) rfl st 5 get5 rfl Try.underlying30 Try.underlying5 Try.underlying9 ?_) | (refine owp_bs (o := ⟨some 90, _, _, _, _, _⟩) rfl st 6 get6 rfl Try.underlying30 Try.underlying5 Try.underlying9 ?_) | (refine owp_bs (o := ⟨some 90, _, _, _, _, _⟩) rfl st 7 get7 rfl Try.underlying30 Try.underlying5 Try.underlying9 ?_)))); (try simp only [Value.cells, List.cons_append, List.nil_append, List.set, spl, putIt, pick, List.map_cons, List.map_nil, List.getElem?_cons_zero, List.getElem?_cons_succ, Option.getD_some, List.drop_succ_cons, List.drop_zero, List.drop_nil, List.append_nil, unB] at st); (try clear hc); have hc := st.facts; (try simp only [factsOf, blkI, blkFacts, rowI, byI, datI, nullI, oldI, penI, rdI, rdAnyI, rdOverI, cellI, Nat.zero_add, Nat.reduceAdd, and_true, true_and, and_self] at hc)))
            have eq2 : bss.map strV ++ [.string ⟨bs.toArray⟩] = (bss ++ [bs]).map strV := by simp [strV]
            rw [eq2] at st
            have HL2 : Hid ((bss ++ [bs]).length = m + 1) := Lib.hid (by simp [HL.out])
            have HX2 : Hid (∀ x ∈ bss ++ [bs], x.length ≤ 100) := Lib.hid (fun x hx => by rcases List.mem_append.1 hx with hx | hx; exact HX.out x hx; rw [List.mem_singleton.1 hx]; exact hbl)
            clear eq2 hc
            obtain ⟨bs2, hbs2⟩ : ∃ bs2, bss ++ [bs] = bs2 := ⟨_, rfl⟩
            rw [hbs2] at st HL2 HX2
            obtain ⟨m2, hme⟩ : ∃ m2, m + 1 = m2 := ⟨_, rfl⟩
            rw [hme] at st HL2 ⊢
            have hm2 : m2 ≤ 64 := by omega
            have hm20 : 0 < m2 := by omega
            clear hbs2
            obtain ⟨x, t, rfl⟩ : ∃ x t, bs2 = x :: t := by
              cases bs2 with
              | nil => have := HL2.out; simp at this; omega
              | cons x t => exact ⟨x, t, rfl⟩
            have st' := st.keep [0, 1, 2, 3, 4] (by decide) (by simp)
            clear st
            simp only [pick, List.map_cons, List.map_nil, List.getElem?_cons_zero, List.getElem?_cons_succ, Option.getD_some] at st'
            have st := st'
            clear st'
            obtain ⟨fr', al', st', back⟩ := st.sub [1, 3] (by decide) (by simp)
            (try simp only [Value.cells, List.cons_append, List.nil_append, List.set, spl, putIt, pick, List.map_cons, List.map_nil, List.getElem?_cons_zero, List.getElem?_cons_succ, Option.getD_some, List.drop_succ_cons, List.drop_zero, List.drop_nil, List.append_nil, unB] at st')
            refine (netNext_some 1 (wayV1 _ _) st').mono ?_
            clear st'
            rintro en w ⟨a3, n3, k3, rfl, hk3, st'⟩
            replace st := back _ _ (by simp) st'
            clear back st'
            (try simp only [Value.cells, List.cons_append, List.nil_append, List.set, spl, putIt, pick, List.map_cons, List.map_nil, List.getElem?_cons_zero, List.getElem?_cons_succ, Option.getD_some, List.drop_succ_cons, List.drop_zero, List.drop_nil, List.append_nil, unB] at st)
            (try clear hc); have hc := st.facts; (try simp only [factsOf, blkI, blkFacts, rowI, byI, datI, nullI, oldI, penI, rdI, rdAnyI, rdOverI, cellI, Nat.zero_add, Nat.reduceAdd, and_true, true_and, and_self] at hc)
            obtain ⟨g, goff, hg⟩ := st.qAt (i := 4) get4 hm20
            subst hg
            have hz : ((m2 : Int) == 0) = false := by simp; omega
            go_wp2_with fail
            refine Rg4.wp_region4_eq #[0, 1, 3, 7, 15, 31, 63, 127, 255, 511, 255, 1279, 3327, 8191, 16383] [] [9, 12] (fun _ => True) [0, 1, 2, 3, 4, 5, 6, 7, 8, 9, 10, 11, 12, 13, 14] (by kernel_rfl) (by kernel_rfl) (by kernel_rfl) (by kernel_rfl) (show Rg4.PB _ by repeat (first | with_reducible exact Rg4.pb_body | with_reducible exact Rg4.pb_bodyD rfl | with_reducible refine Rg4.pb_then ?_ | with_reducible refine Rg4.pb_inBlock ?_ | with_reducible refine Rg4.pb_noGoto ?_)) (trivial) ?_
            replace st := st.drew
            change Rg4.wp4 _ _ _ _ _ _ _ _ _ (World.drew _) _ _
            generalize World.drew _ = w at st ⊢
            (try clear hc); have hc := st.facts; (try simp only [factsOf, blkI, blkFacts, rowI, byI, datI, nullI, oldI, penI, rdI, rdAnyI, rdOverI, cellI, Nat.zero_add, Nat.reduceAdd, and_true, true_and, and_self] at hc)
            (refine Rg4.w4_any (Rg4.want_none rfl) rfl ?_; apply Exists.intro; refine ⟨fun w' => ?_, ?_⟩; (focus (first | (go_simp; done) | (go_simp; first | rfl | (rw [if_neg] <;> first | rfl | omega) | (rw [if_pos] <;> first | rfl | omega)))); (try simp only [Act.put, List.setIfInBounds_toArray, List.set]))
            (refine Rg4.w4_any (Rg4.want_none rfl) rfl ?_; apply Exists.intro; refine ⟨fun w' => ?_, ?_⟩; (focus (first | (go_simp; done) | (go_simp; first | rfl | (rw [if_neg] <;> first | rfl | omega) | (rw [if_pos] <;> first | rfl | omega)))); (try simp only [Act.put, List.setIfInBounds_toArray, List.set]))
            (refine Rg4.w4_any (Rg4.want_none rfl) rfl ?_; apply Exists.intro; refine ⟨fun w' => ?_, ?_⟩; (focus (first | (go_simp; done) | (go_simp; first | rfl | (rw [if_neg] <;> first | rfl | omega) | (rw [if_pos] <;> first | rfl | omega)))); (try simp only [Act.put, List.setIfInBounds_toArray, List.set]))
            (first | (refine Rg4.w4_any (Rg4.want_of 2 59 false rfl rfl rfl) rfl ?_; apply Exists.intro; refine ⟨fun w' => ?_, ?_⟩; (focus (first | (go_simp; done) | (go_simp; first | rfl | (rw [if_neg] <;> first | rfl | omega) | (rw [if_pos] <;> first | rfl | omega)))); (try simp only [Act.put, List.setIfInBounds_toArray, List.set])) | (refine Rg4.w4_skip (Rg4.unwant_of 2 59 false rfl rfl rfl) ?_; (try simp only [Act.put, List.setIfInBounds_toArray, List.set])) | (refine Rg4.w4_skip (Rg4.unwant_nil 2 59 false rfl rfl rfl) ?_; (try simp only [Act.put, List.setIfInBounds_toArray, List.set])))
            (first | (refine Rg4.w4_any (Rg4.want_of 2 59 false rfl rfl rfl) rfl ?_; apply Exists.intro; refine ⟨fun w' => ?_, ?_⟩; (focus (first | (go_simp; done) | (go_simp; first | rfl | (rw [if_neg] <;> first | rfl | omega) | (rw [if_pos] <;> first | rfl | omega)))); (try simp only [Act.put, List.setIfInBounds_toArray, List.set])) | (refine Rg4.w4_skip (Rg4.unwant_of 2 59 false rfl rfl rfl) ?_; (try simp only [Act.put, List.setIfInBounds_toArray, List.set])) | (refine Rg4.w4_skip (Rg4.unwant_nil 2 59 false rfl rfl rfl) ?_; (try simp only [Act.put, List.setIfInBounds_toArray, List.set])))
            (first | (refine Rg4.w4_any (Rg4.want_of 2 59 false rfl rfl rfl) rfl ?_; apply Exists.intro; refine ⟨fun w' => ?_, ?_⟩; (focus (first | (go_simp; done) | (go_simp; first | rfl | (rw [if_neg] <;> first | rfl | omega) | (rw [if_pos] <;> first | rfl | omega)))); (try simp only [Act.put, List.setIfInBounds_toArray, List.set])) | (refine Rg4.w4_skip (Rg4.unwant_of 2 59 false rfl rfl rfl) ?_; (try simp only [Act.put, List.setIfInBounds_toArray, List.set])) | (refine Rg4.w4_skip (Rg4.unwant_nil 2 59 false rfl rfl rfl) ?_; (try simp only [Act.put, List.setIfInBounds_toArray, List.set])))
            (refine Rg4.w4_any (Rg4.want_none rfl) rfl ?_; apply Exists.intro; refine ⟨fun w' => ?_, ?_⟩; (focus (first | (go_simp; done) | (go_simp; first | rfl | (rw [if_neg] <;> first | rfl | omega) | (rw [if_pos] <;> first | rfl | omega)))); (try simp only [Act.put, List.setIfInBounds_toArray, List.set]))
            (refine Rg4.w4_any (Rg4.want_none rfl) rfl ?_; apply Exists.intro; refine ⟨fun w' => ?_, ?_⟩; (focus (first | (go_simp; done) | (go_simp; first | rfl | (rw [if_neg] <;> first | rfl | omega) | (rw [if_pos] <;> first | rfl | omega)))); (try simp only [Act.put, List.setIfInBounds_toArray, List.set]))
            (first | (refine Rg4.w4_any (Rg4.want_of 7 64 false rfl rfl rfl) rfl ?_; apply Exists.intro; refine ⟨fun w' => ?_, ?_⟩; (focus (first | (go_simp; done) | (go_simp; first | rfl | (rw [if_neg] <;> first | rfl | omega) | (rw [if_pos] <;> first | rfl | omega)))); (try simp only [Act.put, List.setIfInBounds_toArray, List.set])) | (refine Rg4.w4_skip (Rg4.unwant_of 7 64 false rfl rfl rfl) ?_; (try simp only [Act.put, List.setIfInBounds_toArray, List.set])) | (refine Rg4.w4_skip (Rg4.unwant_nil 7 64 false rfl rfl rfl) ?_; (try simp only [Act.put, List.setIfInBounds_toArray, List.set])))
            (first | (refine Rg4.w4_read (Rg4.want_of 7 64 false rfl rfl rfl) rfl rfl ?_; apply Exists.intro; refine ⟨fun w' hw' hcl' => ?_, ?_⟩; focus (subst hw'; have q1 := st.qCell (i := 4) (k := 0) get4 rfl; unfold strV at q1; rw [Nat.add_zero] at q1; have e0 := conv_bs (P := Try.prog) (src := 30) (dst := 9) (c := k3) Try.underlying30 Try.underlying5 Try.underlying9 (st.by (i := 5) get5); unfold S at e0; (focus (first | (go_simp; done) | (go_simp; first | rfl | (rw [if_neg] <;> first | rfl | omega) | (rw [if_pos] <;> first | rfl | omega))))); (try simp only [Act.put, List.setIfInBounds_toArray, List.set])) | (refine Rg4.w4_skip (Rg4.unwant_of 7 64 false rfl rfl rfl) ?_; (try simp only [Act.put, List.setIfInBounds_toArray, List.set])) | (refine Rg4.w4_skip (Rg4.unwant_nil 7 64 false rfl rfl rfl) ?_; (try simp only [Act.put, List.setIfInBounds_toArray, List.set])))
            (first | (refine Rg4.w4_any (Rg4.want_of 7 64 false rfl rfl rfl) rfl ?_; apply Exists.intro; refine ⟨fun w' => ?_, ?_⟩; (focus (first | (go_simp; done) | (go_simp; first | rfl | (rw [if_neg] <;> first | rfl | omega) | (rw [if_pos] <;> first | rfl | omega)))); (try simp only [Act.put, List.setIfInBounds_toArray, List.set])) | (refine Rg4.w4_skip (Rg4.unwant_of 7 64 false rfl rfl rfl) ?_; (try simp only [Act.put, List.setIfInBounds_toArray, List.set])) | (refine Rg4.w4_skip (Rg4.unwant_nil 7 64 false rfl rfl rfl) ?_; (try simp only [Act.put, List.setIfInBounds_toArray, List.set])))
            (first | (refine Rg4.w4_any (Rg4.want_of 7 64 false rfl rfl rfl) rfl ?_; apply Exists.intro; refine ⟨fun w' => ?_, ?_⟩; (focus (first | (go_simp; done) | (go_simp; first | rfl | (rw [if_neg] <;> first | rfl | omega) | (rw [if_pos] <;> first | rfl | omega)))); (try simp only [Act.put, List.setIfInBounds_toArray, List.set])) | (refine Rg4.w4_skip (Rg4.unwant_of 7 64 false rfl rfl rfl) ?_; (try simp only [Act.put, List.setIfInBounds_toArray, List.set])) | (refine Rg4.w4_skip (Rg4.unwant_nil 7 64 false rfl rfl rfl) ?_; (try simp only [Act.put, List.setIfInBounds_toArray, List.set])))
            (first | (refine Rg4.w4_read (Rg4.want_of 7 64 false rfl rfl rfl) rfl rfl ?_; apply Exists.intro; refine ⟨fun w' hw' hcl' => ?_, ?_⟩; focus (subst hw'; have q1 := st.qCell (i := 4) (k := 0) get4 rfl; unfold strV at q1; rw [Nat.add_zero] at q1; have e0 := conv_bs (P := Try.prog) (src := 30) (dst := 9) (c := k3) Try.underlying30 Try.underlying5 Try.underlying9 (st.by (i := 5) get5); unfold S at e0; (focus (first | (go_simp; done) | (go_simp; first | rfl | (rw [if_neg] <;> first | rfl | omega) | (rw [if_pos] <;> first | rfl | omega))))); (try simp only [Act.put, List.setIfInBounds_toArray, List.set])) | (refine Rg4.w4_skip (Rg4.unwant_of 7 64 false rfl rfl rfl) ?_; (try simp only [Act.put, List.setIfInBounds_toArray, List.set])) | (refine Rg4.w4_skip (Rg4.unwant_nil 7 64 false rfl rfl rfl) ?_; (try simp only [Act.put, List.setIfInBounds_toArray, List.set])))
            (first | (refine Rg4.w4_any (Rg4.want_of 7 64 false rfl rfl rfl) rfl ?_; apply Exists.intro; refine ⟨fun w' => ?_, ?_⟩; (focus (first | (go_simp; done) | (go_simp; first | rfl | (rw [if_neg] <;> first | rfl | omega) | (rw [if_pos] <;> first | rfl | omega)))); (try simp only [Act.put, List.setIfInBounds_toArray, List.set])) | (refine Rg4.w4_skip (Rg4.unwant_of 7 64 false rfl rfl rfl) ?_; (try simp only [Act.put, List.setIfInBounds_toArray, List.set])) | (refine Rg4.w4_skip (Rg4.unwant_nil 7 64 false rfl rfl rfl) ?_; (try simp only [Act.put, List.setIfInBounds_toArray, List.set])))
            (refine Rg4.w4_any (Rg4.want_none rfl) rfl ?_; apply Exists.intro; refine ⟨fun w' => ?_, ?_⟩; (focus (first | (go_simp; done) | (go_simp; first | rfl | (rw [if_neg] <;> first | rfl | omega) | (rw [if_pos] <;> first | rfl | omega)))); (try simp only [Act.put, List.setIfInBounds_toArray, List.set]))
            refine Rg4.w4_nil (fun w' hw' hcl' _ => ?_); subst hw'; clear hcl'
            have hm1 : 1 ≤ m2 := hm20
            by_cases hk1 : k2 = 1
            · subst hk1
              replace st := st.qCut (i := 4) get4 hm20
              simp only [List.set, List.map_cons, List.tail_cons, if_true, Nat.sub_self] at st
              go_wp2_with fail
              have st' := st.keep [0, 1, 2, 3, 4] (by decide) (by simp)
              go_roundg (n - (j + 1))
              case measure => omega
              case rel => exact ⟨j + 1, t, _, m2 - 1, 0, by omega, by omega, by go_num, rfl, Lib.hid (by have := HL2.out; simp at this; omega), by omega, Lib.hid (fun y hy => HX2.out y (List.mem_cons_of_mem _ hy)), by simpa [pick] using st'⟩
            · replace st := st.qCut (i := 4) get4 hm20
              rw [if_neg hk1] at st
              simp only [List.set, List.map_cons, List.tail_cons] at st
              go_wp2_with fail
              have st' := st.keep [0, 1, 2, 3, 4] (by decide) (by simp)
              go_roundg (n - (j + 1))
              case measure => omega
              case rel => exact ⟨j + 1, t, _, m2 - 1, k2 - 1, by omega, by omega, by go_num, rfl, Lib.hid (by have := HL2.out; simp at this; omega), by omega, Lib.hid (fun y hy => HX2.out y (List.mem_cons_of_mem _ hy)), by simpa [pick] using st'⟩
          · have hm64 : ((m : Int) != 64) = false := by simp; omega
            go_wp2_with fail
            clear r0
            obtain ⟨fr', al', st', back⟩ := st.sub [1, 3] (by decide) (by simp)
            (try simp only [Value.cells, List.cons_append, List.nil_append, List.set, spl, putIt, pick, List.map_cons, List.map_nil, List.getElem?_cons_zero, List.getElem?_cons_succ, Option.getD_some, List.drop_succ_cons, List.drop_zero, List.drop_nil, List.append_nil, unB] at st')
            refine (netSend_full 1 (wayV1 _ _) st' (by rw [HL.out]; omega) oa on oc bs (st.by (i := 5) get5) hoc (by omega)).mono ?_
            clear st'
            rintro en w ⟨rfl, st'⟩
            replace st := back _ _ (by simp) st'
            clear back st'
            (try simp only [Value.cells, List.cons_append, List.nil_append, List.set, spl, putIt, pick, List.map_cons, List.map_nil, List.getElem?_cons_zero, List.getElem?_cons_succ, Option.getD_some, List.drop_succ_cons, List.drop_zero, List.drop_nil, List.append_nil, unB] at st)
            (try clear hc); have hc := st.facts; (try simp only [factsOf, blkI, blkFacts, rowI, byI, datI, nullI, oldI, penI, rdI, rdAnyI, rdOverI, cellI, Nat.zero_add, Nat.reduceAdd, and_true, true_and, and_self] at hc)
            go_wp2_with fail
            have HL2 := HL
            have HX2 := HX
            have hm2 := hm
            have hm20 : 0 < m := by omega
            clear HL HX hm hf hm64
            generalize bss = bs2 at *
            generalize m = m2 at *
            generalize A = A2 at *
            generalize k = k2 at *
            obtain ⟨x, t, rfl⟩ : ∃ x t, bs2 = x :: t := by
              cases bs2 with
              | nil => have := HL2.out; simp at this; omega
              | cons x t => exact ⟨x, t, rfl⟩
            have st' := st.keep [0, 1, 2, 3, 4] (by decide) (by simp)
            clear st
            simp only [pick, List.map_cons, List.map_nil, List.getElem?_cons_zero, List.getElem?_cons_succ, Option.getD_some] at st'
            have st := st'
            clear st'
            obtain ⟨fr', al', st', back⟩ := st.sub [1, 3] (by decide) (by simp)
            (try simp only [Value.cells, List.cons_append, List.nil_append, List.set, spl, putIt, pick, List.map_cons, List.map_nil, List.getElem?_cons_zero, List.getElem?_cons_succ, Option.getD_some, List.drop_succ_cons, List.drop_zero, List.drop_nil, List.append_nil, unB] at st')
            refine (netNext_some 1 (wayV1 _ _) st').mono ?_
            clear st'
            rintro en w ⟨a3, n3, k3, rfl, hk3, st'⟩
            replace st := back _ _ (by simp) st'
            clear back st'
            (try simp only [Value.cells, List.cons_append, List.nil_append, List.set, spl, putIt, pick, List.map_cons, List.map_nil, List.getElem?_cons_zero, List.getElem?_cons_succ, Option.getD_some, List.drop_succ_cons, List.drop_zero, List.drop_nil, List.append_nil, unB] at st)
            (try clear hc); have hc := st.facts; (try simp only [factsOf, blkI, blkFacts, rowI, byI, datI, nullI, oldI, penI, rdI, rdAnyI, rdOverI, cellI, Nat.zero_add, Nat.reduceAdd, and_true, true_and, and_self] at hc)
            obtain ⟨g, goff, hg⟩ := st.qAt (i := 4) get4 hm20
            subst hg
            have hz : ((m2 : Int) == 0) = false := by simp; omega
            go_wp2_with fail
            refine Rg4.wp_region4_eq #[0, 1, 3, 7, 15, 31, 63, 127, 255, 511, 255, 1279, 3327, 8191, 16383] [] [9, 12] (fun _ => True) [0, 1, 2, 3, 4, 5, 6, 7, 8, 9, 10, 11, 12, 13, 14] (by kernel_rfl) (by kernel_rfl) (by kernel_rfl) (by kernel_rfl) (show Rg4.PB _ by repeat (first | with_reducible exact Rg4.pb_body | with_reducible exact Rg4.pb_bodyD rfl | with_reducible refine Rg4.pb_then ?_ | with_reducible refine Rg4.pb_inBlock ?_ | with_reducible refine Rg4.pb_noGoto ?_)) (trivial) ?_
            replace st := st.drew
            change Rg4.wp4 _ _ _ _ _ _ _ _ _ (World.drew _) _ _
            generalize World.drew _ = w at st ⊢
            (try clear hc); have hc := st.facts; (try simp only [factsOf, blkI, blkFacts, rowI, byI, datI, nullI, oldI, penI, rdI, rdAnyI, rdOverI, cellI, Nat.zero_add, Nat.reduceAdd, and_true, true_and, and_self] at hc)
            (refine Rg4.w4_any (Rg4.want_none rfl) rfl ?_; apply Exists.intro; refine ⟨fun w' => ?_, ?_⟩; (focus (first | (go_simp; done) | (go_simp; first | rfl | (rw [if_neg] <;> first | rfl | omega) | (rw [if_pos] <;> first | rfl | omega)))); (try simp only [Act.put, List.setIfInBounds_toArray, List.set]))
            (refine Rg4.w4_any (Rg4.want_none rfl) rfl ?_; apply Exists.intro; refine ⟨fun w' => ?_, ?_⟩; (focus (first | (go_simp; done) | (go_simp; first | rfl | (rw [if_neg] <;> first | rfl | omega) | (rw [if_pos] <;> first | rfl | omega)))); (try simp only [Act.put, List.setIfInBounds_toArray, List.set]))
            (refine Rg4.w4_any (Rg4.want_none rfl) rfl ?_; apply Exists.intro; refine ⟨fun w' => ?_, ?_⟩; (focus (first | (go_simp; done) | (go_simp; first | rfl | (rw [if_neg] <;> first | rfl | omega) | (rw [if_pos] <;> first | rfl | omega)))); (try simp only [Act.put, List.setIfInBounds_toArray, List.set]))
            (first | (refine Rg4.w4_any (Rg4.want_of 2 59 false rfl rfl rfl) rfl ?_; apply Exists.intro; refine ⟨fun w' => ?_, ?_⟩; (focus (first | (go_simp; done) | (go_simp; first | rfl | (rw [if_neg] <;> first | rfl | omega) | (rw [if_pos] <;> first | rfl | omega)))); (try simp only [Act.put, List.setIfInBounds_toArray, List.set])) | (refine Rg4.w4_skip (Rg4.unwant_of 2 59 false rfl rfl rfl) ?_; (try simp only [Act.put, List.setIfInBounds_toArray, List.set])) | (refine Rg4.w4_skip (Rg4.unwant_nil 2 59 false rfl rfl rfl) ?_; (try simp only [Act.put, List.setIfInBounds_toArray, List.set])))
            (first | (refine Rg4.w4_any (Rg4.want_of 2 59 false rfl rfl rfl) rfl ?_; apply Exists.intro; refine ⟨fun w' => ?_, ?_⟩; (focus (first | (go_simp; done) | (go_simp; first | rfl | (rw [if_neg] <;> first | rfl | omega) | (rw [if_pos] <;> first | rfl | omega)))); (try simp only [Act.put, List.setIfInBounds_toArray, List.set])) | (refine Rg4.w4_skip (Rg4.unwant_of 2 59 false rfl rfl rfl) ?_; (try simp only [Act.put, List.setIfInBounds_toArray, List.set])) | (refine Rg4.w4_skip (Rg4.unwant_nil 2 59 false rfl rfl rfl) ?_; (try simp only [Act.put, List.setIfInBounds_toArray, List.set])))
            (first | (refine Rg4.w4_any (Rg4.want_of 2 59 false rfl rfl rfl) rfl ?_; apply Exists.intro; refine ⟨fun w' => ?_, ?_⟩; (focus (first | (go_simp; done) | (go_simp; first | rfl | (rw [if_neg] <;> first | rfl | omega) | (rw [if_pos] <;> first | rfl | omega)))); (try simp only [Act.put, List.setIfInBounds_toArray, List.set])) | (refine Rg4.w4_skip (Rg4.unwant_of 2 59 false rfl rfl rfl) ?_; (try simp only [Act.put, List.setIfInBounds_toArray, List.set])) | (refine Rg4.w4_skip (Rg4.unwant_nil 2 59 false rfl rfl rfl) ?_; (try simp only [Act.put, List.setIfInBounds_toArray, List.set])))
            (refine Rg4.w4_any (Rg4.want_none rfl) rfl ?_; apply Exists.intro; refine ⟨fun w' => ?_, ?_⟩; (focus (first | (go_simp; done) | (go_simp; first | rfl | (rw [if_neg] <;> first | rfl | omega) | (rw [if_pos] <;> first | rfl | omega)))); (try simp only [Act.put, List.setIfInBounds_toArray, List.set]))
            (refine Rg4.w4_any (Rg4.want_none rfl) rfl ?_; apply Exists.intro; refine ⟨fun w' => ?_, ?_⟩; (focus (first | (go_simp; done) | (go_simp; first | rfl | (rw [if_neg] <;> first | rfl | omega) | (rw [if_pos] <;> first | rfl | omega)))); (try simp only [Act.put, List.setIfInBounds_toArray, List.set]))
            (first | (refine Rg4.w4_any (Rg4.want_of 7 64 false rfl rfl rfl) rfl ?_; apply Exists.intro; refine ⟨fun w' => ?_, ?_⟩; (focus (first | (go_simp; done) | (go_simp; first | rfl | (rw [if_neg] <;> first | rfl | omega) | (rw [if_pos] <;> first | rfl | omega)))); (try simp only [Act.put, List.setIfInBounds_toArray, List.set])) | (refine Rg4.w4_skip (Rg4.unwant_of 7 64 false rfl rfl rfl) ?_; (try simp only [Act.put, List.setIfInBounds_toArray, List.set])) | (refine Rg4.w4_skip (Rg4.unwant_nil 7 64 false rfl rfl rfl) ?_; (try simp only [Act.put, List.setIfInBounds_toArray, List.set])))
            (first | (refine Rg4.w4_read (Rg4.want_of 7 64 false rfl rfl rfl) rfl rfl ?_; apply Exists.intro; refine ⟨fun w' hw' hcl' => ?_, ?_⟩; focus (subst hw'; have q1 := st.qCell (i := 4) (k := 0) get4 rfl; unfold strV at q1; rw [Nat.add_zero] at q1; have e0 := conv_bs (P := Try.prog) (src := 30) (dst := 9) (c := k3) Try.underlying30 Try.underlying5 Try.underlying9 (st.by (i := 5) get5); unfold S at e0; (focus (first | (go_simp; done) | (go_simp; first | rfl | (rw [if_neg] <;> first | rfl | omega) | (rw [if_pos] <;> first | rfl | omega))))); (try simp only [Act.put, List.setIfInBounds_toArray, List.set])) | (refine Rg4.w4_skip (Rg4.unwant_of 7 64 false rfl rfl rfl) ?_; (try simp only [Act.put, List.setIfInBounds_toArray, List.set])) | (refine Rg4.w4_skip (Rg4.unwant_nil 7 64 false rfl rfl rfl) ?_; (try simp only [Act.put, List.setIfInBounds_toArray, List.set])))
            (first | (refine Rg4.w4_any (Rg4.want_of 7 64 false rfl rfl rfl) rfl ?_; apply Exists.intro; refine ⟨fun w' => ?_, ?_⟩; (focus (first | (go_simp; done) | (go_simp; first | rfl | (rw [if_neg] <;> first | rfl | omega) | (rw [if_pos] <;> first | rfl | omega)))); (try simp only [Act.put, List.setIfInBounds_toArray, List.set])) | (refine Rg4.w4_skip (Rg4.unwant_of 7 64 false rfl rfl rfl) ?_; (try simp only [Act.put, List.setIfInBounds_toArray, List.set])) | (refine Rg4.w4_skip (Rg4.unwant_nil 7 64 false rfl rfl rfl) ?_; (try simp only [Act.put, List.setIfInBounds_toArray, List.set])))
            (first | (refine Rg4.w4_any (Rg4.want_of 7 64 false rfl rfl rfl) rfl ?_; apply Exists.intro; refine ⟨fun w' => ?_, ?_⟩; (focus (first | (go_simp; done) | (go_simp; first | rfl | (rw [if_neg] <;> first | rfl | omega) | (rw [if_pos] <;> first | rfl | omega)))); (try simp only [Act.put, List.setIfInBounds_toArray, List.set])) | (refine Rg4.w4_skip (Rg4.unwant_of 7 64 false rfl rfl rfl) ?_; (try simp only [Act.put, List.setIfInBounds_toArray, List.set])) | (refine Rg4.w4_skip (Rg4.unwant_nil 7 64 false rfl rfl rfl) ?_; (try simp only [Act.put, List.setIfInBounds_toArray, List.set])))
            (first | (refine Rg4.w4_read (Rg4.want_of 7 64 false rfl rfl rfl) rfl rfl ?_; apply Exists.intro; refine ⟨fun w' hw' hcl' => ?_, ?_⟩; focus (subst hw'; have q1 := st.qCell (i := 4) (k := 0) get4 rfl; unfold strV at q1; rw [Nat.add_zero] at q1; have e0 := conv_bs (P := Try.prog) (src := 30) (dst := 9) (c := k3) Try.underlying30 Try.underlying5 Try.underlying9 (st.by (i := 5) get5); unfold S at e0; (focus (first | (go_simp; done) | (go_simp; first | rfl | (rw [if_neg] <;> first | rfl | omega) | (rw [if_pos] <;> first | rfl | omega))))); (try simp only [Act.put, List.setIfInBounds_toArray, List.set])) | (refine Rg4.w4_skip (Rg4.unwant_of 7 64 false rfl rfl rfl) ?_; (try simp only [Act.put, List.setIfInBounds_toArray, List.set])) | (refine Rg4.w4_skip (Rg4.unwant_nil 7 64 false rfl rfl rfl) ?_; (try simp only [Act.put, List.setIfInBounds_toArray, List.set])))
            (first | (refine Rg4.w4_any (Rg4.want_of 7 64 false rfl rfl rfl) rfl ?_; apply Exists.intro; refine ⟨fun w' => ?_, ?_⟩; (focus (first | (go_simp; done) | (go_simp; first | rfl | (rw [if_neg] <;> first | rfl | omega) | (rw [if_pos] <;> first | rfl | omega)))); (try simp only [Act.put, List.setIfInBounds_toArray, List.set])) | (refine Rg4.w4_skip (Rg4.unwant_of 7 64 false rfl rfl rfl) ?_; (try simp only [Act.put, List.setIfInBounds_toArray, List.set])) | (refine Rg4.w4_skip (Rg4.unwant_nil 7 64 false rfl rfl rfl) ?_; (try simp only [Act.put, List.setIfInBounds_toArray, List.set])))
            (refine Rg4.w4_any (Rg4.want_none rfl) rfl ?_; apply Exists.intro; refine ⟨fun w' => ?_, ?_⟩; (focus (first | (go_simp; done) | (go_simp; first | rfl | (rw [if_neg] <;> first | rfl | omega) | (rw [if_pos] <;> first | rfl | omega)))); (try simp only [Act.put, List.setIfInBounds_toArray, List.set]))
            refine Rg4.w4_nil (fun w' hw' hcl' _ => ?_); subst hw'; clear hcl'
            have hm1 : 1 ≤ m2 := hm20
            by_cases hk1 : k2 = 1
            · subst hk1
              replace st := st.qCut (i := 4) get4 hm20
              simp only [List.set, List.map_cons, List.tail_cons, if_true, Nat.sub_self] at st
              go_wp2_with fail
              have st' := st.keep [0, 1, 2, 3, 4] (by decide) (by simp)
              go_roundg (n - (j + 1))
              case measure => omega
              case rel => exact ⟨j + 1, t, _, m2 - 1, 0, by omega, by omega, by go_num, rfl, Lib.hid (by have := HL2.out; simp at this; omega), by omega, Lib.hid (fun y hy => HX2.out y (List.mem_cons_of_mem _ hy)), by simpa [pick] using st'⟩
            · replace st := st.qCut (i := 4) get4 hm20
              rw [if_neg hk1] at st
              simp only [List.set, List.map_cons, List.tail_cons] at st
              go_wp2_with fail
              have st' := st.keep [0, 1, 2, 3, 4] (by decide) (by simp)
              go_roundg (n - (j + 1))
              case measure => omega
              case rel => exact ⟨j + 1, t, _, m2 - 1, k2 - 1, by omega, by omega, by go_num, rfl, Lib.hid (by have := HL2.out; simp at this; omega), by omega, Lib.hid (fun y hy => HX2.out y (List.mem_cons_of_mem _ hy)), by simpa [pick] using st'⟩
      · skip
        (try simp only [Value.cells, List.cons_append, List.nil_append, List.set, spl, putIt, pick, List.map_cons, List.map_nil, List.getElem?_cons_zero, List.getElem?_cons_succ, Option.getD_some, List.drop_succ_cons, List.drop_zero, List.drop_nil, List.append_nil, unB] at st)
        (try clear hc); have hc := st.facts; (try simp only [factsOf, blkI, blkFacts, rowI, byI, datI, nullI, oldI, penI, rdI, rdAnyI, rdOverI, cellI, Nat.zero_add, Nat.reduceAdd, and_true, true_and, and_self] at hc)
        by_cases hf : m < 64
        · go_wp2_with fail
          clear r0
          obtain ⟨fr', al', st', back⟩ := st.sub [1, 3] (by decide) (by simp)
          (try simp only [Value.cells, List.cons_append, List.nil_append, List.set, spl, putIt, pick, List.map_cons, List.map_nil, List.getElem?_cons_zero, List.getElem?_cons_succ, Option.getD_some, List.drop_succ_cons, List.drop_zero, List.drop_nil, List.append_nil, unB] at st')
          refine (netSend_room 1 (wayV1 _ _) st' (by rw [HL.out]; exact hf) oa on oc bs (st.by (i := 5) get5) hoc (by omega)).mono ?_
          clear st'
          rintro en w ⟨rfl, st'⟩
          replace st := back _ _ (by simp) st'
          clear back st'
          (try simp only [Value.cells, List.cons_append, List.nil_append, List.set, spl, putIt, pick, List.map_cons, List.map_nil, List.getElem?_cons_zero, List.getElem?_cons_succ, Option.getD_some, List.drop_succ_cons, List.drop_zero, List.drop_nil, List.append_nil, unB] at st)
          (try clear hc); have hc := st.facts; (try simp only [factsOf, blkI, blkFacts, rowI, byI, datI, nullI, oldI, penI, rdI, rdAnyI, rdOverI, cellI, Nat.zero_add, Nat.reduceAdd, and_true, true_and, and_self] at hc)
          go_wp2_with (first
              | (((with_reducible refine wl_append ?_ (fun K hK => ?_)); (rfl); (obtain ⟨inf, hinf, hz0, hz1, hz2⟩ := strInfoN); (refine owp_qAppend rfl st 4 get4 Try.underlying26 hinf hz0 hz1 hz2 rfl rfl rfl ((st.blk (i := 6) get6).cell 0) rfl (by simp only [maxLen]; omega) (by omega) ?_); (clear hinf hz0 hz1 hz2 inf); (clear st; intro v' w st); (obtain ⟨_, A2, k2, rfl, hcv⟩ := st.qForm (i := 4) get4)); (try simp only [Value.cells, List.cons_append, List.nil_append, List.set, spl, putIt, pick, List.map_cons, List.map_nil, List.getElem?_cons_zero, List.getElem?_cons_succ, Option.getD_some, List.drop_succ_cons, List.drop_zero, List.drop_nil, List.append_nil, unB] at st); (try clear hc); have hc := st.facts; (try simp only [factsOf, blkI, blkFacts, rowI, byI, datI, nullI, oldI, penI, rdI, rdAnyI, rdOverI, cellI, Nat.zero_add, Nat.reduceAdd, and_true, true_and, and_self] at hc))
              | ((with_reducible refine wl_buildSlice ?_ (fun K hK => ?_)); (rfl); (refine owp_buildRow (o := ⟨some 9999, _, _, _, _, _⟩) rfl st 9 1 ?_; refine ⟨0, #[], ?_, by simp, by simp [maxLen], ?_⟩; (focus (go_simp; (first | done | rfl))); (clear st; intro b9999 w hb st; clear hb)); (try simp only [Value.cells, List.cons_append, List.nil_append, List.set, spl, putIt, pick, List.map_cons, List.map_nil, List.getElem?_cons_zero, List.getElem?_cons_succ, Option.getD_some, List.drop_succ_cons, List.drop_zero, List.drop_nil, List.append_nil, unB] at st); (try clear hc); have hc := st.facts; (try simp only [factsOf, blkI, blkFacts, rowI, byI, datI, nullI, oldI, penI, rdI, rdAnyI, rdOverI, cellI, Nat.zero_add, Nat.reduceAdd, and_true, true_and, and_self] at hc))
              | ((first
                | ((with_reducible refine wl_convert ?_ (fun K hK => ?_)); rfl; (first | (refine owp_bs (o := ⟨some 36, _, _, _, _, _⟩) rfl st 0 get0 rfl Try.underlying30 Try.underlying5 Try.underlying9 ?_) | (refine owp_bs (o := ⟨some 36, _, _, _, _, _⟩) rfl st 1 get1 rfl Try.underlying30 Try.underlying5 Try.underlying9 ?_) | (refine owp_bs (o := ⟨some 36, _, _, _, _, _⟩) rfl st 2 get2 rfl Try.underlying30 Try.underlying5 Try.underlying9 ?_) | (refine owp_bs (o := ⟨some 36, _, _, _, _, _⟩) rfl st 3 get3 rfl Try.underlying30 Try.underlying5 Try.underlying9 ?_) | (refine owp_bs (o := ⟨some 36, _, _, _, _, _⟩) rfl st 4 get4 rfl Try.underlying30 Try.underlying5 Try.underlying9 ?_) | (refine owp_bs (o := ⟨some 36, _, _, _, _, _⟩) rfl st 5 get5 rfl Try.underlying30 Try.underlying5 Try.underlying9 ?_) | (refine owp_bs (o := ⟨some 36, _, _, _, _, _⟩) rfl st 6 get6 rfl Try.underlying30 Try.underlying5 Try.underlying9 ?_) | (refine owp_bs (o := ⟨some 36, _, _, _, _, _⟩) rfl st 7 get7 rfl Try.underlying30 Try.underlying5 Try.underlying9 ?_)))
                | ((with_reducible refine wl_buildSlice ?_ (fun K hK => ?_)); rfl; refine owp_buildSlice (o := ⟨some 37, _, _, _, _, _⟩) rfl st ?_; apply Exists.intro; apply Exists.intro; apply Exists.intro; apply Exists.intro; refine ⟨?_, ?_⟩; (focus (go_simp; (first | done | exact ⟨⟨rfl, rfl⟩, rfl⟩ | rfl))); (clear st; intro b37 w hb st; clear hb))
                | ((with_reducible refine wl_convert ?_ (fun K hK => ?_)); rfl; (first | (refine owp_bs (o := ⟨some 66, _, _, _, _, _⟩) rfl st 0 get0 rfl Try.underlying30 Try.underlying5 Try.underlying9 ?_) | (refine owp_bs (o := ⟨some 66, _, _, _, _, _⟩) rfl st 1 get1 rfl Try.underlying30 Try.underlying5 Try.underlying9 ?_) | (refine owp_bs (o := ⟨some 66, _, _, _, _, _⟩) rfl st 2 get2 rfl Try.underlying30 Try.underlying5 Try.underlying9 ?_) | (refine owp_bs (o := ⟨some 66, _, _, _, _, _⟩) rfl st 3 get3 rfl Try.underlying30 Try.underlying5 Try.underlying9 ?_) | (refine owp_bs (o := ⟨some 66, _, _, _, _, _⟩) rfl st 4 get4 rfl Try.underlying30 Try.underlying5 Try.underlying9 ?_) | (refine owp_bs (o := ⟨some 66, _, _, _, _, _⟩) rfl st 5 get5 rfl Try.underlying30 Try.underlying5 Try.underlying9 ?_) | (refine owp_bs (o := ⟨some 66, _, _, _, _, _⟩) rfl st 6 get6 rfl Try.underlying30 Try.underlying5 Try.underlying9 ?_) | (refine owp_bs (o := ⟨some 66, _, _, _, _, _⟩) rfl st 7 get7 rfl Try.underlying30 Try.underlying5 Try.underlying9 ?_)))
                | ((with_reducible refine wl_convert ?_ (fun K hK => ?_)); rfl; (first | (refine owp_bs (o := ⟨some 90, _, _, _, _, _⟩) rfl st 0 get0 rfl Try.underlying30 Try.underlying5 Try.underlying9 ?_) | (refine owp_bs (o := ⟨some 90, _, _, _, _, _⟩) rfl st 1 get1 rfl Try.underlying30 Try.underlying5 Try.underlying9 ?_) | (refine owp_bs (o := ⟨some 90, _, _, _, _, _⟩) rfl st 2 get2 rfl Try.underlying30 Try.underlying5 Try.underlying9 ?_) | (refine owp_bs (o := ⟨some 90, _, _, _, _, _⟩) rfl st 3 get3 rfl Try.underlying30 Try.underlying5 Try.underlying9 ?_) | (refine owp_bs (o := ⟨some 90, _, _, _, _, _⟩) rfl st 4 get4 rfl Try.underlying30 Try.underlying5 Try.underlying9 ?_) | (refine owp_bs (o := ⟨some 90, _, _, _, _, _⟩) rfl st 5 get5 rfl Try.underlying30 Try.underlying5 Try.underlying9 ?_) | (refine owp_bs (o := ⟨some 90, _, _, _, _, _⟩) rfl st 6 get6 rfl Try.underlying30 Try.underlying5 Try.underlying9 ?_) | (refine owp_bs (o := ⟨some 90, _, _, _, _, _⟩) rfl st 7 get7 rfl Try.underlying30 Try.underlying5 Try.underlying9 ?_)))); (try simp only [Value.cells, List.cons_append, List.nil_append, List.set, spl, putIt, pick, List.map_cons, List.map_nil, List.getElem?_cons_zero, List.getElem?_cons_succ, Option.getD_some, List.drop_succ_cons, List.drop_zero, List.drop_nil, List.append_nil, unB] at st); (try clear hc); have hc := st.facts; (try simp only [factsOf, blkI, blkFacts, rowI, byI, datI, nullI, oldI, penI, rdI, rdAnyI, rdOverI, cellI, Nat.zero_add, Nat.reduceAdd, and_true, true_and, and_self] at hc)))
          have eq2 : bss.map strV ++ [.string ⟨bs.toArray⟩] = (bss ++ [bs]).map strV := by simp [strV]
          rw [eq2] at st
          have HL2 : Hid ((bss ++ [bs]).length = m + 1) := Lib.hid (by simp [HL.out])
          have HX2 : Hid (∀ x ∈ bss ++ [bs], x.length ≤ 100) := Lib.hid (fun x hx => by rcases List.mem_append.1 hx with hx | hx; exact HX.out x hx; rw [List.mem_singleton.1 hx]; exact hbl)
          clear eq2 hc
          obtain ⟨bs2, hbs2⟩ : ∃ bs2, bss ++ [bs] = bs2 := ⟨_, rfl⟩
          rw [hbs2] at st HL2 HX2
          obtain ⟨m2, hme⟩ : ∃ m2, m + 1 = m2 := ⟨_, rfl⟩
          rw [hme] at st HL2 ⊢
          have hm2 : m2 ≤ 64 := by omega
          have hm20 : 0 < m2 := by omega
          clear hbs2
          have st' := st.keep [0, 1, 2, 3, 4] (by decide) (by simp)
          go_roundg (n - (j + 1))
          case measure => omega
          case rel => exact ⟨j + 1, bs2, A2, m2, k2, by omega, by omega, by go_num, rfl, HL2, hm2, HX2, by simpa [pick] using st'⟩
        · have hm64 : ((m : Int) != 64) = false := by simp; omega
          go_wp2_with fail
          clear r0
          obtain ⟨fr', al', st', back⟩ := st.sub [1, 3] (by decide) (by simp)
          (try simp only [Value.cells, List.cons_append, List.nil_append, List.set, spl, putIt, pick, List.map_cons, List.map_nil, List.getElem?_cons_zero, List.getElem?_cons_succ, Option.getD_some, List.drop_succ_cons, List.drop_zero, List.drop_nil, List.append_nil, unB] at st')
          refine (netSend_full 1 (wayV1 _ _) st' (by rw [HL.out]; omega) oa on oc bs (st.by (i := 5) get5) hoc (by omega)).mono ?_
          clear st'
          rintro en w ⟨rfl, st'⟩
          replace st := back _ _ (by simp) st'
          clear back st'
          (try simp only [Value.cells, List.cons_append, List.nil_append, List.set, spl, putIt, pick, List.map_cons, List.map_nil, List.getElem?_cons_zero, List.getElem?_cons_succ, Option.getD_some, List.drop_succ_cons, List.drop_zero, List.drop_nil, List.append_nil, unB] at st)
          (try clear hc); have hc := st.facts; (try simp only [factsOf, blkI, blkFacts, rowI, byI, datI, nullI, oldI, penI, rdI, rdAnyI, rdOverI, cellI, Nat.zero_add, Nat.reduceAdd, and_true, true_and, and_self] at hc)
          go_wp2_with fail
          have HL2 := HL
          have HX2 := HX
          have hm2 := hm
          have hm20 : 0 < m := by omega
          clear HL HX hm hf hm64
          generalize bss = bs2 at *
          generalize m = m2 at *
          generalize A = A2 at *
          generalize k = k2 at *
          have st' := st.keep [0, 1, 2, 3, 4] (by decide) (by simp)
          go_roundg (n - (j + 1))
          case measure => omega
          case rel => exact ⟨j + 1, bs2, A2, m2, k2, by omega, by omega, by go_num, rfl, HL2, hm2, HX2, by simpa [pick] using st'⟩
    · obtain rfl : j = n := by omega
      go_wp2_with fail
      go_loopg [77] m (fun kk i wr => ∃ q : Nat, q ≤ m ∧ kk = m - q ∧ i = .int .i64 (q : Int) ∧ Own (fun _ => False) (fun _ => True) W [oldI W, blkI p [.chan (some c0), .chan (some c1)], chI c0 [], chI c1 (bss.drop q), qI 9 (.slice A m k) m (bss.map strV)] wr)
      case atStart => exact ⟨0, by omega, by omega, rfl, by simpa using st⟩
      case round =>
        obtain ⟨q, hq, rfl, rfl, st'⟩ := hrel
        clear st hc
        have st := st'
        clear st'
        (try simp only [Value.cells, List.cons_append, List.nil_append, List.set, spl, putIt, pick, List.map_cons, List.map_nil, List.getElem?_cons_zero, List.getElem?_cons_succ, Option.getD_some, List.drop_succ_cons, List.drop_zero, List.drop_nil, List.append_nil, unB] at st)
        (try clear hc); have hc := st.facts; (try simp only [factsOf, blkI, blkFacts, rowI, byI, datI, nullI, oldI, penI, rdI, rdAnyI, rdOverI, cellI, Nat.zero_add, Nat.reduceAdd, and_true, true_and, and_self] at hc)
        by_cases hqm : q < m
        · have hql : q < bss.length := by rw [HL.out]; exact hqm
          obtain ⟨g, goff, hg⟩ := st.qAt (i := 4) get4 (by omega)
          subst hg
          have hdr : bss.drop q = bss[q] :: bss.drop (q + 1) := (List.getElem_cons_drop hql).symm
          have r0 := st.qCell (i := 4) (k := q) (u := strV bss[q]) get4 (by rw [List.getElem?_map, List.getElem?_eq_getElem hql]; rfl)
          unfold strV at r0
          rw [hdr] at st
          clear hdr
          generalize bss[q] = x at *
          go_wp2_with fail
          clear r0
          obtain ⟨fr', al', st', back⟩ := st.sub [1, 3] (by decide) (by simp)
          (try simp only [Value.cells, List.cons_append, List.nil_append, List.set, spl, putIt, pick, List.map_cons, List.map_nil, List.getElem?_cons_zero, List.getElem?_cons_succ, Option.getD_some, List.drop_succ_cons, List.drop_zero, List.drop_nil, List.append_nil, unB] at st')
          refine (netNext_some 1 (wayV1 _ _) st').mono ?_
          clear st'
          rintro en w ⟨a3, n3, k3, rfl, hk3, st'⟩
          replace st := back _ _ (by simp) st'
          clear back st'
          (try simp only [Value.cells, List.cons_append, List.nil_append, List.set, spl, putIt, pick, List.map_cons, List.map_nil, List.getElem?_cons_zero, List.getElem?_cons_succ, Option.getD_some, List.drop_succ_cons, List.drop_zero, List.drop_nil, List.append_nil, unB] at st)
          (try clear hc); have hc := st.facts; (try simp only [factsOf, blkI, blkFacts, rowI, byI, datI, nullI, oldI, penI, rdI, rdAnyI, rdOverI, cellI, Nat.zero_add, Nat.reduceAdd, and_true, true_and, and_self] at hc)
          have e0 := conv_bs (P := Try.prog) (src := 30) (dst := 9) (c := k3) Try.underlying30 Try.underlying5 Try.underlying9 (st.by (i := 5) get5)
          unfold S at e0
          go_wp2_with fail
          have st' := st.keep [0, 1, 2, 3, 4] (by decide) (by simp)
          go_roundg (m - (q + 1))
          case measure => omega
          case rel => exact ⟨q + 1, by omega, by omega, by go_num, by simpa [pick] using st'⟩
        · obtain rfl : q = m := by omega
          have hdr : bss.drop q = [] := List.drop_of_length_le (by rw [HL.out]; exact Nat.le_refl _)
          rw [hdr] at st
          go_wp2_with fail
          refine (netLen_c 1 (wayV1 _ _) (st.keep [1, 3] (by decide) (by simp))).mono ?_
          rintro en w' ⟨rfl, rfl⟩
          go_wp2_with fail
          refine (netLen_c 0 (wayV0 _ _) (st.keep [1, 2] (by decide) (by simp))).mono ?_
          rintro en w' ⟨rfl, rfl⟩
          go_wp2_with fail
          go_ret
          exact ⟨rfl, st.ext0⟩
end Go.Proofs.Ytcminppmmhinjaa
