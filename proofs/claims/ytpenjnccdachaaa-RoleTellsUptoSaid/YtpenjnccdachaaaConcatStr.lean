/- slices.Concat at []string. -/
import Derived.Test.YtpenjnccdachaaaNameS
import Derived.Lib.AppendZeros
namespace Go.Proofs.Ytpenjnccdachaaa
set_option linter.unusedSimpArgs false
set_option linter.unusedVariables false
open Go Go.RowKit
/-- A slice of slices. -/
def slsR {α : Type} [Flt α] : World → Nat → Nat → List α → Prop := fun w b o x => ∃ a n c, w.cell? ⟨b, o, none⟩ = some (.slice a n c) ∧ Fl w a n x
theorem wl_appendz {P : Program} {Q : Exit → Act → World → Prop} {a : Act} {w : World} {ops : Array Oper} {rest : List Oper} {d : Option Tmp} {s x : Operand} {t u : TypeId} {ty : TypeId} {pos : String} {af : Array Edge} {gd : Option (Nat × Bool)} (hg : Region.wanted ⟨d, .call { callee := .builtin .append, args := #[s, x], argTypes := #[t, u] }, ty, pos, af, gd⟩ (yielded ops a.tmps) = true)
    (h : ∀ K : Act → World → Prop, (∀ a w, wpList P ops Q rest a w → K a w) → Oper.wp P ⟨d, .call { callee := .builtin .append, args := #[s, x], argTypes := #[t, u] }, ty, pos, af, gd⟩ a w K Q) : wpList P ops Q (⟨d, .call { callee := .builtin .append, args := #[s, x], argTypes := #[t, u] }, ty, pos, af, gd⟩ :: rest) a w := wpl_at hg h
theorem owp_appendz {P : Program} {o : Oper} {a : Act} {w w' : World} {K : Act → World → Prop} {Q : Exit → Act → World → Prop} {s x : Operand} {t u : TypeId} {v1 v2 v : Value} (ho : o.op = .call { callee := .builtin .append, args := #[s, x], argTypes := #[t, u] }) (h1 : a.eval s = v1) (h2 : a.eval x = v2)
    (hr : (Builtin.append_ #[t, u] o.type #[v1, v2]).run P w = .ok v w') (h : K (a.put o.dst v) w') : o.wp P a w K Q :=
  owp_run (v := v) (w' := w') (by simp [execOp, ho, resolve, invoke, builtin, h1, h2, hr, Result.andThen]) h
set_option maxRecDepth 100000 in
set_option maxHeartbeats 1000000 in
theorem growStr_any (n : Nat) (W : World) (hn : n ≤ 4000000) :
    Calls Try.prog 147 #[.slice none 0 0, .int .i64 (n : Int)] W fun e w' => ∃ va vc, e = .returned (.slice va 0 vc) ∧ FreshI W w' (rowI 9 1 (.slice va 0 vc) 0 (cellsL ([] : List (List UInt8)))) := by
  by_cases h0 : n = 0
  · subst h0
    go_enter Try.func147, Try.ntmps147
    go_wp2_with fail
    go_ret
    exact ⟨none, 0, rfl, FreshI.nilRow _ _ _⟩
  · obtain ⟨i0, hi, hz0, hz1, hz2⟩ := strInfo
    have ha := fun ty => Lib.run_append_nil_zeros (P := Try.prog) W 64 3 ty 9 i0 (S []) .i64 .i64 Try.underlying64 Try.underlying3 hi hz0 n (by omega) (by omega) (by omega) (by rw [hz2]; omega)
    have hcap := grownCap_le_maxLen W n 0 9 (by simp only [maxLen]; omega)
    have hge := grownCap_ge W n 0 9
    generalize grownCap W n 0 9 = G at *
    have hsz : (Builtin.zeroCells (S []).cells n ++ Builtin.zeroCells (S []).cells (G - n)).size = G * 1 := by
      rw [Array.size_append, size_zeroCells, size_zeroCells]; simp [S, Value.cells]; omega
    have hG : G ≤ 9223372036854775807 := by simpa [maxLen] using hcap
    generalize Builtin.zeroCells (S []).cells n ++ Builtin.zeroCells (S []).cells (G - n) = cur at *
    have HF : Hid (FreshI W (W.drew.alloc (.cells cur 9)) (rowI 9 1 (.slice (some ⟨W.heap.size, 0, none⟩) 0 G) 0 (cellsL ([] : List (List UInt8))))) := Lib.hid (by
      refine ⟨(Ext.refl W).drew.alloc _, fun k => k = W.heap.size, ⟨World.ownsRow_made W.drew cur G (Nat.zero_le _) hcap hsz, fun k hk => by cases hk; rfl⟩, fun b hb => ?_⟩
      subst hb
      exact ⟨Nat.le_refl _, by show _ < (W.heap.push _).size; simp⟩)
    clear hi hz0 hz1 hz2 hcap hsz
    go_enter Try.func147, Try.ntmps147
    go_wp2_with ((with_reducible refine wl_appendz ?_ (fun K hK => ?_)); (rfl); (refine owp_appendz rfl rfl rfl (ha _) ?_))
    go_ret
    exact ⟨_, _, rfl, HF.out⟩
def lenSum {α : Type} (ls : List (List α)) : Nat := (ls.map List.length).sum
theorem lenSum_snoc {α : Type} (ls : List (List α)) (l : List α) : lenSum (ls ++ [l]) = lenSum ls + l.length := by simp [lenSum]
theorem lenSum_le {α : Type} : ∀ (ls : List (List α)) (j : Nat), lenSum (ls.take j) ≤ lenSum ls
  | [], j => by simp [lenSum]
  | l :: ls, 0 => by simp [lenSum]
  | l :: ls, j + 1 => by have := lenSum_le ls j; simp [lenSum] at *; omega
instance slsR_stb {α : Type} [Flt α] : Stb (slsR (α := α)) := ⟨fun _ _ _ _ _ hx ⟨a, n, c, h1, h2⟩ => ⟨a, n, c, hx.cell h1, h2.ext hx⟩⟩
set_option maxRecDepth 100000 in
set_option maxHeartbeats 1000000 in
theorem concatStr_any (a : Option Addr) (n c : Nat) (ls : List (List (List UInt8))) (W : World) (h : Arr 1 slsR W a n ls) (hn : n ≤ 1000) (hs : lenSum ls ≤ 2000000) :
    Calls Try.prog 109 #[.slice a n c] W fun e w' => ∃ va vc, e = .returned (.slice va ls.flatten.length vc) ∧ NewStr W w' va vc ls.flatten := by
  have H := Lib.hid h
  have HN := Lib.hid (And.intro h.1 hs)
  have st := Own.startOld W
  clear h hs
  (try simp only [Value.cells, List.cons_append, List.nil_append, List.set, spl, putIt, pick, List.map_cons, List.map_nil, List.getElem?_cons_zero, List.getElem?_cons_succ, Option.getD_some, List.drop_succ_cons, List.drop_zero, List.drop_nil, List.append_nil, unB] at st)
  (try clear hc); have hc := st.facts; (try simp only [factsOf, blkI, blkFacts, rowI, byI, datI, nullI, oldI, penI, rdI, rdAnyI, rdOverI, Nat.zero_add, Nat.reduceAdd, and_true, true_and, and_self] at hc)
  go_enter Try.func109, Try.ntmps109
  go_wp2_with fail
  go_loopg [3, 11] n (fun k v i wr => ∃ (j q : Nat), j ≤ n ∧ k = n - j ∧ q ≤ 2000000 ∧ Hid (q = lenSum (ls.take j)) ∧ i = .int .i64 (j : Int) ∧ v = .int .i64 (q : Int) ∧ Own (fun _ => False) (fun _ => True) W [oldI W] wr)
  case atStart => exact ⟨0, 0, by omega, by omega, by omega, Lib.hid (by simp [lenSum]), rfl, rfl, st⟩
  case round =>
    obtain ⟨j, q, hj, rfl, hq, HQ, rfl, rfl, st'⟩ := hrel
    clear st hc
    have st := st'
    clear st'
    (try simp only [Value.cells, List.cons_append, List.nil_append, List.set, spl, putIt, pick, List.map_cons, List.map_nil, List.getElem?_cons_zero, List.getElem?_cons_succ, Option.getD_some, List.drop_succ_cons, List.drop_zero, List.drop_nil, List.append_nil, unB] at st)
    (try clear hc); have hc := st.facts; (try simp only [factsOf, blkI, blkFacts, rowI, byI, datI, nullI, oldI, penI, rdI, rdAnyI, rdOverI, Nat.zero_add, Nat.reduceAdd, and_true, true_and, and_self] at hc)
    by_cases hjn : j < n
    · obtain ⟨b, off, ha, hcell⟩ := H.out.2 (by omega)
      have hjl : j < ls.length := by have := HN.out.1; omega
      have hel := hcell j ls[j] (List.getElem?_eq_getElem hjl)
      have hts : ls.take (j + 1) = ls.take j ++ [ls[j]] := (List.take_append_getElem hjl).symm
      clear hcell
      obtain ⟨a1, n1, c1, hc1, hf1⟩ := hel
      rw [Nat.mul_one] at hc1
      have r0 := st.oldCell (i := 0) get0 hc1
      have hq2 : q + n1 ≤ 2000000 := by
        have h1 := lenSum_le ls (j + 1)
        rw [hts, lenSum_snoc, ← HQ.out, ← hf1.1] at h1
        have := HN.out.2; omega
      have HX : Hid (q + n1 = lenSum (ls.take (j + 1))) := Lib.hid (by rw [hts, lenSum_snoc, ← HQ.out, ← hf1.1])
      clear hts hf1 hc1
      subst ha
      have hng : ¬ ((q : Int) + n1 < 0) := by omega
      go_wp2_with fail
      go_roundg (n - (j + 1))
      case measure => omega
      case rel => exact ⟨j + 1, q + n1, by omega, rfl, hq2, HX, by go_num, by go_num, st⟩
    · obtain rfl : j = n := by omega
      go_wp2_with fail
      refine (growStr_any q _ (by omega)).mono ?_
      rintro en w ⟨va, vc, rfl, hfr⟩
      replace st := st.fresh hfr
      clear hfr
      (try simp only [Value.cells, List.cons_append, List.nil_append, List.set, spl, putIt, pick, List.map_cons, List.map_nil, List.getElem?_cons_zero, List.getElem?_cons_succ, Option.getD_some, List.drop_succ_cons, List.drop_zero, List.drop_nil, List.append_nil, unB] at st)
      (try clear hc); have hc := st.facts; (try simp only [factsOf, blkI, blkFacts, rowI, byI, datI, nullI, oldI, penI, rdI, rdAnyI, rdOverI, Nat.zero_add, Nat.reduceAdd, and_true, true_and, and_self] at hc)
      go_wp2_with fail
      go_loopg [6, 27] j (fun k v i wr => ∃ (j' m : Nat) (va : Option Addr) (vc : Nat), j' ≤ j ∧ k = j - j' ∧ m ≤ 2000000 ∧ Hid (m = lenSum (ls.take j')) ∧ i = .int .i64 (j' : Int) ∧ v = .slice va m vc ∧ Own (fun _ => False) (fun _ => True) W [oldI W, rowI 9 1 (.slice va m vc) m (cellsL (ls.take j').flatten)] wr)
      case atStart => exact ⟨0, 0, va, vc, by omega, by omega, by omega, Lib.hid (by simp [lenSum]), rfl, rfl, st⟩
      case round =>
        obtain ⟨i, m, va, vc, hi, rfl, hm, HM, rfl, rfl, st'⟩ := hrel
        clear st hc
        have st := st'
        clear st'
        (try simp only [Value.cells, List.cons_append, List.nil_append, List.set, spl, putIt, pick, List.map_cons, List.map_nil, List.getElem?_cons_zero, List.getElem?_cons_succ, Option.getD_some, List.drop_succ_cons, List.drop_zero, List.drop_nil, List.append_nil, unB] at st)
        (try clear hc); have hc := st.facts; (try simp only [factsOf, blkI, blkFacts, rowI, byI, datI, nullI, oldI, penI, rdI, rdAnyI, rdOverI, Nat.zero_add, Nat.reduceAdd, and_true, true_and, and_self] at hc)
        by_cases hin : i < j
        · obtain ⟨b, off, ha, hcell⟩ := H.out.2 (by omega)
          have hjl : i < ls.length := by have := HN.out.1; omega
          have hel := hcell i ls[i] (List.getElem?_eq_getElem hjl)
          have hts : ls.take (i + 1) = ls.take i ++ [ls[i]] := (List.take_append_getElem hjl).symm
          clear hcell
          obtain ⟨a1, n1, c1, hc1, hf1⟩ := hel
          rw [Nat.mul_one] at hc1
          have r0 := st.oldCell (i := 0) get0 hc1
          have hq2 : m + n1 ≤ 2000000 := by
            have h1 := lenSum_le ls (i + 1)
            rw [hts, lenSum_snoc, ← HM.out, ← hf1.1] at h1
            have := HN.out.2; omega
          have HX : Hid (m + n1 = lenSum (ls.take (i + 1)) ∧ (ls.take (i + 1)).flatten = (ls.take i).flatten ++ ls[i]) := Lib.hid ⟨by rw [hts, lenSum_snoc, ← HM.out, ← hf1.1], by rw [hts, List.flatten_append, List.flatten_singleton]⟩
          have HF := Lib.hid hf1
          clear hts hf1 hc1
          generalize ls[i] = x at *
          subst ha
          go_wp2_with (first
              | ((with_reducible refine wl_append ?_ (fun K hK => ?_)); (rfl); (obtain ⟨inf, hinf, hz0, hz1, hz2⟩ := strInfo); (refine owp_append rfl st 1 get1 Try.underlying64 hinf hz0 hz1 hz2 rfl (by decide) rfl rfl ((st.oldFl (i := 0) get0 HF.out).flat) (by first | exact cellsL_all _ | simp [Value.oneCell']) (by simp only [maxLen]; omega) (by omega) ?_); (clear hinf hz0 hz1 hz2 inf); (clear st; intro v' w st); (obtain ⟨va', vc', rfl⟩ := own_slice (st.row (i := 1) get1)); (try simp only [Value.cells, List.cons_append, List.nil_append, List.set, spl, putIt, pick, List.map_cons, List.map_nil, List.getElem?_cons_zero, List.getElem?_cons_succ, Option.getD_some, List.drop_succ_cons, List.drop_zero, List.drop_nil, List.append_nil, unB] at st); (try simp only [Nat.zero_add] at st); (try clear hc); have hc := st.facts; (try simp only [factsOf, blkI, blkFacts, rowI, byI, datI, nullI, oldI, penI, rdI, rdAnyI, rdOverI, Nat.zero_add, Nat.reduceAdd, and_true, true_and, and_self] at hc)))
          go_roundg (j - (i + 1))
          case measure => omega
          case rel => exact ⟨i + 1, m + n1, va', vc', by omega, rfl, hq2, Lib.hid HX.out.1, by go_num, rfl, by rw [HX.out.2, cellsL_append]; exact st⟩
        · obtain rfl : i = j := by omega
          have htk : ls.take i = ls := List.take_of_length_le (by have := HN.out.1; omega)
          have hmm : m = ls.flatten.length := by rw [HM.out, htk]; simp [lenSum, List.length_flatten]
          rw [htk] at st
          have hfr := st.toFresh (i := 1) get1
          rw [hmm] at hfr
          have HF := Lib.hid hfr
          have HM2 := Lib.hid hmm
          clear hfr st htk hc hmm HM
          go_wp2_with fail
          go_ret
          exact ⟨va, vc, by rw [HM2.out]; rfl, HF.out⟩
end Go.Proofs.Ytpenjnccdachaaa
