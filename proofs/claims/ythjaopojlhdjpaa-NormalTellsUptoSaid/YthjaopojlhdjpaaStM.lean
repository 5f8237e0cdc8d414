/- Normal forms: empty, clone, flat, order, CompactFunc at formulas. -/
import Derived.Test.YthjaopojlhdjpaaFmL
import Derived.Test.YthjaopojlhdjpaaSsF
import Derived.Test.YthjaopojlhdjpaaRoleP
import Derived.Test.YthjaopojlhdjpaaSortT
namespace Go.Proofs.Ythjaopojlhdjpaa
set_option linter.unusedSimpArgs false
set_option linter.unusedVariables false
open Go Go.RowKit
def sE (x y : Fm) : Bool := foE x.strip y.strip
def cmS (l : List Fm) : List Fm := cmB sE l
theorem cmG_map (l : List Fm) : ∀ y : Fm, (cmG sE y l).map Fm.strip = cmG foE y.strip (l.map Fm.strip) := by
  induction l with
  | nil => intro y; rfl
  | cons x l ih =>
    intro y
    rw [List.map_cons, cmG, cmG]
    show (if foE x.strip y.strip = true then _ else _ : List Fm).map Fm.strip = _
    split
    · exact ih y
    · rw [List.map_cons, ih x]
theorem cmS_map (l : List Fm) : (cmS l).map Fm.strip = cmF (l.map Fm.strip) := by
  cases l with
  | nil => rfl
  | cons x l => show x.strip :: (cmG sE x l).map Fm.strip = _; rw [cmG_map]; rfl
theorem sE_t {x y : Fm} (h : sE x y = true) : x.strip = y.strip := (foE_iff _ _).1 h
theorem cmG_snoc (x u : Fm) (l : List Fm) : ∀ y : Fm, (∃ pre, y :: l = pre ++ [u]) → cmG sE y (l ++ [x]) = cmG sE y l ++ (if sE x u = true then [] else [x]) := by
  induction l with
  | nil =>
    rintro y ⟨pre, hp⟩
    obtain rfl : y = u := by
      cases pre with
      | nil => exact (List.cons.inj hp).1
      | cons a pre => simp at hp
    show (if sE x y = true then cmG sE y [] else x :: cmG sE x []) = [] ++ _
    cases sE x y <;> rfl
  | cons z l ih =>
    rintro y ⟨pre, hp⟩
    obtain ⟨p2, hp2⟩ : ∃ p2, z :: l = p2 ++ [u] := by
      cases pre with
      | nil => simp at hp
      | cons a pre => exact ⟨pre, (List.cons.inj hp).2⟩
    rw [List.cons_append, cmG, cmG]
    by_cases h : sE z y = true
    · rw [if_pos h, if_pos h]
      cases l with
      | nil =>
        obtain rfl : z = u := by
          cases p2 with
          | nil => exact (List.cons.inj hp2).1
          | cons a p2 => simp at hp2
        have e : sE x y = sE x z := by unfold sE; rw [sE_t h]
        show (if sE x y = true then cmG sE y [] else x :: cmG sE x []) = [] ++ _
        rw [e]
        cases sE x z <;> rfl
      | cons v l =>
        refine ih y ?_
        cases p2 with
        | nil => simp at hp2
        | cons a p2 => exact ⟨y :: p2, by rw [(List.cons.inj hp2).2]; rfl⟩
    · rw [if_neg h, if_neg h, ih z ⟨p2, hp2⟩]; rfl
theorem cmS_step {xs : List Fm} {j q : Nat} {x y : Fm} (hq : j = q + 1) (hx : xs[j]? = some x) (hy : xs[q]? = some y) : cmS (xs.take (j + 1)) = cmS (xs.take j) ++ (if sE x y = true then [] else [x]) := by
  subst hq
  obtain ⟨h1, h1'⟩ := List.getElem?_eq_some_iff.1 hx
  obtain ⟨h2, h2'⟩ := List.getElem?_eq_some_iff.1 hy
  have e1 : xs.take (q + 1 + 1) = xs.take (q + 1) ++ [x] := by rw [← h1']; exact (List.take_append_getElem h1).symm
  have e : xs.take (q + 1) = xs.take q ++ [y] := by rw [← h2']; exact (List.take_append_getElem h2).symm
  rw [e1]
  cases hz : xs.take (q + 1) with
  | nil => rw [hz] at e; simp at e
  | cons z l =>
    show z :: cmG sE z (l ++ [x]) = (z :: cmG sE z l) ++ _
    rw [cmG_snoc x y l z ⟨_, by rw [← hz, e]⟩]; rfl
theorem flF_app (op : Int) (u v : List Fo) : flF op (u ++ v) = flF op u ++ flF op v := List.flatMap_append
theorem fl_hit {op k : Int} {r : Role} {l : List Fo} : flF op [Fo.mk op k r l] = l := by
  unfold flF
  rw [List.flatMap_cons, if_pos (show (Fo.mk op k r l).op = op from rfl)]
  show l ++ [] = l
  rw [List.append_nil]
theorem fl_miss {op op' k : Int} {r : Role} {l : List Fo} (h : op' ≠ op) : flF op [Fo.mk op' k r l] = [Fo.mk op' k r l] := flF_id (fun x hx => by rw [List.mem_singleton.1 hx]; exact h)
theorem cmS_one {xs : List Fm} (h : xs.length ≤ 1) : cmS xs = xs := by
  match xs, h with
  | [], _ => rfl
  | [x], _ => rfl
theorem cmS_sub (xs : List Fm) : (cmS xs).Sublist xs := cmB_sub _ _
set_option maxRecDepth 100000 in
set_option maxHeartbeats 1000000 in
theorem fmEmpty_any (f : Fm) (op : Int) (W : World) (h : FmOk W f) :
    Calls Try.prog 121 #[fmV f, .int .i64 op] W fun e w' => e = .returned (.bool (emF f.strip op)) ∧ Ext W w' := by
  obtain ⟨op', k, ⟨o, d⟩, a, n, c, kids⟩ := f
  have hn := h.fl.1
  have hv : emF (Fm.mk op' k (o, d) a n c kids).strip op = (decide (op' = op) && decide (n = 0)) := by
    rw [strip_mk]
    show (decide (op' = op) && decide ((kids.map Fm.strip).length = 0)) = _
    rw [List.length_map, ← hn]
  obtain ⟨v, hvv⟩ : ∃ v, emF (Fm.mk op' k (o, d) a n c kids).strip op = v := ⟨_, rfl⟩
  rw [hvv] at hv ⊢
  have HV := Lib.hid hv
  clear h hn hv hvv
  have st := Own.startOld W
  unfold fmV S
  simp only
  by_cases h1 : op' = op
  · subst h1
    by_cases h2 : n = 0
    · subst h2
      (try simp only [nsl, Value.cells, unB] at st)
      (try clear hc); have hc := st.facts; (try simp only [nfl, nft, Nat.reduceAdd] at hc)
      go_enter Try.func121, Try.ntmps121
      go_wp2_with ((((with_reducible refine wl_box ?_ (fun K hK => ?_)); rfl; refine owp_box (o := ⟨some 2, _, _, _, _, _⟩) rfl st ?_; apply Exists.intro; refine ⟨?_, ?_⟩; (focus (go_simp; try rfl)); (clear st; intro b2 w hb st; clear hb))); (try simp only [nsl, Value.cells, unB] at st); (try clear hc); have hc := st.facts; (try simp only [nfl, nft, Nat.reduceAdd] at hc))
      go_ret
      exact ⟨by rw [HV.out]; simp, st.ext0⟩
    · have h2b : ((n : Int) == 0) = false := by simp; omega
      have h2i : ¬ (n : Int) = 0 := by omega
      (try simp only [nsl, Value.cells, unB] at st)
      (try clear hc); have hc := st.facts; (try simp only [nfl, nft, Nat.reduceAdd] at hc)
      go_enter Try.func121, Try.ntmps121
      go_wp2_with ((((with_reducible refine wl_box ?_ (fun K hK => ?_)); rfl; refine owp_box (o := ⟨some 2, _, _, _, _, _⟩) rfl st ?_; apply Exists.intro; refine ⟨?_, ?_⟩; (focus (go_simp; try rfl)); (clear st; intro b2 w hb st; clear hb))); (try simp only [nsl, Value.cells, unB] at st); (try clear hc); have hc := st.facts; (try simp only [nfl, nft, Nat.reduceAdd] at hc))
      go_ret
      exact ⟨by rw [HV.out]; simp [h2], st.ext0⟩
  · have h1b : (op' == op) = false := by simpa using h1
    (try simp only [nsl, Value.cells, unB] at st)
    (try clear hc); have hc := st.facts; (try simp only [nfl, nft, Nat.reduceAdd] at hc)
    go_enter Try.func121, Try.ntmps121
    go_wp2_with ((((with_reducible refine wl_box ?_ (fun K hK => ?_)); rfl; refine owp_box (o := ⟨some 2, _, _, _, _, _⟩) rfl st ?_; apply Exists.intro; refine ⟨?_, ?_⟩; (focus (go_simp; try rfl)); (clear st; intro b2 w hb st; clear hb))); (try simp only [nsl, Value.cells, unB] at st); (try clear hc); have hc := st.facts; (try simp only [nfl, nft, Nat.reduceAdd] at hc))
    go_ret
    exact ⟨by rw [HV.out]; simp [h1], st.ext0⟩
set_option maxRecDepth 100000 in
set_option maxHeartbeats 1000000 in
theorem refNone_any (f : Fm) (op : Int) (W : World) (h : FmOk W f) :
    Calls Try.prog 90 #[fmV f, .int .i64 op] W fun e w' => e = .returned (.bool (emF f.strip op)) ∧ Ext W w' := by
  obtain ⟨op', k, ⟨o, d⟩, a, n, c, kids⟩ := f
  have hn := h.fl.1
  have hv : emF (Fm.mk op' k (o, d) a n c kids).strip op = (decide (op' = op) && decide (n = 0)) := by
    rw [strip_mk]
    show (decide (op' = op) && decide ((kids.map Fm.strip).length = 0)) = _
    rw [List.length_map, ← hn]
  obtain ⟨v, hvv⟩ : ∃ v, emF (Fm.mk op' k (o, d) a n c kids).strip op = v := ⟨_, rfl⟩
  rw [hvv] at hv ⊢
  have HV := Lib.hid hv
  clear h hn hv hvv
  have st := Own.startOld W
  unfold fmV S
  simp only
  by_cases h1 : op' = op
  · subst h1
    by_cases h2 : n = 0
    · subst h2
      (try simp only [nsl, Value.cells, unB] at st)
      (try clear hc); have hc := st.facts; (try simp only [nfl, nft, Nat.reduceAdd] at hc)
      go_enter Try.func90, Try.ntmps90
      go_wp2_with ((((with_reducible refine wl_box ?_ (fun K hK => ?_)); rfl; refine owp_box (o := ⟨some 2, _, _, _, _, _⟩) rfl st ?_; apply Exists.intro; refine ⟨?_, ?_⟩; (focus (go_simp; try rfl)); (clear st; intro b2 w hb st; clear hb))); (try simp only [nsl, Value.cells, unB] at st); (try clear hc); have hc := st.facts; (try simp only [nfl, nft, Nat.reduceAdd] at hc))
      go_ret
      exact ⟨by rw [HV.out]; simp, st.ext0⟩
    · have h2b : ((n : Int) == 0) = false := by simp; omega
      have h2i : ¬ (n : Int) = 0 := by omega
      (try simp only [nsl, Value.cells, unB] at st)
      (try clear hc); have hc := st.facts; (try simp only [nfl, nft, Nat.reduceAdd] at hc)
      go_enter Try.func90, Try.ntmps90
      go_wp2_with ((((with_reducible refine wl_box ?_ (fun K hK => ?_)); rfl; refine owp_box (o := ⟨some 2, _, _, _, _, _⟩) rfl st ?_; apply Exists.intro; refine ⟨?_, ?_⟩; (focus (go_simp; try rfl)); (clear st; intro b2 w hb st; clear hb))); (try simp only [nsl, Value.cells, unB] at st); (try clear hc); have hc := st.facts; (try simp only [nfl, nft, Nat.reduceAdd] at hc))
      go_ret
      exact ⟨by rw [HV.out]; simp [h2], st.ext0⟩
  · have h1b : (op' == op) = false := by simpa using h1
    (try simp only [nsl, Value.cells, unB] at st)
    (try clear hc); have hc := st.facts; (try simp only [nfl, nft, Nat.reduceAdd] at hc)
    go_enter Try.func90, Try.ntmps90
    go_wp2_with ((((with_reducible refine wl_box ?_ (fun K hK => ?_)); rfl; refine owp_box (o := ⟨some 2, _, _, _, _, _⟩) rfl st ?_; apply Exists.intro; refine ⟨?_, ?_⟩; (focus (go_simp; try rfl)); (clear st; intro b2 w hb st; clear hb))); (try simp only [nsl, Value.cells, unB] at st); (try clear hc); have hc := st.facts; (try simp only [nfl, nft, Nat.reduceAdd] at hc))
    go_ret
    exact ⟨by rw [HV.out]; simp [h1], st.ext0⟩
@[go_sem] theorem eqNilFms (a : Option Addr) (n c : Nat) (w : World) : (binOp .eql 24 (.slice a n c) (.slice none 0 0)).run Try.prog w = .ok (.bool a.isNone) w := by
  have h := run_equal_slice_nil w _ _ a n c Try.underlying24
  simp only [binOp]
  simp [h]
section
variable {fr al : Nat → Prop} {w0 w : World} {L : List It}
theorem Own.fmsApp (st : Own fr al w0 L w) {i j : Nat} {ys l m : List Fm} (hi : L[i]? = some (fmsI ys)) (hj : L[j]? = some (fmsI l)) (h : ∀ x ∈ m, x ∈ l ∨ ∃ y ∈ l, x ∈ y.kids) : Own fr al w0 (L ++ [fmsI (ys ++ m)]) w :=
  st.share2 hi hj fun e s e2 s2 h1 h2 x hx => by
    rcases List.mem_append.1 hx with q | q
    · exact (h1 x q).to fun _ => .inl
    · rcases h x q with r | ⟨y, hy, r⟩
      · exact (h2 x r).to fun _ => .inr
      · have := h2 y hy
        cases y
        exact (FmIn.kids this x r).to fun _ => .inr
theorem Own.fmsSub (st : Own fr al w0 L w) {i : Nat} {l m : List Fm} (hi : L[i]? = some (fmsI l)) (h : ∀ x ∈ m, x ∈ l) : Own fr al w0 (L ++ [fmsI m]) w :=
  st.share hi fun e s h1 x hx => h1 x (h x hx)
end
set_option maxRecDepth 100000 in
set_option maxHeartbeats 1000000 in
theorem fmClone_c {fr al : Nat → Prop} {W : World} {a : Option Addr} {n c : Nat} (l : List Fm) (st : Own fr al W [flI a n l] W) (hn : n ≤ 2000000) :
    Calls Try.prog 148 #[.slice a n c] W fun e w' => ∃ va vc, e = .returned (.slice va n vc) ∧ Own fr al W [flI a n l, rowI 26 5 (.slice va n vc) n (cellsL l)] w' := by
  have H := Lib.hid (st.flAt (i := 0) get0)
  (try simp only [nsl, Value.cells, unB] at st)
  (try clear hc); have hc := st.facts; (try simp only [nfl, nft, Nat.reduceAdd] at hc)
  cases a with
  | none =>
    have h0 : n = 0 := by
      rcases Nat.eq_zero_or_pos n with q | q
      · exact q
      · obtain ⟨b, off, e, _⟩ := H.out.2 q; cases e
    subst h0
    have hl : l = [] := List.eq_nil_of_length_eq_zero H.out.1.symm
    subst hl
    go_enter Try.func148, Try.ntmps148
    go_wp2_with fail
    go_ret
    exact ⟨none, 0, rfl, st.row_nil _ _⟩
  | some ad =>
    go_enter Try.func148, Try.ntmps148
    go_wp2_with (first
        | ((with_reducible refine wl_append ?_ (fun K hK => ?_)); (rfl); (obtain ⟨inf, hinf, hz0, hz1, hz2⟩ := fmInfo); (refine owp_append rfl st 1 get1 Try.underlying24 hinf hz0 hz1 hz2 rfl (by decide) rfl rfl ((st.flAt (i := 0) get0).flat) (by first | exact cellsL_all _ | simp [Value.oneCell']) (by simp only [maxLen]; omega) (by omega) ?_); (clear hinf hz0 hz1 hz2 inf); (clear st; intro v' w st); (obtain ⟨va', vc', rfl⟩ := own_slice (st.row (i := 1) get1)); (try simp only [nsl, Value.cells, unB] at st); (try simp only [Nat.zero_add] at st); (try clear hc); have hc := st.facts; (try simp only [nfl, nft, Nat.reduceAdd] at hc))
        | ((with_reducible refine wl_buildSlice ?_ (fun K hK => ?_)); (rfl); (refine owp_buildRow (o := ⟨some 5, _, _, _, _, _⟩) rfl st 26 5 ?_; refine ⟨0, #[], ?_, by simp, by simp [maxLen], ?_⟩; (focus (go_simp; (first | done | rfl))); (clear st; intro b5 w hb st; clear hb)); (try simp only [nsl, Value.cells, unB] at st); (try clear hc); have hc := st.facts; (try simp only [nfl, nft, Nat.reduceAdd] at hc))
        | ((((with_reducible refine wl_buildSlice ?_ (fun K hK => ?_)); rfl; refine owp_buildSlice (o := ⟨some 5, _, _, _, _, _⟩) rfl st ?_; apply Exists.intro; apply Exists.intro; apply Exists.intro; apply Exists.intro; refine ⟨?_, ?_⟩; (focus (go_simp; (first | done | exact ⟨⟨rfl, rfl⟩, rfl⟩ | rfl))); (clear st; intro b5 w hb st; clear hb))); (try simp only [nsl, Value.cells, unB] at st); (try clear hc); have hc := st.facts; (try simp only [nfl, nft, Nat.reduceAdd] at hc)))
    go_ret
    exact ⟨_, _, rfl, st⟩
set_option maxRecDepth 100000 in
set_option maxHeartbeats 4000000 in
theorem fmFlat_c {fr al : Nat → Prop} {W : World} {a : Option Addr} {n c : Nat} (op : Int) (l : List Fm) (st : Own fr al W [flI a n l, fmsI l] W) (hs : nodesL (l.map Fm.strip) ≤ 1000) :
    Calls Try.prog 123 #[.int .i64 op, .slice a n c] W fun e w' => ∃ va m vc ys, e = .returned (.slice va m vc) ∧ (ys.map Fm.strip = flF op (l.map Fm.strip) ∧ m ≤ 1000) ∧ Own fr al W [flI a n l, fmsI l, rowI 26 5 (.slice va m vc) m (cellsL ys), fmsI ys] w' := by
  have HL : Hid (∀ j, (flF op ((l.take j).map Fm.strip)).length ≤ 1000) := Lib.hid (fun j => by
    have h1 := nodesL_len (flF op ((l.take j).map Fm.strip))
    have h2 := flF_nodes op ((l.take j).map Fm.strip)
    have h3 := nodesL_take (l.map Fm.strip) j
    rw [← List.map_take] at h3
    omega)
  have hn0 := (st.flAt (i := 0) get0).1
  have hnb : n ≤ 1000 := by have := nodesL_len (l.map Fm.strip); rw [List.length_map] at this; omega
  have HN := Lib.hid hn0
  clear hn0 hs
  (try simp only [nsl, Value.cells, unB] at st)
  (try clear hc); have hc := st.facts; (try simp only [nfl, nft, Nat.reduceAdd] at hc)
  go_enter Try.func123, Try.ntmps123
  go_wp2_with ((first
        | ((with_reducible refine wl_alloc ?_ (fun K hK => ?_)); rfl; refine owp_alloc (o := ⟨some 7, _, _, _, _, _⟩) rfl st ?_; apply Exists.intro; apply Exists.intro; refine ⟨?_, ?_⟩; (focus (first | (go_simp; done) | (go_simp; rfl))); (clear st; intro b7 w hb st; clear hb))
        | ((with_reducible refine wl_store ?_ (fun K hK => ?_)); rfl; refine owp_store rfl st ?_; apply Exists.intro; apply Exists.intro; refine ⟨?_, ?_, ?_⟩; (focus (go_simp; try rfl)); (focus (go_simp; try rfl)); (first | (with_reducible refine ⟨0, _, _, _, _, get0, rfl, rfl, ?_, ?_, ?_, ?_⟩) | (with_reducible refine ⟨1, _, _, _, _, get1, rfl, rfl, ?_, ?_, ?_, ?_⟩) | (with_reducible refine ⟨2, _, _, _, _, get2, rfl, rfl, ?_, ?_, ?_, ?_⟩) | (with_reducible refine ⟨3, _, _, _, _, get3, rfl, rfl, ?_, ?_, ?_, ?_⟩) | (with_reducible refine ⟨4, _, _, _, _, get4, rfl, rfl, ?_, ?_, ?_, ?_⟩)); (kernel_rfl); (simp [Value.cells]); (rfl); (clear st; intro w st))
        | ((with_reducible refine wl_buildSlice ?_ (fun K hK => ?_)); rfl; refine owp_buildSlice (o := ⟨some 24, _, _, _, _, _⟩) rfl st ?_; apply Exists.intro; apply Exists.intro; apply Exists.intro; apply Exists.intro; refine ⟨?_, ?_⟩; (focus (go_simp; (first | done | exact ⟨⟨rfl, rfl⟩, rfl⟩ | rfl))); (clear st; intro b24 w hb st; clear hb))); (try simp only [nsl, Value.cells, unB] at st); (try clear hc); have hc := st.facts; (try simp only [nfl, nft, Nat.reduceAdd] at hc))
  replace st := st.row_nil 26 5
  simp only [List.cons_append, List.nil_append] at st
  replace st := st.noFms
  simp only [List.cons_append, List.nil_append] at st
  go_loopg [5, 10] n (fun q ov i wr => ∃ (j r : Nat) (ys : List Fm), j ≤ n ∧ q = n - j ∧ i = .int .i64 (j : Int) ∧ r ≤ 1000 ∧ Hid (ys.map Fm.strip = flF op ((l.take j).map Fm.strip)) ∧ Hid (r = ys.length) ∧ Own fr al W [flI a n l, fmsI l, rowI 26 5 ov r (cellsL ys), fmsI ys] wr)
  case atStart => exact ⟨0, 0, [], by omega, by omega, rfl, by omega, Lib.hid (by simp [flF]), Lib.hid rfl, by simpa [cellsL] using st⟩
  case round =>
    obtain ⟨j, r, ys, hj, rfl, rfl, hr, HY, HR, st'⟩ := hrel
    clear st hc
    have st := st'
    clear st'
    obtain ⟨oa, oc, rfl⟩ := own_slice (st.row (i := 2) get2)
    by_cases hjn : j < n
    · obtain ⟨b, off, ha, hcell⟩ := (st.flAt (i := 0) get0).fm (by omega)
      have hjl : j < l.length := by have := HN.out; omega
      have hsn := map_snoc_strip l j hjl
      have hgt := List.getElem?_eq_getElem hjl
      have hmem := List.getElem_mem hjl
      generalize l[j] = x at *
      have hll := HL.out (j + 1)
      rw [hsn, flF_app, ← HY.out, List.length_append, List.length_map, ← HR.out] at hll
      obtain ⟨op', k', ⟨o', d'⟩, a', n', c', kids'⟩ := x
      obtain ⟨r0, r1, r2, r3, r4⟩ := hcell j op' k' (o', d') a' n' c' kids' hgt
      have hok := st.fms (i := 1) get1 _ hmem
      have hkl : n' = kids'.length := hok.fl.1
      have hcap := hok.cap
      have HSN := Lib.hid hsn
      have HMEM := Lib.hid hmem
      have hll2 : r + (if op' = op then n' else 1) ≤ 1000 := by
        rw [strip_mk] at hll
        by_cases h : op' = op
        · subst h; rw [fl_hit, List.length_map] at hll; rw [if_pos rfl]; omega
        · rw [fl_miss h] at hll; rw [if_neg h]; exact hll
      unfold S at r2 r3
      simp only at r2 r3
      clear hcell hgt hjl hsn hmem hll hok
      subst ha
      by_cases hop : op' = op
      · subst hop
        rw [if_pos rfl] at hll2
        have HY2 : Hid ((ys ++ kids').map Fm.strip = flF op' ((l.take (j + 1)).map Fm.strip)) := Lib.hid (by
          rw [HSN.out, flF_app, ← HY.out, List.map_append, strip_mk, fl_hit])
        have HR2 : Hid (r + n' = (ys ++ kids').length) := Lib.hid (by rw [List.length_append, ← HR.out, hkl])
        have hcap2 : n' ≤ 9223372036854775807 := by omega
        clear hkl
        (try simp only [nsl, Value.cells, unB] at st)
        (try clear hc); have hc := st.facts; (try simp only [nfl, nft, Nat.reduceAdd] at hc)
        go_wp2_with (first
            | ((with_reducible refine wl_append ?_ (fun K hK => ?_)); (rfl); (obtain ⟨inf, hinf, hz0, hz1, hz2⟩ := fmInfo); (refine owp_append rfl st 2 get2 Try.underlying24 hinf hz0 hz1 hz2 rfl (by decide) rfl rfl (((st.fms (i := 1) get1 _ HMEM.out).fl).flat) (by first | exact cellsL_all _ | simp [Value.oneCell']) (by simp only [maxLen]; omega) (by omega) ?_); (clear hinf hz0 hz1 hz2 inf); (clear st; intro v' w st); (obtain ⟨va', vc', rfl⟩ := own_slice (st.row (i := 2) get2)); (try simp only [nsl, Value.cells, unB] at st); (try simp only [Nat.zero_add] at st); (try clear hc); have hc := st.facts; (try simp only [nfl, nft, Nat.reduceAdd] at hc))
            | ((with_reducible refine wl_buildSlice ?_ (fun K hK => ?_)); (rfl); (refine owp_buildRow (o := ⟨some 9999, _, _, _, _, _⟩) rfl st 26 5 ?_; refine ⟨0, #[], ?_, by simp, by simp [maxLen], ?_⟩; (focus (go_simp; (first | done | rfl))); (clear st; intro b9999 w hb st; clear hb)); (try simp only [nsl, Value.cells, unB] at st); (try clear hc); have hc := st.facts; (try simp only [nfl, nft, Nat.reduceAdd] at hc))
            | ((first
              | ((with_reducible refine wl_alloc ?_ (fun K hK => ?_)); rfl; refine owp_alloc (o := ⟨some 7, _, _, _, _, _⟩) rfl st ?_; apply Exists.intro; apply Exists.intro; refine ⟨?_, ?_⟩; (focus (first | (go_simp; done) | (go_simp; rfl))); (clear st; intro b7 w hb st; clear hb))
              | ((with_reducible refine wl_store ?_ (fun K hK => ?_)); rfl; refine owp_store rfl st ?_; apply Exists.intro; apply Exists.intro; refine ⟨?_, ?_, ?_⟩; (focus (go_simp; try rfl)); (focus (go_simp; try rfl)); (first | (with_reducible refine ⟨0, _, _, _, _, get0, rfl, rfl, ?_, ?_, ?_, ?_⟩) | (with_reducible refine ⟨1, _, _, _, _, get1, rfl, rfl, ?_, ?_, ?_, ?_⟩) | (with_reducible refine ⟨2, _, _, _, _, get2, rfl, rfl, ?_, ?_, ?_, ?_⟩) | (with_reducible refine ⟨3, _, _, _, _, get3, rfl, rfl, ?_, ?_, ?_, ?_⟩) | (with_reducible refine ⟨4, _, _, _, _, get4, rfl, rfl, ?_, ?_, ?_, ?_⟩)); (kernel_rfl); (simp [Value.cells]); (rfl); (clear st; intro w st))
              | ((with_reducible refine wl_buildSlice ?_ (fun K hK => ?_)); rfl; refine owp_buildSlice (o := ⟨some 24, _, _, _, _, _⟩) rfl st ?_; apply Exists.intro; apply Exists.intro; apply Exists.intro; apply Exists.intro; refine ⟨?_, ?_⟩; (focus (go_simp; (first | done | exact ⟨⟨rfl, rfl⟩, rfl⟩ | rfl))); (clear st; intro b24 w hb st; clear hb))); (try simp only [nsl, Value.cells, unB] at st); (try clear hc); have hc := st.facts; (try simp only [nfl, nft, Nat.reduceAdd] at hc)))
        rw [← cellsL_append] at st
        replace st := st.fmsApp (i := 3) (j := 1) (m := kids') get3 get1 (fun x hx => .inr ⟨_, HMEM.out, hx⟩)
        have st' := st.keep [0, 1, 2, 5] (by decide) (by simp)
        go_roundg (n - (j + 1))
        case measure => omega
        case rel => exact ⟨j + 1, r + n', ys ++ kids', by omega, by omega, by go_num, hll2, HY2, HR2, by simpa [pick] using st'⟩
      · rw [if_neg hop] at hll2
        have hopb : (op' == op) = false := by simpa using hop
        have HY2 : Hid ((ys ++ [Fm.mk op' k' (o', d') a' n' c' kids']).map Fm.strip = flF op ((l.take (j + 1)).map Fm.strip)) := Lib.hid (by
          rw [HSN.out, flF_app, ← HY.out, List.map_append, strip_mk, fl_miss hop, List.map_cons, List.map_nil, strip_mk])
        have HR2 : Hid (r + 1 = (ys ++ [Fm.mk op' k' (o', d') a' n' c' kids']).length) := Lib.hid (by rw [List.length_append, ← HR.out]; rfl)
        clear hkl
        (try simp only [nsl, Value.cells, unB] at st)
        (try clear hc); have hc := st.facts; (try simp only [nfl, nft, Nat.reduceAdd] at hc)
        go_wp2_with (first
            | ((with_reducible refine wl_append ?_ (fun K hK => ?_)); (rfl); (obtain ⟨inf, hinf, hz0, hz1, hz2⟩ := fmInfo); (refine owp_append rfl st 2 get2 Try.underlying24 hinf hz0 hz1 hz2 rfl (by decide) rfl rfl ((st.blk (i := 5) get5).flat rfl) (by first | exact cellsL_all _ | simp [Value.oneCell']) (by simp only [maxLen]; omega) (by omega) ?_); (clear hinf hz0 hz1 hz2 inf); (clear st; intro v' w st); (obtain ⟨va', vc', rfl⟩ := own_slice (st.row (i := 2) get2)); (try simp only [nsl, Value.cells, unB] at st); (try simp only [Nat.zero_add] at st); (try clear hc); have hc := st.facts; (try simp only [nfl, nft, Nat.reduceAdd] at hc))
            | ((with_reducible refine wl_buildSlice ?_ (fun K hK => ?_)); (rfl); (refine owp_buildRow (o := ⟨some 9999, _, _, _, _, _⟩) rfl st 26 5 ?_; refine ⟨0, #[], ?_, by simp, by simp [maxLen], ?_⟩; (focus (go_simp; (first | done | rfl))); (clear st; intro b9999 w hb st; clear hb)); (try simp only [nsl, Value.cells, unB] at st); (try clear hc); have hc := st.facts; (try simp only [nfl, nft, Nat.reduceAdd] at hc))
            | ((first
              | ((with_reducible refine wl_alloc ?_ (fun K hK => ?_)); rfl; refine owp_alloc (o := ⟨some 7, _, _, _, _, _⟩) rfl st ?_; apply Exists.intro; apply Exists.intro; refine ⟨?_, ?_⟩; (focus (first | (go_simp; done) | (go_simp; rfl))); (clear st; intro b7 w hb st; clear hb))
              | ((with_reducible refine wl_store ?_ (fun K hK => ?_)); rfl; refine owp_store rfl st ?_; apply Exists.intro; apply Exists.intro; refine ⟨?_, ?_, ?_⟩; (focus (go_simp; try rfl)); (focus (go_simp; try rfl)); (first | (with_reducible refine ⟨0, _, _, _, _, get0, rfl, rfl, ?_, ?_, ?_, ?_⟩) | (with_reducible refine ⟨1, _, _, _, _, get1, rfl, rfl, ?_, ?_, ?_, ?_⟩) | (with_reducible refine ⟨2, _, _, _, _, get2, rfl, rfl, ?_, ?_, ?_, ?_⟩) | (with_reducible refine ⟨3, _, _, _, _, get3, rfl, rfl, ?_, ?_, ?_, ?_⟩) | (with_reducible refine ⟨4, _, _, _, _, get4, rfl, rfl, ?_, ?_, ?_, ?_⟩)); (kernel_rfl); (simp [Value.cells]); (rfl); (clear st; intro w st))
              | ((with_reducible refine wl_buildSlice ?_ (fun K hK => ?_)); rfl; refine owp_buildSlice (o := ⟨some 24, _, _, _, _, _⟩) rfl st ?_; apply Exists.intro; apply Exists.intro; apply Exists.intro; apply Exists.intro; refine ⟨?_, ?_⟩; (focus (go_simp; (first | done | exact ⟨⟨rfl, rfl⟩, rfl⟩ | rfl))); (clear st; intro b24 w hb st; clear hb))); (try simp only [nsl, Value.cells, unB] at st); (try clear hc); have hc := st.facts; (try simp only [nfl, nft, Nat.reduceAdd] at hc)))
        replace st := st.fmsApp (i := 3) (j := 1) (m := [Fm.mk op' k' (o', d') a' n' c' kids']) get3 get1 (fun x hx => .inl (by rw [List.mem_singleton.1 hx]; exact HMEM.out))
        have st' := st.keep [0, 1, 2, 6] (by decide) (by simp)
        go_roundg (n - (j + 1))
        case measure => omega
        case rel => exact ⟨j + 1, r + 1, ys ++ [Fm.mk op' k' (o', d') a' n' c' kids'], by omega, by omega, by go_num, hll2, HY2, HR2, by rw [cellsL_append, show cellsL [Fm.mk op' k' (o', d') a' n' c' kids'] = [.int .i64 op', .int .i64 k', .string ⟨o'.toArray⟩, .string ⟨d'.toArray⟩, .slice a' n' c'] from rfl]; simpa [pick] using st'⟩
    · obtain rfl : j = n := by omega
      have HE : Hid (ys.map Fm.strip = flF op (l.map Fm.strip) ∧ r ≤ 1000) := Lib.hid ⟨by rw [HY.out, List.take_of_length_le (by have := HN.out; omega)], hr⟩
      (try simp only [nsl, Value.cells, unB] at st)
      (try clear hc); have hc := st.facts; (try simp only [nfl, nft, Nat.reduceAdd] at hc)
      go_wp2_with fail
      go_ret
      exact ⟨oa, r, oc, ys, rfl, HE.out, st⟩
set_option maxRecDepth 100000 in
set_option maxHeartbeats 2000000 in
theorem fmOrder_c {fr al : Nat → Prop} {W : World} {a : Option Addr} {n c : Nat} (l : List Fm) (st : Own fr al W [flI a n l, fmsI l] W) (hn : n ≤ 2000000) (hB : FmsR l) :
    Calls Try.prog 122 #[.slice a n c] W fun e w' => ∃ va vc ys, e = .returned (.slice va n vc) ∧ (SP fK l ys ∧ Srt fK ys) ∧ Own fr al W [flI a n l, fmsI l, rowI 26 5 (.slice va n vc) n (cellsL ys), fmsI ys] w' := by
  have HCL := Lib.hid (fun fr al W (st : Own fr al W [flI a n l] W) => fmClone_c (fr := fr) (al := al) (W := W) (c := c) l st hn)
  have HSO := Lib.hid (fun fr al W va vc (st : Own fr al W [rowI 26 5 (.slice va n vc) n (cellsL l), fmsI l] W) => sortStable_c (fr := fr) (al := al) (W := W) (a := va) (n := n) (c := vc) l l hn hB (fun x hx => hx) st)
  clear hB
  (try simp only [nsl, Value.cells, unB] at st)
  (try clear hc); have hc := st.facts; (try simp only [nfl, nft, Nat.reduceAdd] at hc)
  go_enter Try.func122, Try.ntmps122
  go_wp2_with fail
  obtain ⟨fr', al', st', back⟩ := st.sub [0] (by decide) (by simp)
  (try simp only [nsl, Value.cells, unB] at st')
  refine (HCL.out _ _ _ st').mono ?_
  clear st'
  rintro en w ⟨va, vc, rfl, st'⟩
  replace st := back _ _ (by simp) st'
  clear back st'
  (try simp only [nsl, Value.cells, unB] at st)
  (try clear hc); have hc := st.facts; (try simp only [nfl, nft, Nat.reduceAdd] at hc)
  go_wp2_with fail
  obtain ⟨fr', al', st', back⟩ := st.sub [2, 1] (by decide) (by simp)
  (try simp only [nsl, Value.cells, unB] at st')
  refine (HSO.out _ _ _ _ _ st').mono ?_
  clear st'
  rintro en w ⟨rfl, ys, hy, st'⟩
  replace st := back _ _ (by simp) st'
  clear back st'
  (try simp only [nsl, Value.cells, unB] at st)
  (try clear hc); have hc := st.facts; (try simp only [nfl, nft, Nat.reduceAdd] at hc)
  have HY := Lib.hid hy
  clear hy
  replace st := st.fmsSub (i := 1) (m := ys) get1 (fun x hx => HY.out.1.mem.1 hx)
  simp only [List.cons_append, List.nil_append] at st
  go_wp2_with fail
  go_ret
  exact ⟨va, vc, ys, rfl, HY.out, st⟩
set_option maxRecDepth 100000 in
set_option maxHeartbeats 4000000 in
theorem compactFm_c {fr al : Nat → Prop} {w0 : World} {n c : Nat} {a : Option Addr} (base xs : List Fm) (hxb : ∀ x ∈ xs, x ∈ base) (st : Own fr al w0 [rowI 26 5 (.slice a n c) n (cellsL xs), fmsI base] w0) (hn : n ≤ 2000000) :
    Calls Try.prog 125 #[.slice a n c, .func (.func 46) #[] #[]] w0 fun e w' => ∃ m, e = .returned (.slice a m c) ∧ Own fr al w0 [rowI 26 5 (.slice a m c) m (cellsL (cmS xs)), fmsI base] w' := by
  have HN : Hid (n = xs.length) := Lib.hid (st.rowLen (i := 0) get0)
  have HXB := Lib.hid hxb
  have HSM := Lib.hid (fun (x y : Fm) (hx : x ∈ base) (hy : y ∈ base) W' (hw : ∀ f ∈ base, FmOk W' f) => (show pB (x.strip = y.strip) = sE x y from pB_of (foE_iff _ _)) ▸ fmSame_any x y W' (hw x hx) (hw y hy))
  clear hxb
  (try simp only [nsl, Value.cells, unB] at st)
  (try clear hc); have hc := st.facts; (try simp only [nfl, nft, Nat.reduceAdd] at hc)
  by_cases hn2 : n < 2
  · have HC : Hid (cmS xs = xs) := Lib.hid (cmS_one (by have := HN.out; omega))
    go_enter Try.func125, Try.ntmps125
    go_wp2_with fail
    go_ret
    exact ⟨n, rfl, by rw [HC.out]; exact st⟩
  obtain ⟨g, cap', hv, hcap, hrow⟩ := st.rowAt (i := 0) get0 (by omega)
  injection hv with hv1 hv2 hv3
  subst hv1 hv3
  clear hrow
  have hcap2 : c ≤ 9223372036854775807 := by have := hcap.2; simpa [maxLen] using this
  have hcap1 := hcap.1
  clear hcap
  go_enter Try.func125, Try.ntmps125
  go_wp2_with fail
  go_loopg [5] (n - 1) (fun k vi wr => ∃ (j : Nat), 1 ≤ j ∧ j ≤ n ∧ k = n - j ∧ vi = .int .i64 (j : Int) ∧ Hid (cmS (xs.take j) = xs.take j) ∧ Own fr al w0 [rowI 26 5 (.slice (some ⟨g, 0, none⟩) n c) n (cellsL xs), fmsI base] wr)
  case atStart => exact ⟨1, by omega, by omega, by omega, rfl, Lib.hid (cmS_one (by simp; omega)), st⟩
  case round =>
    obtain ⟨j, hj1, hj, rfl, rfl, HT, st'⟩ := hrel
    clear st hc
    have st := st'
    clear st'
    (try simp only [nsl, Value.cells, unB] at st)
    (try clear hc); have hc := st.facts; (try simp only [nfl, nft, Nat.reduceAdd] at hc)
    by_cases hjn : j < n
    · obtain ⟨q, hq⟩ : ∃ q, j = q + 1 := ⟨j - 1, by omega⟩
      have hw : IntKind.i64.wrap ((j : Int) - 1) = (q : Int) := by rw [IntWalk.i64_in _ ⟨by omega, by omega⟩]; omega
      have hjl : j < xs.length := by have := HN.out; omega
      have hql : q < xs.length := by omega
      obtain ⟨x, hx⟩ : ∃ x, xs[j]? = some x := ⟨_, List.getElem?_eq_getElem hjl⟩
      obtain ⟨y, hy⟩ : ∃ y, xs[q]? = some y := ⟨_, List.getElem?_eq_getElem hql⟩
      have HST := Lib.hid (cmS_step hq hx hy)
      have HTK : Hid (xs.take (j + 1) = xs.take j ++ [x]) := Lib.hid (by rw [List.take_add_one, hx]; rfl)
      have HC2 := Lib.hid (fun W' hw => HSM.out x y (HXB.out x (List.mem_of_getElem? hx)) (HXB.out y (List.mem_of_getElem? hy)) W' hw)
      obtain ⟨sv, hsv⟩ : ∃ v, sE x y = v := ⟨_, rfl⟩
      rw [hsv] at HST HC2
      have hqn2 : q < n := by omega
      have HQ := Lib.hid hq
      clear hsv hjl hql hq
      obtain ⟨op, k, ⟨o, d⟩, fa, fn, fc, kids⟩ := x
      obtain ⟨op2, k2, ⟨o2, d2⟩, fa2, fn2, fc2, kids2⟩ := y
      have HU := Lib.hid (fm_cells hx)
      have HV := Lib.hid (fm_cells hy)
      unfold fmV S at HC2
      simp only at HC2
      clear hx hy
      go_wp2_with fail
      refine Rg4.wp_region4_eq #[0, 0, 0, 6, 14, 0, 0, 64, 224, 480, 1023] [10] [4, 9] (fun _ => True) [0, 1, 2, 3, 4, 5, 6, 7, 8, 9, 10] (by kernel_rfl) (by kernel_rfl) (by kernel_rfl) (by kernel_rfl) (show Rg4.PB _ by repeat (first | with_reducible exact Rg4.pb_body | with_reducible exact Rg4.pb_bodyD rfl | with_reducible refine Rg4.pb_then ?_ | with_reducible refine Rg4.pb_inBlock ?_ | with_reducible refine Rg4.pb_noGoto ?_)) (trivial) ?_
      replace st := st.drew
      change Rg4.wp4 _ _ _ _ _ _ _ _ _ (World.drew _) _ _
      generalize World.drew _ = w at st ⊢
      (try clear hc); have hc := st.facts; (try simp only [nfl, nft, Nat.reduceAdd] at hc)
      iterate 4 (refine Rg4.w4_any (Rg4.want_none rfl) rfl ?_; apply Exists.intro; refine ⟨fun w' => ?_, ?_⟩; (focus (first | (go_simp; done) | (go_simp; first | rfl | (rw [if_neg] <;> first | rfl | omega) | (rw [if_pos] <;> first | rfl | omega)))); (try simp only [Rg4.nrm]))
      (refine Rg4.w4_read (Rg4.want_none rfl) rfl rfl ?_; apply Exists.intro; refine ⟨fun w' hw' hcl' => ?_, ?_⟩; focus (subst hw'; have r0 := st.rowC (i := 0) get0 _ _ HU.out.1; have r1 := st.rowC (i := 0) get0 _ _ HU.out.2.1; have r2 := st.rowC (i := 0) get0 _ _ HU.out.2.2.1; have r3 := st.rowC (i := 0) get0 _ _ HU.out.2.2.2.1; have r4 := st.rowC (i := 0) get0 _ _ HU.out.2.2.2.2; have q0 := st.rowC (i := 0) get0 _ _ HV.out.1; have q1 := st.rowC (i := 0) get0 _ _ HV.out.2.1; have q2 := st.rowC (i := 0) get0 _ _ HV.out.2.2.1; have q3 := st.rowC (i := 0) get0 _ _ HV.out.2.2.2.1; have q4 := st.rowC (i := 0) get0 _ _ HV.out.2.2.2.2; (focus (first | (go_simp; done) | (go_simp; first | rfl | (rw [if_neg] <;> first | rfl | omega) | (rw [if_pos] <;> first | rfl | omega))))); (try simp only [Rg4.nrm]))
      iterate 4 (refine Rg4.w4_any (Rg4.want_none rfl) rfl ?_; apply Exists.intro; refine ⟨fun w' => ?_, ?_⟩; (focus (first | (go_simp; done) | (go_simp; first | rfl | (rw [if_neg] <;> first | rfl | omega) | (rw [if_pos] <;> first | rfl | omega)))); (try simp only [Rg4.nrm]))
      (refine Rg4.w4_read (Rg4.want_none rfl) rfl rfl ?_; apply Exists.intro; refine ⟨fun w' hw' hcl' => ?_, ?_⟩; focus (subst hw'; have r0 := st.rowC (i := 0) get0 _ _ HU.out.1; have r1 := st.rowC (i := 0) get0 _ _ HU.out.2.1; have r2 := st.rowC (i := 0) get0 _ _ HU.out.2.2.1; have r3 := st.rowC (i := 0) get0 _ _ HU.out.2.2.2.1; have r4 := st.rowC (i := 0) get0 _ _ HU.out.2.2.2.2; have q0 := st.rowC (i := 0) get0 _ _ HV.out.1; have q1 := st.rowC (i := 0) get0 _ _ HV.out.2.1; have q2 := st.rowC (i := 0) get0 _ _ HV.out.2.2.1; have q3 := st.rowC (i := 0) get0 _ _ HV.out.2.2.2.1; have q4 := st.rowC (i := 0) get0 _ _ HV.out.2.2.2.2; (focus (first | (go_simp; done) | (go_simp; first | rfl | (rw [if_neg] <;> first | rfl | omega) | (rw [if_pos] <;> first | rfl | omega))))); (try simp only [Rg4.nrm]))
      refine Rg4.w4_bar (Rg4.want_none rfl) rfl (fun w' hw' hcl _ K hK => ?_)
      subst hw'
      go_wp2_with fail
      refine (HC2.out _ (st.fms (i := 1) get1)).mono ?_
      rintro en w ⟨rfl, hx⟩
      replace st := st.ext hx
      clear hx
      (try clear hc); have hc := st.facts; (try simp only [nfl, nft, Nat.reduceAdd] at hc)
      refine hK _ _ ⟨trivial, ?_⟩
      clear hK
      (try simp only [Rg4.nrm])
      refine Rg4.w4_nil (fun w' hw' hcl' _ => ?_); subst hw'; clear hcl'
      cases sv with
      | false =>
        have HF : Hid (cmS (xs.take (j + 1)) = xs.take (j + 1)) := Lib.hid (by rw [HST.out, HT.out, HTK.out]; rfl)
        go_wp2_with fail
        go_roundg (n - (j + 1))
        case measure => omega
        case rel => exact ⟨j + 1, by omega, by omega, by omega, by go_num, HF, st⟩
      | true =>
        have HF : Hid (cmS (xs.take (j + 1)) = xs.take j) := Lib.hid (by rw [HST.out, HT.out]; simp)
        clear hw
        go_wp2_with fail
        go_loopg [5, 7] (n - j - 1) (fun k vi vr wr => ∃ (i r : Nat) (zs : List Fm), 1 ≤ r ∧ j + r ≤ n ∧ k = n - j - r ∧ i < j + r ∧ vi = .int .i64 (i : Int) ∧ vr = .int .i64 (r : Int) ∧ Hid (zs.length = n ∧ zs.take i = cmS (xs.take (j + r)) ∧ ∀ q, j + r ≤ q + 1 → zs[q]? = xs[q]?) ∧ Own fr al w0 [rowI 26 5 (.slice (some ⟨g, 0, none⟩) n c) n (cellsL zs), fmsI base] wr)
        case atStart => exact ⟨j, 1, xs, by omega, by omega, by omega, by omega, rfl, rfl, Lib.hid ⟨HN.out.symm, HF.out.symm, fun _ _ => rfl⟩, st⟩
        case round =>
          obtain ⟨i, r, zs, hr1, hrj, rfl, hir, rfl, rfl, HZ, st'⟩ := hrel
          clear st hc HST HTK HF HU HV HC2
          have st := st'
          clear st'
          (try simp only [nsl, Value.cells, unB] at st)
          (try clear hc); have hc := st.facts; (try simp only [nfl, nft, Nat.reduceAdd] at hc)
          by_cases hrn : r < n - j
          · obtain ⟨s, hs⟩ : ∃ s, r = s + 1 := ⟨r - 1, by omega⟩
            have hw : IntKind.i64.wrap ((r : Int) - 1) = (s : Int) := by rw [IntWalk.i64_in _ ⟨by omega, by omega⟩]; omega
            have hjl : j + r < xs.length := by have := HN.out; omega
            have hql : j + s < xs.length := by omega
            obtain ⟨x, hx⟩ : ∃ x, xs[j + r]? = some x := ⟨_, List.getElem?_eq_getElem hjl⟩
            obtain ⟨y, hy⟩ : ∃ y, xs[j + s]? = some y := ⟨_, List.getElem?_eq_getElem hql⟩
            have hzx := (HZ.out.2.2 (j + r) (by omega)).trans hx
            have hzy := (HZ.out.2.2 (j + s) (by omega)).trans hy
            have HST := Lib.hid (cmS_step (by omega : j + r = j + s + 1) hx hy)
            have HC2 := Lib.hid (fun W' hw => HSM.out x y (HXB.out x (List.mem_of_getElem? hx)) (HXB.out y (List.mem_of_getElem? hy)) W' hw)
            obtain ⟨sv, hsv⟩ : ∃ v, sE x y = v := ⟨_, rfl⟩
            rw [hsv] at HST HC2
            have hql2 : s < n - j := by omega
            have HS := Lib.hid hs
            clear hs hql hx hy hjl hsv
            obtain ⟨op, k, ⟨o, d⟩, fa, fn, fc, kids⟩ := x
            obtain ⟨op2, k2, ⟨o2, d2⟩, fa2, fn2, fc2, kids2⟩ := y
            have hU := fm_cells hzx
            have hV := fm_cells hzy
            simp only [Nat.add_mul] at hU hV
            have HU := Lib.hid hU
            have HV := Lib.hid hV
            unfold fmV S at HC2
            simp only at HC2
            clear hzx hzy hU hV
            cases sv with
            | true =>
              have hb : (!true) = false := rfl
              have HF : Hid (cmS (xs.take (j + (r + 1))) = cmS (xs.take (j + r))) := Lib.hid (by rw [← Nat.add_assoc, HST.out]; simp)
              go_wp2_with fail
              refine Rg4.wp_region4_eq #[0, 0, 0, 6, 14, 0, 0, 64, 224, 480, 1023, 2047] [10] [4, 9] (fun _ => True) [0, 1, 2, 3, 4, 5, 6, 7, 8, 9, 10, 11] (by kernel_rfl) (by kernel_rfl) (by kernel_rfl) (by kernel_rfl) (show Rg4.PB _ by repeat (first | with_reducible exact Rg4.pb_body | with_reducible exact Rg4.pb_bodyD rfl | with_reducible refine Rg4.pb_then ?_ | with_reducible refine Rg4.pb_inBlock ?_ | with_reducible refine Rg4.pb_noGoto ?_)) (trivial) ?_
              replace st := st.drew
              change Rg4.wp4 _ _ _ _ _ _ _ _ _ (World.drew _) _ _
              generalize World.drew _ = w at st ⊢
              (try clear hc); have hc := st.facts; (try simp only [nfl, nft, Nat.reduceAdd] at hc)
              iterate 4 (refine Rg4.w4_any (Rg4.want_none rfl) rfl ?_; apply Exists.intro; refine ⟨fun w' => ?_, ?_⟩; (focus (first | (go_simp; done) | (go_simp; first | rfl | (rw [if_neg] <;> first | rfl | omega) | (rw [if_pos] <;> first | rfl | omega)))); (try simp only [Rg4.nrm]))
              (refine Rg4.w4_read (Rg4.want_none rfl) rfl rfl ?_; apply Exists.intro; refine ⟨fun w' hw' hcl' => ?_, ?_⟩; focus (subst hw'; have r0 := st.rowC (i := 0) get0 _ _ HU.out.1; have r1 := st.rowC (i := 0) get0 _ _ HU.out.2.1; have r2 := st.rowC (i := 0) get0 _ _ HU.out.2.2.1; have r3 := st.rowC (i := 0) get0 _ _ HU.out.2.2.2.1; have r4 := st.rowC (i := 0) get0 _ _ HU.out.2.2.2.2; have q0 := st.rowC (i := 0) get0 _ _ HV.out.1; have q1 := st.rowC (i := 0) get0 _ _ HV.out.2.1; have q2 := st.rowC (i := 0) get0 _ _ HV.out.2.2.1; have q3 := st.rowC (i := 0) get0 _ _ HV.out.2.2.2.1; have q4 := st.rowC (i := 0) get0 _ _ HV.out.2.2.2.2; (focus (first | (go_simp; done) | (go_simp; first | rfl | (rw [if_neg] <;> first | rfl | omega) | (rw [if_pos] <;> first | rfl | omega))))); (try simp only [Rg4.nrm]))
              iterate 4 (refine Rg4.w4_any (Rg4.want_none rfl) rfl ?_; apply Exists.intro; refine ⟨fun w' => ?_, ?_⟩; (focus (first | (go_simp; done) | (go_simp; first | rfl | (rw [if_neg] <;> first | rfl | omega) | (rw [if_pos] <;> first | rfl | omega)))); (try simp only [Rg4.nrm]))
              (refine Rg4.w4_read (Rg4.want_none rfl) rfl rfl ?_; apply Exists.intro; refine ⟨fun w' hw' hcl' => ?_, ?_⟩; focus (subst hw'; have r0 := st.rowC (i := 0) get0 _ _ HU.out.1; have r1 := st.rowC (i := 0) get0 _ _ HU.out.2.1; have r2 := st.rowC (i := 0) get0 _ _ HU.out.2.2.1; have r3 := st.rowC (i := 0) get0 _ _ HU.out.2.2.2.1; have r4 := st.rowC (i := 0) get0 _ _ HU.out.2.2.2.2; have q0 := st.rowC (i := 0) get0 _ _ HV.out.1; have q1 := st.rowC (i := 0) get0 _ _ HV.out.2.1; have q2 := st.rowC (i := 0) get0 _ _ HV.out.2.2.1; have q3 := st.rowC (i := 0) get0 _ _ HV.out.2.2.2.1; have q4 := st.rowC (i := 0) get0 _ _ HV.out.2.2.2.2; (focus (first | (go_simp; done) | (go_simp; first | rfl | (rw [if_neg] <;> first | rfl | omega) | (rw [if_pos] <;> first | rfl | omega))))); (try simp only [Rg4.nrm]))
              refine Rg4.w4_bar (Rg4.want_none rfl) rfl (fun w' hw' hcl _ K hK => ?_)
              subst hw'
              go_wp2_with fail
              refine (HC2.out _ (st.fms (i := 1) get1)).mono ?_
              rintro en w ⟨rfl, hx⟩
              replace st := st.ext hx
              clear hx
              (try clear hc); have hc := st.facts; (try simp only [nfl, nft, Nat.reduceAdd] at hc)
              refine hK _ _ ⟨trivial, ?_⟩
              clear hK
              (try simp only [Rg4.nrm])
              (refine Rg4.w4_any (Rg4.want_none rfl) rfl ?_; apply Exists.intro; refine ⟨fun w' => ?_, ?_⟩; (focus (first | (go_simp; done) | (go_simp; first | rfl | (rw [if_neg] <;> first | rfl | omega) | (rw [if_pos] <;> first | rfl | omega)))); (try simp only [Rg4.nrm]))
              refine Rg4.w4_nil (fun w' hw' hcl' _ => ?_); subst hw'; clear hcl'
              go_wp2_with fail
              go_roundg (n - j - (r + 1))
              case measure => omega
              case rel => exact ⟨i, r + 1, zs, by omega, by omega, rfl, by omega, rfl, by go_num, Lib.hid ⟨HZ.out.1, by rw [HF.out]; exact HZ.out.2.1, fun q hq => HZ.out.2.2 q (by omega)⟩, st⟩
            | false =>
              have HF : Hid (cmS (xs.take (j + (r + 1))) = cmS (xs.take (j + r)) ++ [.mk op k (o, d) fa fn fc kids]) := Lib.hid (by rw [← Nat.add_assoc, HST.out]; rfl)
              go_wp2_with fail
              refine Rg4.wp_region4_eq #[0, 0, 0, 6, 14, 0, 0, 64, 224, 480, 1023, 2047] [10] [4, 9] (fun _ => True) [0, 1, 2, 3, 4, 5, 6, 7, 8, 9, 10, 11] (by kernel_rfl) (by kernel_rfl) (by kernel_rfl) (by kernel_rfl) (show Rg4.PB _ by repeat (first | with_reducible exact Rg4.pb_body | with_reducible exact Rg4.pb_bodyD rfl | with_reducible refine Rg4.pb_then ?_ | with_reducible refine Rg4.pb_inBlock ?_ | with_reducible refine Rg4.pb_noGoto ?_)) (trivial) ?_
              replace st := st.drew
              change Rg4.wp4 _ _ _ _ _ _ _ _ _ (World.drew _) _ _
              generalize World.drew _ = w at st ⊢
              (try clear hc); have hc := st.facts; (try simp only [nfl, nft, Nat.reduceAdd] at hc)
              iterate 4 (refine Rg4.w4_any (Rg4.want_none rfl) rfl ?_; apply Exists.intro; refine ⟨fun w' => ?_, ?_⟩; (focus (first | (go_simp; done) | (go_simp; first | rfl | (rw [if_neg] <;> first | rfl | omega) | (rw [if_pos] <;> first | rfl | omega)))); (try simp only [Rg4.nrm]))
              (refine Rg4.w4_read (Rg4.want_none rfl) rfl rfl ?_; apply Exists.intro; refine ⟨fun w' hw' hcl' => ?_, ?_⟩; focus (subst hw'; have r0 := st.rowC (i := 0) get0 _ _ HU.out.1; have r1 := st.rowC (i := 0) get0 _ _ HU.out.2.1; have r2 := st.rowC (i := 0) get0 _ _ HU.out.2.2.1; have r3 := st.rowC (i := 0) get0 _ _ HU.out.2.2.2.1; have r4 := st.rowC (i := 0) get0 _ _ HU.out.2.2.2.2; have q0 := st.rowC (i := 0) get0 _ _ HV.out.1; have q1 := st.rowC (i := 0) get0 _ _ HV.out.2.1; have q2 := st.rowC (i := 0) get0 _ _ HV.out.2.2.1; have q3 := st.rowC (i := 0) get0 _ _ HV.out.2.2.2.1; have q4 := st.rowC (i := 0) get0 _ _ HV.out.2.2.2.2; (focus (first | (go_simp; done) | (go_simp; first | rfl | (rw [if_neg] <;> first | rfl | omega) | (rw [if_pos] <;> first | rfl | omega))))); (try simp only [Rg4.nrm]))
              iterate 4 (refine Rg4.w4_any (Rg4.want_none rfl) rfl ?_; apply Exists.intro; refine ⟨fun w' => ?_, ?_⟩; (focus (first | (go_simp; done) | (go_simp; first | rfl | (rw [if_neg] <;> first | rfl | omega) | (rw [if_pos] <;> first | rfl | omega)))); (try simp only [Rg4.nrm]))
              (refine Rg4.w4_read (Rg4.want_none rfl) rfl rfl ?_; apply Exists.intro; refine ⟨fun w' hw' hcl' => ?_, ?_⟩; focus (subst hw'; have r0 := st.rowC (i := 0) get0 _ _ HU.out.1; have r1 := st.rowC (i := 0) get0 _ _ HU.out.2.1; have r2 := st.rowC (i := 0) get0 _ _ HU.out.2.2.1; have r3 := st.rowC (i := 0) get0 _ _ HU.out.2.2.2.1; have r4 := st.rowC (i := 0) get0 _ _ HU.out.2.2.2.2; have q0 := st.rowC (i := 0) get0 _ _ HV.out.1; have q1 := st.rowC (i := 0) get0 _ _ HV.out.2.1; have q2 := st.rowC (i := 0) get0 _ _ HV.out.2.2.1; have q3 := st.rowC (i := 0) get0 _ _ HV.out.2.2.2.1; have q4 := st.rowC (i := 0) get0 _ _ HV.out.2.2.2.2; (focus (first | (go_simp; done) | (go_simp; first | rfl | (rw [if_neg] <;> first | rfl | omega) | (rw [if_pos] <;> first | rfl | omega))))); (try simp only [Rg4.nrm]))
              refine Rg4.w4_bar (Rg4.want_none rfl) rfl (fun w' hw' hcl _ K hK => ?_)
              subst hw'
              go_wp2_with fail
              refine (HC2.out _ (st.fms (i := 1) get1)).mono ?_
              rintro en w ⟨rfl, hx⟩
              replace st := st.ext hx
              clear hx
              (try clear hc); have hc := st.facts; (try simp only [nfl, nft, Nat.reduceAdd] at hc)
              refine hK _ _ ⟨trivial, ?_⟩
              clear hK
              (try simp only [Rg4.nrm])
              (refine Rg4.w4_any (Rg4.want_none rfl) rfl ?_; apply Exists.intro; refine ⟨fun w' => ?_, ?_⟩; (focus (first | (go_simp; done) | (go_simp; first | rfl | (rw [if_neg] <;> first | rfl | omega) | (rw [if_pos] <;> first | rfl | omega)))); (try simp only [Rg4.nrm]))
              refine Rg4.w4_nil (fun w' hw' hcl' _ => ?_); subst hw'; clear hcl'
              have r0 := st.rowC (i := 0) get0 _ _ HU.out.1
              have r1 := st.rowC (i := 0) get0 _ _ HU.out.2.1
              have r2 := st.rowC (i := 0) get0 _ _ HU.out.2.2.1
              have r3 := st.rowC (i := 0) get0 _ _ HU.out.2.2.2.1
              have r4 := st.rowC (i := 0) get0 _ _ HU.out.2.2.2.2
              have hiz : i < zs.length := by have := HZ.out.1; omega
              have hset := fm_store hiz op k o d fa fn fc kids
              have HZ2 : Hid ((zs.set i (.mk op k (o, d) fa fn fc kids)).length = n ∧ (zs.set i (.mk op k (o, d) fa fn fc kids)).take (i + 1) = cmS (xs.take (j + (r + 1))) ∧ ∀ q, j + (r + 1) ≤ q + 1 → (zs.set i (.mk op k (o, d) fa fn fc kids))[q]? = xs[q]?) := Lib.hid ⟨by simp [HZ.out.1], by
                  rw [HF.out, ← HZ.out.2.1]
                  have : (zs.set i (Fm.mk op k (o, d) fa fn fc kids))[i]'(by simpa using hiz) = .mk op k (o, d) fa fn fc kids := by simp
                  rw [← List.take_append_getElem (l := zs.set i (Fm.mk op k (o, d) fa fn fc kids)) (by simpa using hiz), this]
                  rw [List.take_set, List.set_eq_of_length_le (by rw [List.length_take]; omega)], fun q hq => by
                  rw [List.getElem?_set_ne (by omega)]; exact HZ.out.2.2 q (by omega)⟩
              have HSET := Lib.hid hset
              clear hset hiz
              go_wp2_with ((with_reducible refine wl_store ?_ (fun K hK => ?_)); (rfl); (refine owp_storeRow' rfl st ?_; apply Exists.intro; apply Exists.intro; refine ⟨?_, ?_, ?_⟩; (focus (go_simp; try rfl)); (focus (go_simp; try rfl)); refine ⟨0, _, _, _, _, _, _, _, _, get0, rfl, rfl, ?_, ?_, ?_, ?_⟩; (kernel_rfl); (simp [Value.cells]; omega); (rfl); (clear st; intro w st)))
              simp only [List.set_cons_zero, Value.cells] at st
              go_roundg (n - j - (r + 1))
              case measure => omega
              case rel => exact ⟨i + 1, r + 1, zs.set i (.mk op k (o, d) fa fn fc kids), by omega, by omega, rfl, by omega, by go_num, by go_num, HZ2, by rw [← HSET.out]; exact st⟩
          · obtain ⟨inf, hinf, hz0, hz1, hz2⟩ := fmInfo
            have HF : Hid (zs.take i = cmS xs) := Lib.hid (by rw [HZ.out.2.1, List.take_of_length_le (by have := HN.out; omega)])
            have hin : i ≤ n := by omega
            go_wp2_with ((with_reducible refine wl_clear ?_ (fun K hK => ?_)); (rfl); (refine owp_clearRow' rfl st Try.underlying24 ?_; apply Exists.intro; apply Exists.intro; apply Exists.intro; refine ⟨?_, ?_⟩; (focus (go_simp; exact ⟨rfl, rfl, rfl⟩)); refine ⟨0, _, _, _, _, i, _, inf, .agg zF.toArray, get0, hinf, hz0, by decide, rfl, rfl, by omega, by simp, rfl, ?_⟩; (clear st; intro w ys hy1 hy2 st)))
            simp only [List.set_cons_zero] at st
            have st2 := st.rowCut (i := 0) (k := 5) (n := n) (c := c) (g := g) (E := 26) (xs := ys) get0 i (by omega)
            have hct := cellsL_take zs i
            rw [show Flt.k Fm = 5 from rfl] at hct
            rw [hy1, hct, HF.out, List.set_cons_zero] at st2
            go_ret
            exact ⟨i, rfl, st2⟩
    · obtain rfl : j = n := by omega
      have HF : Hid (cmS xs = xs) := Lib.hid (by have := HT.out; rwa [List.take_of_length_le (by have := HN.out; omega)] at this)
      go_wp2_with fail
      go_ret
      exact ⟨j, rfl, by rw [HF.out]; exact st⟩
end Go.Proofs.Ythjaopojlhdjpaa

namespace Go.Proofs.Ythjaopojlhdjpaa
set_option linter.unusedSimpArgs false
set_option linter.unusedVariables false
open Go Go.RowKit
theorem FoL.mono {b b' : Nat} (hb : b ≤ b') {f : Fo} (h : FoL b f) : FoL b' f := by
  induction h with
  | mk h1 h2 _ ih => exact .mk (Nat.le_trans h1 hb) (Nat.le_trans h2 hb) ih
def foA : Fo := .mk 1 0 ([97], [114]) []
theorem fo0_R : foR (.mk 0 0 ([], []) []) = false := by decide +kernel
theorem foA_R : foR foA = true := by decide +kernel
theorem L_fo {b : Nat} {op k : Int} {o d : List UInt8} {kids : List Fo} (h1 : o.length ≤ b) (h2 : d.length ≤ b) (hk : ∀ x ∈ kids, FoL b x) : FoL b (.mk op k (o, d) kids) := .mk h1 h2 hk
theorem foA_L : FoL 100000 foA := L_fo (by decide) (by decide) (by simp)
theorem ok_leaf (W : World) (op k : Int) (r : Role) : FmOk W (.mk op k r none 0 0 []) := FmIn.mk ⟨Nat.le_refl _, by simp [maxLen]⟩ (Fl.nil _ _) (fun h => by omega) (by simp)
def fmA : Fm := .mk 1 0 ([97], [114]) none 0 0 []
theorem fmA_strip : fmA.strip = foA := rfl
end Go.Proofs.Ythjaopojlhdjpaa

namespace Go.Proofs.Ythjaopojlhdjpaa
set_option linter.unusedSimpArgs false
set_option linter.unusedVariables false
open Go Go.RowKit
/-- Formulas that are small. -/
def SmL (l : List Fo) : Prop := nodesL l ≤ 1000 ∧ ∀ x ∈ l, FoL 100000 x
theorem SmL.sub {l m : List Fo} (h : SmL l) (hn : nodesL m ≤ nodesL l) (hm : ∀ x ∈ m, FoL 100000 x) : SmL m := ⟨Nat.le_trans hn h.1, hm⟩
theorem SmL.fl {l : List Fo} (h : SmL l) (op : Int) : SmL (flF op l) := ⟨Nat.le_trans (flF_nodes op l) h.1, flF_L h.2⟩
theorem SmL.r {l : List Fm} (h : SmL (l.map Fm.strip)) : FmsR l := fun x hx => by
  have hm := List.mem_map_of_mem (f := Fm.strip) hx
  have := nodesL_mem _ _ hm
  exact ⟨by have := h.1; omega, h.2 _ hm⟩
theorem sorted_is {ys zs : List Fm} (h : SP fK ys zs ∧ Srt fK zs) : zs.map Fm.strip = sSort wrF (ys.map Fm.strip) :=
  sSort_is (SP.map Fm.strip (fun _ => rfl) h.1) (Srt.map Fm.strip (fun _ => rfl) h.2)
theorem fm_bare (s : Nat → Prop) (W : World) (op k : Int) : FmIn s W (.mk op k ([], []) none 0 0 []) := FmIn.mk ⟨Nat.le_refl _, by simp [maxLen]⟩ (Fl.nil _ _) (fun h => by omega) (by simp)
theorem joF_hit {op : Int} {l : List Fo} (h : (flF op l).any (fun x => emF x (5 - op)) = true) : joF op l = .mk (5 - op) 0 ([], []) [] := by unfold joF; rw [if_pos h]
theorem joF_miss {op : Int} {l : List Fo} (h : (flF op l).any (fun x => emF x (5 - op)) = false) : joF op l = one1 op (cmF (sSort wrF (flF op l))) := by unfold joF; rw [h]; rfl
theorem one1_ne {op : Int} {l : List Fo} (h : l.length ≠ 1) : one1 op l = .mk op 0 ([], []) l := one1_id h
set_option maxRecDepth 100000 in
set_option maxHeartbeats 1000000 in
theorem joined1_any (b : Nat) (op : Int) (f : Fm) (W : World) (hb : Blk W b [.int .i64 op]) (hf : FmOk W f) :
    Calls Try.prog 124 #[fmV f, .pointer (some ⟨b, 0, none⟩)] W fun e w' => e = .returned (.bool (emF f.strip op)) ∧ Ext W w' := by
  have HE := Lib.hid (fun W' (hx : Ext W W') => fmEmpty_any f op W' (hf.ext hx))
  have HB := Lib.hid hb
  obtain ⟨v, hv⟩ : ∃ v, emF f.strip op = v := ⟨_, rfl⟩
  rw [hv] at HE ⊢
  clear hb hf hv
  obtain ⟨op', k, ⟨o, d⟩, a, n, c, kids⟩ := f
  unfold fmV S at HE ⊢
  simp only at HE ⊢
  have st := Own.startOld W
  have r0 := HB.out.cell 0
  simp only [List.getElem?_cons_zero] at r0
  replace st := st.addEl (i := 0) get0 b 0 (.int .i64 op) [] ⟨r0, trivial⟩
  clear r0
  simp only [List.cons_append, List.nil_append] at st
  (try simp only [nsl, Value.cells, unB] at st)
  (try clear hc); have hc := st.facts; (try simp only [nfl, nft, elI, elF, Nat.reduceAdd] at hc)
  go_enter Try.func124, Try.ntmps124
  go_wp2_with ((((with_reducible refine wl_box ?_ (fun K hK => ?_)); rfl; refine owp_box (o := ⟨some 2, _, _, _, _, _⟩) rfl st ?_; apply Exists.intro; refine ⟨?_, ?_⟩; (focus (go_simp; try rfl)); (clear st; intro b2 w hb st; clear hb))); (try simp only [nsl, Value.cells, unB] at st); (try clear hc); have hc := st.facts; (try simp only [nfl, nft, elI, elF, Nat.reduceAdd] at hc))
  refine (HE.out _ st.ext0).mono ?_
  rintro en w ⟨rfl, hx⟩
  replace st := st.ext hx
  clear hx
  (try clear hc); have hc := st.facts; (try simp only [nfl, nft, elI, elF, Nat.reduceAdd] at hc)
  go_wp2_with ((((with_reducible refine wl_box ?_ (fun K hK => ?_)); rfl; refine owp_box (o := ⟨some 2, _, _, _, _, _⟩) rfl st ?_; apply Exists.intro; refine ⟨?_, ?_⟩; (focus (go_simp; try rfl)); (clear st; intro b2 w hb st; clear hb))); (try simp only [nsl, Value.cells, unB] at st); (try clear hc); have hc := st.facts; (try simp only [nfl, nft, elI, elF, Nat.reduceAdd] at hc))
  go_ret
  exact ⟨rfl, st.ext0⟩
/-- A formula, made of what the items hold. -/
def FmMade (fr al : Nat → Prop) (W : World) (L : List It) (f : Fo) (e : Ending) (w' : World) : Prop := ∃ g, e = .returned (fmV g) ∧ g.strip = f ∧ Own fr al W (L ++ [fmI g]) w'
theorem fmMade {fr al : Nat → Prop} {W w : World} {L : List It} {f : Fo} (g : Fm) {v : Value} (hv : v = fmV g) (hg : g.strip = f) (st : Own fr al W (L ++ [fmI g]) w) : FmMade fr al W L f (.returned v) w := ⟨g, by rw [hv], hg, st⟩
set_option maxRecDepth 100000 in
set_option maxHeartbeats 8000000 in
theorem joined_c {fr al : Nat → Prop} {W : World} {a : Option Addr} {n c s : Nat} (op : Int) (l : List Fm) (ho : op = 2 ∨ op = 3) (hl : SmL (l.map Fm.strip)) (hn : nodesL (l.map Fm.strip) ≤ 64) (st : Own fr al W [blkI s [.int .i64 0], flI a n l, fmsI l] W) :
    Calls Try.prog 85 #[.pointer (some ⟨s, 0, none⟩), .int .i64 op, .slice a n c] W fun e w' => FmMade fr al W [blkI s [.int .i64 0], flI a n l, fmsI l] (joF op (l.map Fm.strip)) e w' := by
  have HFL := Lib.hid (fun fr al W (st : Own fr al W [flI a n l, fmsI l] W) => fmFlat_c (fr := fr) (al := al) (W := W) (c := c) op l st hl.1)
  obtain ⟨op2, hop2⟩ : ∃ q, 5 - op = q := ⟨_, rfl⟩
  have w1 : IntKind.i64.wrap (5 - op) = op2 := by rcases ho with rfl | rfl <;> (rw [← hop2]; rfl)
  have HHIT := Lib.hid (joF_hit (op := op) (l := l.map Fm.strip))
  have HMISS := Lib.hid (joF_miss (op := op) (l := l.map Fm.strip))
  have HSM := Lib.hid (hl.fl op)
  have HCN : Hid ((cmF (sSort wrF (flF op (l.map Fm.strip)))).length ≤ 64) := Lib.hid (by
    have h1 := nodesL_len (cmF (sSort wrF (flF op (l.map Fm.strip))))
    have h2 := cmF_nodes (flF op (l.map Fm.strip))
    have h3 := flF_nodes op (l.map Fm.strip)
    omega)
  rw [hop2] at HHIT HMISS
  obtain ⟨rs, hrs⟩ : ∃ q, joF op (l.map Fm.strip) = q := ⟨_, rfl⟩
  rw [hrs] at HHIT HMISS ⊢
  obtain ⟨fl, hfl⟩ : ∃ q, flF op (l.map Fm.strip) = q := ⟨_, rfl⟩
  rw [hfl] at HFL HHIT HMISS HSM HCN
  clear hl hn hop2 hrs hfl ho
  (try simp only [nsl, Value.cells, unB] at st)
  (try clear hc); have hc := st.facts; (try simp only [nfl, nft, Nat.reduceAdd] at hc)
  go_enter Try.func85, Try.ntmps85
  go_wp2_with ((first
        | ((with_reducible refine wl_alloc ?_ (fun K hK => ?_)); rfl; refine owp_alloc (o := ⟨some 6, _, _, _, _, _⟩) rfl st ?_; apply Exists.intro; apply Exists.intro; refine ⟨?_, ?_⟩; (focus (first | (go_simp; done) | (go_simp; rfl))); (clear st; intro b6 w hb st; clear hb))
        | ((with_reducible refine wl_alloc ?_ (fun K hK => ?_)); rfl; refine owp_alloc (o := ⟨some 7, _, _, _, _, _⟩) rfl st ?_; apply Exists.intro; apply Exists.intro; refine ⟨?_, ?_⟩; (focus (first | (go_simp; done) | (go_simp; rfl))); (clear st; intro b7 w hb st; clear hb))
        | ((with_reducible refine wl_store ?_ (fun K hK => ?_)); rfl; refine owp_store rfl st ?_; apply Exists.intro; apply Exists.intro; refine ⟨?_, ?_, ?_⟩; (focus (go_simp; try rfl)); (focus (go_simp; try rfl)); (first | (with_reducible refine ⟨0, _, _, _, _, get0, rfl, rfl, ?_, ?_, ?_, ?_⟩) | (with_reducible refine ⟨1, _, _, _, _, get1, rfl, rfl, ?_, ?_, ?_, ?_⟩) | (with_reducible refine ⟨2, _, _, _, _, get2, rfl, rfl, ?_, ?_, ?_, ?_⟩) | (with_reducible refine ⟨3, _, _, _, _, get3, rfl, rfl, ?_, ?_, ?_, ?_⟩) | (with_reducible refine ⟨4, _, _, _, _, get4, rfl, rfl, ?_, ?_, ?_, ?_⟩) | (with_reducible refine ⟨5, _, _, _, _, get5, rfl, rfl, ?_, ?_, ?_, ?_⟩) | (with_reducible refine ⟨6, _, _, _, _, get6, rfl, rfl, ?_, ?_, ?_, ?_⟩) | (with_reducible refine ⟨7, _, _, _, _, get7, rfl, rfl, ?_, ?_, ?_, ?_⟩) | (with_reducible refine ⟨8, _, _, _, _, get8, rfl, rfl, ?_, ?_, ?_, ?_⟩)); (kernel_rfl); (simp [Value.cells]); (rfl); (clear st; intro w st))); (try simp only [nsl, Value.cells, unB] at st); (try clear hc); have hc := st.facts; (try simp only [nfl, nft, Nat.reduceAdd] at hc))
  obtain ⟨fr', al', st', back⟩ := st.sub [1, 2] (by decide) (by simp)
  (try simp only [nsl, Value.cells, unB] at st')
  refine (HFL.out _ _ _ st').mono ?_
  clear st'
  rintro en w ⟨va, m, vc, ys, rfl, hy, st'⟩
  replace st := back _ _ (by simp) st'
  clear back st'
  (try simp only [nsl, Value.cells, unB] at st)
  (try clear hc); have hc := st.facts; (try simp only [nfl, nft, Nat.reduceAdd] at hc)
  have hmb := hy.2
  have HY := Lib.hid hy.1
  clear hy
  replace st := st.rowToFl (α := Fm) (i := 5) get5
  simp only [List.set] at st
  (try simp only [nsl, Value.cells, unB] at st)
  (try clear hc); have hc := st.facts; (try simp only [nfl, nft, Nat.reduceAdd] at hc)
  go_wp2_with ((first
        | ((with_reducible refine wl_alloc ?_ (fun K hK => ?_)); rfl; refine owp_alloc (o := ⟨some 6, _, _, _, _, _⟩) rfl st ?_; apply Exists.intro; apply Exists.intro; refine ⟨?_, ?_⟩; (focus (first | (go_simp; done) | (go_simp; rfl))); (clear st; intro b6 w hb st; clear hb))
        | ((with_reducible refine wl_alloc ?_ (fun K hK => ?_)); rfl; refine owp_alloc (o := ⟨some 7, _, _, _, _, _⟩) rfl st ?_; apply Exists.intro; apply Exists.intro; refine ⟨?_, ?_⟩; (focus (first | (go_simp; done) | (go_simp; rfl))); (clear st; intro b7 w hb st; clear hb))
        | ((with_reducible refine wl_store ?_ (fun K hK => ?_)); rfl; refine owp_store rfl st ?_; apply Exists.intro; apply Exists.intro; refine ⟨?_, ?_, ?_⟩; (focus (go_simp; try rfl)); (focus (go_simp; try rfl)); (first | (with_reducible refine ⟨0, _, _, _, _, get0, rfl, rfl, ?_, ?_, ?_, ?_⟩) | (with_reducible refine ⟨1, _, _, _, _, get1, rfl, rfl, ?_, ?_, ?_, ?_⟩) | (with_reducible refine ⟨2, _, _, _, _, get2, rfl, rfl, ?_, ?_, ?_, ?_⟩) | (with_reducible refine ⟨3, _, _, _, _, get3, rfl, rfl, ?_, ?_, ?_, ?_⟩) | (with_reducible refine ⟨4, _, _, _, _, get4, rfl, rfl, ?_, ?_, ?_, ?_⟩) | (with_reducible refine ⟨5, _, _, _, _, get5, rfl, rfl, ?_, ?_, ?_, ?_⟩) | (with_reducible refine ⟨6, _, _, _, _, get6, rfl, rfl, ?_, ?_, ?_, ?_⟩) | (with_reducible refine ⟨7, _, _, _, _, get7, rfl, rfl, ?_, ?_, ?_, ?_⟩) | (with_reducible refine ⟨8, _, _, _, _, get8, rfl, rfl, ?_, ?_, ?_, ?_⟩)); (kernel_rfl); (simp [Value.cells]); (rfl); (clear st; intro w st))); (try simp only [nsl, Value.cells, unB] at st); (try clear hc); have hc := st.facts; (try simp only [nfl, nft, Nat.reduceAdd] at hc))
  have hcf := fmContainsFunc_any va m vc ys _ (st.flAt (i := 5) get5) (by omega) 124 #[.pointer (some ⟨b7, 0, none⟩)] (fun x => emF x.strip op2) (fun _ _ => by kernel_rfl)
    (fun x hx w' hw => joined1_any b7 op2 x w' ((st.blk (i := 4) get4).ext hw) ((st.fms (i := 6) get6 x hx).ext hw))
  have hany : (ys.any fun x => emF x.strip op2) = fl.any (fun x => emF x op2) := by rw [← HY.out, List.any_map]; rfl
  rw [hany] at hcf
  obtain ⟨v, hv⟩ : ∃ v, fl.any (fun x => emF x op2) = v := ⟨_, rfl⟩
  rw [hv] at hcf HHIT HMISS
  clear hany hv
  refine (hcf).mono ?_
  rintro en w ⟨rfl, hx⟩
  replace st := st.ext hx
  clear hx
  (try clear hc); have hc := st.facts; (try simp only [nfl, nft, Nat.reduceAdd] at hc)
  clear hcf
  cases v with
  | true =>
    have HR := HHIT.out (by simp)
    clear HHIT HMISS
    (try simp only [nsl, Value.cells, unB] at st)
    (try clear hc); have hc := st.facts; (try simp only [nfl, nft, Nat.reduceAdd] at hc)
    go_wp2_with ((first
          | ((with_reducible refine wl_alloc ?_ (fun K hK => ?_)); rfl; refine owp_alloc (o := ⟨some 6, _, _, _, _, _⟩) rfl st ?_; apply Exists.intro; apply Exists.intro; refine ⟨?_, ?_⟩; (focus (first | (go_simp; done) | (go_simp; rfl))); (clear st; intro b6 w hb st; clear hb))
          | ((with_reducible refine wl_alloc ?_ (fun K hK => ?_)); rfl; refine owp_alloc (o := ⟨some 7, _, _, _, _, _⟩) rfl st ?_; apply Exists.intro; apply Exists.intro; refine ⟨?_, ?_⟩; (focus (first | (go_simp; done) | (go_simp; rfl))); (clear st; intro b7 w hb st; clear hb))
          | ((with_reducible refine wl_store ?_ (fun K hK => ?_)); rfl; refine owp_store rfl st ?_; apply Exists.intro; apply Exists.intro; refine ⟨?_, ?_, ?_⟩; (focus (go_simp; try rfl)); (focus (go_simp; try rfl)); (first | (with_reducible refine ⟨0, _, _, _, _, get0, rfl, rfl, ?_, ?_, ?_, ?_⟩) | (with_reducible refine ⟨1, _, _, _, _, get1, rfl, rfl, ?_, ?_, ?_, ?_⟩) | (with_reducible refine ⟨2, _, _, _, _, get2, rfl, rfl, ?_, ?_, ?_, ?_⟩) | (with_reducible refine ⟨3, _, _, _, _, get3, rfl, rfl, ?_, ?_, ?_, ?_⟩) | (with_reducible refine ⟨4, _, _, _, _, get4, rfl, rfl, ?_, ?_, ?_, ?_⟩) | (with_reducible refine ⟨5, _, _, _, _, get5, rfl, rfl, ?_, ?_, ?_, ?_⟩) | (with_reducible refine ⟨6, _, _, _, _, get6, rfl, rfl, ?_, ?_, ?_, ?_⟩) | (with_reducible refine ⟨7, _, _, _, _, get7, rfl, rfl, ?_, ?_, ?_, ?_⟩) | (with_reducible refine ⟨8, _, _, _, _, get8, rfl, rfl, ?_, ?_, ?_, ?_⟩)); (kernel_rfl); (simp [Value.cells]); (rfl); (clear st; intro w st))); (try simp only [nsl, Value.cells, unB] at st); (try clear hc); have hc := st.facts; (try simp only [nfl, nft, Nat.reduceAdd] at hc))
    (try simp only [Exit.inBlock, Exit.then])
    refine bodyPost_cell rfl rfl (st.blk (i := 3) get3) Try.underlying26 rfl (by kernel_rfl) rfl ?_
    have st2 := (st.bare (I := fmI (.mk op2 0 ([], []) none 0 0 [])) (fm_bare _ _ _ _)).keep [0, 1, 2, 7] (by decide) (by simp)
    exact fmMade (.mk op2 0 ([], []) none 0 0 []) rfl (by rw [HR]; rfl) (by simpa [pick] using st2)
  | false =>
    have HR := Lib.hid (HMISS.out (by simp))
    clear HHIT HMISS
    have HOR := Lib.hid (fun fr al W (st : Own fr al W [flI va m ys, fmsI ys] W) => fmOrder_c (fr := fr) (al := al) (W := W) (c := vc) ys st (by omega) (SmL.r (by rw [HY.out]; exact HSM.out)))
    (try simp only [nsl, Value.cells, unB] at st)
    (try clear hc); have hc := st.facts; (try simp only [nfl, nft, Nat.reduceAdd] at hc)
    go_wp2_with ((first
          | ((with_reducible refine wl_alloc ?_ (fun K hK => ?_)); rfl; refine owp_alloc (o := ⟨some 6, _, _, _, _, _⟩) rfl st ?_; apply Exists.intro; apply Exists.intro; refine ⟨?_, ?_⟩; (focus (first | (go_simp; done) | (go_simp; rfl))); (clear st; intro b6 w hb st; clear hb))
          | ((with_reducible refine wl_alloc ?_ (fun K hK => ?_)); rfl; refine owp_alloc (o := ⟨some 7, _, _, _, _, _⟩) rfl st ?_; apply Exists.intro; apply Exists.intro; refine ⟨?_, ?_⟩; (focus (first | (go_simp; done) | (go_simp; rfl))); (clear st; intro b7 w hb st; clear hb))
          | ((with_reducible refine wl_store ?_ (fun K hK => ?_)); rfl; refine owp_store rfl st ?_; apply Exists.intro; apply Exists.intro; refine ⟨?_, ?_, ?_⟩; (focus (go_simp; try rfl)); (focus (go_simp; try rfl)); (first | (with_reducible refine ⟨0, _, _, _, _, get0, rfl, rfl, ?_, ?_, ?_, ?_⟩) | (with_reducible refine ⟨1, _, _, _, _, get1, rfl, rfl, ?_, ?_, ?_, ?_⟩) | (with_reducible refine ⟨2, _, _, _, _, get2, rfl, rfl, ?_, ?_, ?_, ?_⟩) | (with_reducible refine ⟨3, _, _, _, _, get3, rfl, rfl, ?_, ?_, ?_, ?_⟩) | (with_reducible refine ⟨4, _, _, _, _, get4, rfl, rfl, ?_, ?_, ?_, ?_⟩) | (with_reducible refine ⟨5, _, _, _, _, get5, rfl, rfl, ?_, ?_, ?_, ?_⟩) | (with_reducible refine ⟨6, _, _, _, _, get6, rfl, rfl, ?_, ?_, ?_, ?_⟩) | (with_reducible refine ⟨7, _, _, _, _, get7, rfl, rfl, ?_, ?_, ?_, ?_⟩) | (with_reducible refine ⟨8, _, _, _, _, get8, rfl, rfl, ?_, ?_, ?_, ?_⟩)); (kernel_rfl); (simp [Value.cells]); (rfl); (clear st; intro w st))); (try simp only [nsl, Value.cells, unB] at st); (try clear hc); have hc := st.facts; (try simp only [nfl, nft, Nat.reduceAdd] at hc))
    obtain ⟨fr', al', st', back⟩ := st.sub [5, 6] (by decide) (by simp)
    (try simp only [nsl, Value.cells, unB] at st')
    refine (HOR.out _ _ _ st').mono ?_
    clear st'
    rintro en w ⟨va2, vc2, zs, rfl, hz, st'⟩
    replace st := back _ _ (by simp) st'
    clear back st'
    (try simp only [nsl, Value.cells, unB] at st)
    (try clear hc); have hc := st.facts; (try simp only [nfl, nft, Nat.reduceAdd] at hc)
    have HZ := Lib.hid (sorted_is hz)
    clear hz
    go_wp2_with fail
    obtain ⟨fr', al', st', back⟩ := st.sub [7, 8] (by decide) (by simp)
    (try simp only [nsl, Value.cells, unB] at st')
    refine (compactFm_c zs zs (fun x hx => hx) st' (by omega)).mono ?_
    clear st'
    rintro en w ⟨m2, rfl, st'⟩
    replace st := back _ _ (by simp) st'
    clear back st'
    (try simp only [nsl, Value.cells, unB] at st)
    (try clear hc); have hc := st.facts; (try simp only [nfl, nft, Nat.reduceAdd] at hc)
    have HQ : Hid ((cmS zs).map Fm.strip = cmF (sSort wrF fl)) := Lib.hid (by rw [cmS_map, HZ.out, HY.out])
    have HSUB := Lib.hid (cmS_sub zs)
    generalize cmS zs = qs at *
    have hm2 := st.rowLen (i := 7) get7
    have HM2 := Lib.hid hm2
    have hm64 : m2 ≤ 64 := by
      have h1 := HCN.out
      rw [← HQ.out, List.length_map] at h1
      omega
    clear hm2
    have h64 : ¬ (64 : Int) < (m2 : Int) := by omega
    by_cases h1 : m2 = 1
    · subst h1
      obtain ⟨x, rfl⟩ : ∃ x, qs = [x] := List.length_eq_one_iff.1 HM2.out.symm
      obtain ⟨g, cap', hv, hcap, _⟩ := st.rowAt (i := 7) get7 (by omega)
      injection hv with hv1 hv2 hv3
      subst hv1 hv3
      have HXM : Hid (x ∈ zs) := Lib.hid (HSUB.out.subset (by simp))
      have HS : Hid (x.strip = rs) := Lib.hid (by rw [HR.out, ← HQ.out]; rfl)
      obtain ⟨op', k, ⟨o, d⟩, fa, fn, fc, kids⟩ := x
      have hU := fm_cells (zs := [Fm.mk op' k (o, d) fa fn fc kids]) (j := 0) rfl
      have r0 := st.rowC (i := 7) get7 _ _ hU.1
      have r1 := st.rowC (i := 7) get7 _ _ hU.2.1
      have r2 := st.rowC (i := 7) get7 _ _ hU.2.2.1
      have r3 := st.rowC (i := 7) get7 _ _ hU.2.2.2.1
      have r4 := st.rowC (i := 7) get7 _ _ hU.2.2.2.2
      simp only [Nat.zero_mul, Nat.zero_add] at r0 r1 r2 r3 r4
      clear hU hcap
      (try simp only [nsl, Value.cells, unB] at st)
      (try clear hc); have hc := st.facts; (try simp only [nfl, nft, Nat.reduceAdd] at hc)
      go_wp2_with ((first
            | ((with_reducible refine wl_alloc ?_ (fun K hK => ?_)); rfl; refine owp_alloc (o := ⟨some 6, _, _, _, _, _⟩) rfl st ?_; apply Exists.intro; apply Exists.intro; refine ⟨?_, ?_⟩; (focus (first | (go_simp; done) | (go_simp; rfl))); (clear st; intro b6 w hb st; clear hb))
            | ((with_reducible refine wl_alloc ?_ (fun K hK => ?_)); rfl; refine owp_alloc (o := ⟨some 7, _, _, _, _, _⟩) rfl st ?_; apply Exists.intro; apply Exists.intro; refine ⟨?_, ?_⟩; (focus (first | (go_simp; done) | (go_simp; rfl))); (clear st; intro b7 w hb st; clear hb))
            | ((with_reducible refine wl_store ?_ (fun K hK => ?_)); rfl; refine owp_store rfl st ?_; apply Exists.intro; apply Exists.intro; refine ⟨?_, ?_, ?_⟩; (focus (go_simp; try rfl)); (focus (go_simp; try rfl)); (first | (with_reducible refine ⟨0, _, _, _, _, get0, rfl, rfl, ?_, ?_, ?_, ?_⟩) | (with_reducible refine ⟨1, _, _, _, _, get1, rfl, rfl, ?_, ?_, ?_, ?_⟩) | (with_reducible refine ⟨2, _, _, _, _, get2, rfl, rfl, ?_, ?_, ?_, ?_⟩) | (with_reducible refine ⟨3, _, _, _, _, get3, rfl, rfl, ?_, ?_, ?_, ?_⟩) | (with_reducible refine ⟨4, _, _, _, _, get4, rfl, rfl, ?_, ?_, ?_, ?_⟩) | (with_reducible refine ⟨5, _, _, _, _, get5, rfl, rfl, ?_, ?_, ?_, ?_⟩) | (with_reducible refine ⟨6, _, _, _, _, get6, rfl, rfl, ?_, ?_, ?_, ?_⟩) | (with_reducible refine ⟨7, _, _, _, _, get7, rfl, rfl, ?_, ?_, ?_, ?_⟩) | (with_reducible refine ⟨8, _, _, _, _, get8, rfl, rfl, ?_, ?_, ?_, ?_⟩)); (kernel_rfl); (simp [Value.cells]); (rfl); (clear st; intro w st))); (try simp only [nsl, Value.cells, unB] at st); (try clear hc); have hc := st.facts; (try simp only [nfl, nft, Nat.reduceAdd] at hc))
      (try simp only [Exit.inBlock, Exit.then])
      refine bodyPost_cell rfl rfl (st.blk (i := 3) get3) Try.underlying26 rfl (by kernel_rfl) rfl ?_
      have st2 := (st.fmOf (i := 8) get8 HXM.out).keep [0, 1, 2, 9] (by decide) (by simp)
      exact fmMade (.mk op' k (o, d) fa fn fc kids) rfl HS.out (by simpa [pick] using st2)
    · have h1b : ((m2 : Int) == 1) = false := by simp; omega
      have h1i : ¬ (m2 : Int) = 1 := by omega
      obtain ⟨hcap, _⟩ := rowFl' (α := Fm) st (i := 7) get7
      have HCAP := Lib.hid hcap
      clear hcap
      replace st := st.rowToFl (α := Fm) (i := 7) get7
      simp only [List.set] at st
      replace st := st.fmsSub (i := 8) (m := qs) get8 (fun x hx => HSUB.out.subset hx)
      simp only [List.cons_append, List.nil_append] at st
      replace st := st.mkFm (i := 7) (j := 9) get7 get9 op 0 ([], []) vc2 HCAP.out
      simp only [List.cons_append, List.nil_append] at st
      have HS : Hid ((Fm.mk op 0 ([], []) va2 m2 vc2 qs).strip = rs) := Lib.hid (by
        rw [strip_mk, HQ.out, HR.out, one1_ne]
        rw [← HQ.out, List.length_map]
        have := HM2.out; omega)
      (try simp only [nsl, Value.cells, unB] at st)
      (try clear hc); have hc := st.facts; (try simp only [nfl, nft, Nat.reduceAdd] at hc)
      go_wp2_with ((first
            | ((with_reducible refine wl_alloc ?_ (fun K hK => ?_)); rfl; refine owp_alloc (o := ⟨some 6, _, _, _, _, _⟩) rfl st ?_; apply Exists.intro; apply Exists.intro; refine ⟨?_, ?_⟩; (focus (first | (go_simp; done) | (go_simp; rfl))); (clear st; intro b6 w hb st; clear hb))
            | ((with_reducible refine wl_alloc ?_ (fun K hK => ?_)); rfl; refine owp_alloc (o := ⟨some 7, _, _, _, _, _⟩) rfl st ?_; apply Exists.intro; apply Exists.intro; refine ⟨?_, ?_⟩; (focus (first | (go_simp; done) | (go_simp; rfl))); (clear st; intro b7 w hb st; clear hb))
            | ((with_reducible refine wl_store ?_ (fun K hK => ?_)); rfl; refine owp_store rfl st ?_; apply Exists.intro; apply Exists.intro; refine ⟨?_, ?_, ?_⟩; (focus (go_simp; try rfl)); (focus (go_simp; try rfl)); (first | (with_reducible refine ⟨0, _, _, _, _, get0, rfl, rfl, ?_, ?_, ?_, ?_⟩) | (with_reducible refine ⟨1, _, _, _, _, get1, rfl, rfl, ?_, ?_, ?_, ?_⟩) | (with_reducible refine ⟨2, _, _, _, _, get2, rfl, rfl, ?_, ?_, ?_, ?_⟩) | (with_reducible refine ⟨3, _, _, _, _, get3, rfl, rfl, ?_, ?_, ?_, ?_⟩) | (with_reducible refine ⟨4, _, _, _, _, get4, rfl, rfl, ?_, ?_, ?_, ?_⟩) | (with_reducible refine ⟨5, _, _, _, _, get5, rfl, rfl, ?_, ?_, ?_, ?_⟩) | (with_reducible refine ⟨6, _, _, _, _, get6, rfl, rfl, ?_, ?_, ?_, ?_⟩) | (with_reducible refine ⟨7, _, _, _, _, get7, rfl, rfl, ?_, ?_, ?_, ?_⟩) | (with_reducible refine ⟨8, _, _, _, _, get8, rfl, rfl, ?_, ?_, ?_, ?_⟩)); (kernel_rfl); (simp [Value.cells]); (rfl); (clear st; intro w st))); (try simp only [nsl, Value.cells, unB] at st); (try clear hc); have hc := st.facts; (try simp only [nfl, nft, Nat.reduceAdd] at hc))
      (try simp only [Exit.inBlock, Exit.then])
      refine bodyPost_cell rfl rfl (st.blk (i := 3) get3) Try.underlying26 rfl (by kernel_rfl) rfl ?_
      have st2 := st.keep [0, 1, 2, 10] (by decide) (by simp)
      exact fmMade (.mk op 0 ([], []) va2 m2 vc2 qs) rfl HS.out (by simpa [pick] using st2)
end Go.Proofs.Ythjaopojlhdjpaa

namespace Go.Proofs.Ythjaopojlhdjpaa
set_option linter.unusedSimpArgs false
set_option linter.unusedVariables false
open Go Go.RowKit
theorem atK_app (k : Int) (u : List Fo) (x : Fo) : atK k (u ++ [x]) = if emF x 2 = true then atK k u - 1 else atK k u := by
  unfold atK
  rw [List.filter_append, List.length_append]
  by_cases h : emF x 2 = true
  · rw [if_pos h, List.filter_cons, if_pos h]; simp; omega
  · rw [if_neg h, List.filter_cons, if_neg h]; simp
theorem atL_app (u : List Fo) (x : Fo) : atL (u ++ [x]) = atL u ++ (if emF x 2 = true ∨ emF x 3 = true then [] else [x]) := by
  unfold atL
  rw [List.filter_append, List.filter_cons]
  congr 1
  cases emF x 2 <;> cases emF x 3 <;> rfl
theorem Own.dupFm {fr al : Nat → Prop} {w0 w : World} {L : List It} (st : Own fr al w0 L w) {i : Nat} {f : Fm} (hi : L[i]? = some (fmI f)) : Own fr al w0 (L ++ [fmI f]) w := st.share hi fun e s h => h
set_option maxRecDepth 100000 in
set_option maxHeartbeats 1000000 in
theorem normAlways_any (W : World) : Calls Try.prog 48 #[] W fun e w' => e = .returned (fmV (.mk 2 0 ([], []) none 0 0 [])) ∧ Ext W w' := by
  have st := Own.startOld W
  (try simp only [nsl, Value.cells, unB] at st)
  (try clear hc); have hc := st.facts; (try simp only [nfl, nft, Nat.reduceAdd] at hc)
  go_enter Try.func48, Try.ntmps48
  go_wp2_with ((first
        | ((with_reducible refine wl_alloc ?_ (fun K hK => ?_)); rfl; refine owp_alloc (o := ⟨some 0, _, _, _, _, _⟩) rfl st ?_; apply Exists.intro; apply Exists.intro; refine ⟨?_, ?_⟩; (focus (first | (go_simp; done) | (go_simp; rfl))); (clear st; intro b0 w hb st; clear hb))
        | ((with_reducible refine wl_store ?_ (fun K hK => ?_)); rfl; refine owp_store rfl st ?_; apply Exists.intro; apply Exists.intro; refine ⟨?_, ?_, ?_⟩; (focus (go_simp; try rfl)); (focus (go_simp; try rfl)); (first | (with_reducible refine ⟨0, _, _, _, _, get0, rfl, rfl, ?_, ?_, ?_, ?_⟩) | (with_reducible refine ⟨1, _, _, _, _, get1, rfl, rfl, ?_, ?_, ?_, ?_⟩) | (with_reducible refine ⟨2, _, _, _, _, get2, rfl, rfl, ?_, ?_, ?_, ?_⟩) | (with_reducible refine ⟨3, _, _, _, _, get3, rfl, rfl, ?_, ?_, ?_, ?_⟩)); (kernel_rfl); (simp [Value.cells]); (rfl); (clear st; intro w st))); (try simp only [nsl, Value.cells, unB] at st); (try clear hc); have hc := st.facts; (try simp only [nfl, nft, Nat.reduceAdd] at hc))
  (try simp only [Exit.inBlock, Exit.then])
  refine bodyPost_cell rfl rfl (st.blk (i := 1) get1) Try.underlying26 rfl (by kernel_rfl) rfl ?_
  exact ⟨rfl, st.ext0⟩
set_option maxRecDepth 100000 in
set_option maxHeartbeats 1000000 in
theorem normNever_any (W : World) : Calls Try.prog 49 #[] W fun e w' => e = .returned (fmV (.mk 3 0 ([], []) none 0 0 [])) ∧ Ext W w' := by
  have st := Own.startOld W
  (try simp only [nsl, Value.cells, unB] at st)
  (try clear hc); have hc := st.facts; (try simp only [nfl, nft, Nat.reduceAdd] at hc)
  go_enter Try.func49, Try.ntmps49
  go_wp2_with ((first
        | ((with_reducible refine wl_alloc ?_ (fun K hK => ?_)); rfl; refine owp_alloc (o := ⟨some 0, _, _, _, _, _⟩) rfl st ?_; apply Exists.intro; apply Exists.intro; refine ⟨?_, ?_⟩; (focus (first | (go_simp; done) | (go_simp; rfl))); (clear st; intro b0 w hb st; clear hb))
        | ((with_reducible refine wl_store ?_ (fun K hK => ?_)); rfl; refine owp_store rfl st ?_; apply Exists.intro; apply Exists.intro; refine ⟨?_, ?_, ?_⟩; (focus (go_simp; try rfl)); (focus (go_simp; try rfl)); (first | (with_reducible refine ⟨0, _, _, _, _, get0, rfl, rfl, ?_, ?_, ?_, ?_⟩) | (with_reducible refine ⟨1, _, _, _, _, get1, rfl, rfl, ?_, ?_, ?_, ?_⟩) | (with_reducible refine ⟨2, _, _, _, _, get2, rfl, rfl, ?_, ?_, ?_, ?_⟩) | (with_reducible refine ⟨3, _, _, _, _, get3, rfl, rfl, ?_, ?_, ?_, ?_⟩)); (kernel_rfl); (simp [Value.cells]); (rfl); (clear st; intro w st))); (try simp only [nsl, Value.cells, unB] at st); (try clear hc); have hc := st.facts; (try simp only [nfl, nft, Nat.reduceAdd] at hc))
  (try simp only [Exit.inBlock, Exit.then])
  refine bodyPost_cell rfl rfl (st.blk (i := 1) get1) Try.underlying26 rfl (by kernel_rfl) rfl ?_
  exact ⟨rfl, st.ext0⟩
set_option maxRecDepth 100000 in
set_option maxHeartbeats 8000000 in
theorem atLeast_c {fr al : Nat → Prop} {W : World} {a : Option Addr} {n c s : Nat} (k : Int) (l : List Fm) (hk : 0 ≤ k ∧ k ≤ 1000) (hl : SmL (l.map Fm.strip)) (hn : nodesL (l.map Fm.strip) ≤ 64) (st : Own fr al W [blkI s [.int .i64 0], flI a n l, fmsI l] W) :
    Calls Try.prog 84 #[.pointer (some ⟨s, 0, none⟩), .int .i64 k, .slice a n c] W fun e w' => FmMade fr al W [blkI s [.int .i64 0], flI a n l, fmsI l] (atF k (l.map Fm.strip)) e w' := by
  have hnl := (st.flAt (i := 1) get1).1
  have hn64 : n ≤ 64 := by have := nodesL_len (l.map Fm.strip); rw [List.length_map] at this; omega
  have HN := Lib.hid hnl
  have HKB : Hid (∀ j, -1000 ≤ atK k ((l.take j).map Fm.strip) ∧ atK k ((l.take j).map Fm.strip) ≤ 1000) := Lib.hid (fun j => by
    have h1 := List.length_filter_le (fun x => emF x 2) ((l.take j).map Fm.strip)
    rw [List.length_map, List.length_take] at h1
    unfold atK
    omega)
  have HSM : Hid (SmL (atL (l.map Fm.strip)) ∧ nodesL (atL (l.map Fm.strip)) ≤ 64) := Lib.hid ⟨⟨Nat.le_trans (nodesL_sub List.filter_sublist) hl.1, fun x hx => hl.2 x (List.mem_filter.1 hx).1⟩, Nat.le_trans (nodesL_sub List.filter_sublist) hn⟩
  obtain ⟨rs, hrs⟩ : ∃ q, atF k (l.map Fm.strip) = q := ⟨_, rfl⟩
  have HRS : Hid (rs = atE (atK k (l.map Fm.strip)) (atL (l.map Fm.strip))) := Lib.hid hrs.symm
  rw [hrs]
  have HK0 : Hid (atK k [] = k) := Lib.hid (by unfold atK; simp)
  clear hnl hl hn hrs
  (try simp only [nsl, Value.cells, unB] at st)
  (try clear hc); have hc := st.facts; (try simp only [nfl, nft, Nat.reduceAdd] at hc)
  go_enter Try.func84, Try.ntmps84
  go_wp2_with ((first
        | ((with_reducible refine wl_alloc ?_ (fun K hK => ?_)); rfl; refine owp_alloc (o := ⟨some 6, _, _, _, _, _⟩) rfl st ?_; apply Exists.intro; apply Exists.intro; refine ⟨?_, ?_⟩; (focus (first | (go_simp; done) | (go_simp; rfl))); (clear st; intro b6 w hb st; clear hb))
        | ((with_reducible refine wl_alloc ?_ (fun K hK => ?_)); rfl; refine owp_alloc (o := ⟨some 9, _, _, _, _, _⟩) rfl st ?_; apply Exists.intro; apply Exists.intro; refine ⟨?_, ?_⟩; (focus (first | (go_simp; done) | (go_simp; rfl))); (clear st; intro b9 w hb st; clear hb))
        | ((with_reducible refine wl_store ?_ (fun K hK => ?_)); rfl; refine owp_store rfl st ?_; apply Exists.intro; apply Exists.intro; refine ⟨?_, ?_, ?_⟩; (focus (go_simp; try rfl)); (focus (go_simp; try rfl)); (first | (with_reducible refine ⟨0, _, _, _, _, get0, rfl, rfl, ?_, ?_, ?_, ?_⟩) | (with_reducible refine ⟨1, _, _, _, _, get1, rfl, rfl, ?_, ?_, ?_, ?_⟩) | (with_reducible refine ⟨2, _, _, _, _, get2, rfl, rfl, ?_, ?_, ?_, ?_⟩) | (with_reducible refine ⟨3, _, _, _, _, get3, rfl, rfl, ?_, ?_, ?_, ?_⟩) | (with_reducible refine ⟨4, _, _, _, _, get4, rfl, rfl, ?_, ?_, ?_, ?_⟩) | (with_reducible refine ⟨5, _, _, _, _, get5, rfl, rfl, ?_, ?_, ?_, ?_⟩) | (with_reducible refine ⟨6, _, _, _, _, get6, rfl, rfl, ?_, ?_, ?_, ?_⟩) | (with_reducible refine ⟨7, _, _, _, _, get7, rfl, rfl, ?_, ?_, ?_, ?_⟩) | (with_reducible refine ⟨8, _, _, _, _, get8, rfl, rfl, ?_, ?_, ?_, ?_⟩)); (kernel_rfl); (simp [Value.cells]); (rfl); (clear st; intro w st))
        | ((with_reducible refine wl_buildSlice ?_ (fun K hK => ?_)); rfl; refine owp_buildSlice (o := ⟨some 27, _, _, _, _, _⟩) rfl st ?_; apply Exists.intro; apply Exists.intro; apply Exists.intro; apply Exists.intro; refine ⟨?_, ?_⟩; (focus (go_simp; (first | done | exact ⟨⟨rfl, rfl⟩, rfl⟩ | rfl))); (clear st; intro b27 w hb st; clear hb))); (try simp only [nsl, Value.cells, unB] at st); (try clear hc); have hc := st.facts; (try simp only [nfl, nft, Nat.reduceAdd] at hc))
  replace st := st.row_nil 26 5
  simp only [List.cons_append, List.nil_append] at st
  go_loopg [1, 7, 12] n (fun q kv ov i wr => ∃ (j r : Nat) (kk : Int) (ys : List Fm), j ≤ n ∧ q = n - j ∧ kv = .int .i64 kk ∧ i = .int .i64 (j : Int) ∧ r ≤ j ∧ (-1000 ≤ kk ∧ kk ≤ 1000) ∧ Hid (kk = atK k ((l.take j).map Fm.strip) ∧ ys.map Fm.strip = atL ((l.take j).map Fm.strip) ∧ ∀ y ∈ ys, y ∈ l) ∧ Hid (r = ys.length) ∧ Own fr al W [blkI s [.int .i64 0], flI a n l, fmsI l, blkI b6 [.int .i64 0, .int .i64 0, .string ⟨#[]⟩, .string ⟨#[]⟩, .slice none 0 0], rowI 26 5 ov r (cellsL ys)] wr)
  case atStart => exact ⟨0, 0, k, [], by omega, by omega, rfl, rfl, by omega, by omega, Lib.hid ⟨by rw [List.take_zero]; exact HK0.out.symm, rfl, by simp⟩, Lib.hid rfl, by simpa [cellsL] using st⟩
  case round =>
    obtain ⟨j, r, kk, ys, hj, rfl, rfl, rfl, hr, hkk, HY, HR, st'⟩ := hrel
    clear st hc
    have st := st'
    clear st'
    obtain ⟨oa, oc, rfl⟩ := own_slice (st.row (i := 4) get4)
    by_cases hjn : j < n
    · obtain ⟨b, off, ha, hcell⟩ := (st.flAt (i := 1) get1).fm (by omega)
      have hjl : j < l.length := by have := HN.out; omega
      have hsn := map_snoc_strip l j hjl
      have hgt := List.getElem?_eq_getElem hjl
      have hmem := List.getElem_mem hjl
      generalize l[j] = x at *
      have HE2 := Lib.hid (fun W' (hw : FmOk W' x) => fmEmpty_any x 2 W' hw)
      have HE3 := Lib.hid (fun W' (hw : FmOk W' x) => fmEmpty_any x 3 W' hw)
      have hKB := HKB.out (j + 1)
      have hka := atK_app k ((l.take j).map Fm.strip) x.strip
      have hla := atL_app ((l.take j).map Fm.strip) x.strip
      rw [← hsn, ← HY.out.1] at hka
      rw [← hsn, ← HY.out.2.1] at hla
      rw [hka] at hKB
      obtain ⟨v2, hv2⟩ : ∃ v, emF x.strip 2 = v := ⟨_, rfl⟩
      obtain ⟨v3, hv3⟩ : ∃ v, emF x.strip 3 = v := ⟨_, rfl⟩
      rw [hv2] at HE2 hka hla hKB
      rw [hv3] at HE3 hla
      have HMEM := Lib.hid hmem
      have HSX := Lib.hid (show ∀ y ∈ ys ++ [x], y ∈ l from fun y hy => by
        rcases List.mem_append.1 hy with q | q
        · exact HY.out.2.2 y q
        · rw [List.mem_singleton.1 q]; exact hmem)
      obtain ⟨op', k', ⟨o', d'⟩, a', n', c', kids'⟩ := x
      obtain ⟨r0, r1, r2, r3, r4⟩ := hcell j op' k' (o', d') a' n' c' kids' hgt
      unfold S at r2 r3
      simp only at r2 r3
      unfold fmV S at HE2 HE3
      simp only at HE2 HE3
      have HKA := Lib.hid hka
      have HLA := Lib.hid hla
      clear hcell hgt hjl hsn hmem hv2 hv3 hka hla
      subst ha
      cases v2 with
      | true =>
        rw [if_pos rfl] at hKB
        have HY2 : Hid (kk - 1 = atK k ((l.take (j + 1)).map Fm.strip) ∧ ys.map Fm.strip = atL ((l.take (j + 1)).map Fm.strip) ∧ ∀ y ∈ ys, y ∈ l) := Lib.hid ⟨by rw [HKA.out]; rfl, by rw [HLA.out]; simp, HY.out.2.2⟩
        have wk : IntKind.i64.wrap (kk - 1) = kk - 1 := IntWalk.i64_in _ ⟨by omega, by omega⟩
        (try simp only [nsl, Value.cells, unB] at st)
        (try clear hc); have hc := st.facts; (try simp only [nfl, nft, Nat.reduceAdd] at hc)
        go_wp2_with ((first
              | ((with_reducible refine wl_alloc ?_ (fun K hK => ?_)); rfl; refine owp_alloc (o := ⟨some 6, _, _, _, _, _⟩) rfl st ?_; apply Exists.intro; apply Exists.intro; refine ⟨?_, ?_⟩; (focus (first | (go_simp; done) | (go_simp; rfl))); (clear st; intro b6 w hb st; clear hb))
              | ((with_reducible refine wl_alloc ?_ (fun K hK => ?_)); rfl; refine owp_alloc (o := ⟨some 9, _, _, _, _, _⟩) rfl st ?_; apply Exists.intro; apply Exists.intro; refine ⟨?_, ?_⟩; (focus (first | (go_simp; done) | (go_simp; rfl))); (clear st; intro b9 w hb st; clear hb))
              | ((with_reducible refine wl_store ?_ (fun K hK => ?_)); rfl; refine owp_store rfl st ?_; apply Exists.intro; apply Exists.intro; refine ⟨?_, ?_, ?_⟩; (focus (go_simp; try rfl)); (focus (go_simp; try rfl)); (first | (with_reducible refine ⟨0, _, _, _, _, get0, rfl, rfl, ?_, ?_, ?_, ?_⟩) | (with_reducible refine ⟨1, _, _, _, _, get1, rfl, rfl, ?_, ?_, ?_, ?_⟩) | (with_reducible refine ⟨2, _, _, _, _, get2, rfl, rfl, ?_, ?_, ?_, ?_⟩) | (with_reducible refine ⟨3, _, _, _, _, get3, rfl, rfl, ?_, ?_, ?_, ?_⟩) | (with_reducible refine ⟨4, _, _, _, _, get4, rfl, rfl, ?_, ?_, ?_, ?_⟩) | (with_reducible refine ⟨5, _, _, _, _, get5, rfl, rfl, ?_, ?_, ?_, ?_⟩) | (with_reducible refine ⟨6, _, _, _, _, get6, rfl, rfl, ?_, ?_, ?_, ?_⟩) | (with_reducible refine ⟨7, _, _, _, _, get7, rfl, rfl, ?_, ?_, ?_, ?_⟩) | (with_reducible refine ⟨8, _, _, _, _, get8, rfl, rfl, ?_, ?_, ?_, ?_⟩)); (kernel_rfl); (simp [Value.cells]); (rfl); (clear st; intro w st))
              | ((with_reducible refine wl_buildSlice ?_ (fun K hK => ?_)); rfl; refine owp_buildSlice (o := ⟨some 27, _, _, _, _, _⟩) rfl st ?_; apply Exists.intro; apply Exists.intro; apply Exists.intro; apply Exists.intro; refine ⟨?_, ?_⟩; (focus (go_simp; (first | done | exact ⟨⟨rfl, rfl⟩, rfl⟩ | rfl))); (clear st; intro b27 w hb st; clear hb))); (try simp only [nsl, Value.cells, unB] at st); (try clear hc); have hc := st.facts; (try simp only [nfl, nft, Nat.reduceAdd] at hc))
        refine (HE2.out _ (st.fms (i := 2) get2 _ HMEM.out)).mono ?_
        rintro en w ⟨rfl, hx⟩
        replace st := st.ext hx
        clear hx
        (try clear hc); have hc := st.facts; (try simp only [nfl, nft, Nat.reduceAdd] at hc)
        go_wp2_with fail
        have st' := st.keep [0, 1, 2, 3, 4] (by decide) (by simp)
        go_roundg (n - (j + 1))
        case measure => omega
        case rel => exact ⟨j + 1, r, kk - 1, ys, by omega, by omega, by rw [← wk], by go_num, by omega, hKB, HY2, HR, by simpa [pick] using st'⟩
      | false =>
        rw [if_neg (by simp)] at hKB
        cases v3 with
        | true =>
          have HY2 : Hid (kk = atK k ((l.take (j + 1)).map Fm.strip) ∧ ys.map Fm.strip = atL ((l.take (j + 1)).map Fm.strip) ∧ ∀ y ∈ ys, y ∈ l) := Lib.hid ⟨by rw [HKA.out]; rfl, by rw [HLA.out]; simp, HY.out.2.2⟩
          (try simp only [nsl, Value.cells, unB] at st)
          (try clear hc); have hc := st.facts; (try simp only [nfl, nft, Nat.reduceAdd] at hc)
          go_wp2_with ((first
                | ((with_reducible refine wl_alloc ?_ (fun K hK => ?_)); rfl; refine owp_alloc (o := ⟨some 6, _, _, _, _, _⟩) rfl st ?_; apply Exists.intro; apply Exists.intro; refine ⟨?_, ?_⟩; (focus (first | (go_simp; done) | (go_simp; rfl))); (clear st; intro b6 w hb st; clear hb))
                | ((with_reducible refine wl_alloc ?_ (fun K hK => ?_)); rfl; refine owp_alloc (o := ⟨some 9, _, _, _, _, _⟩) rfl st ?_; apply Exists.intro; apply Exists.intro; refine ⟨?_, ?_⟩; (focus (first | (go_simp; done) | (go_simp; rfl))); (clear st; intro b9 w hb st; clear hb))
                | ((with_reducible refine wl_store ?_ (fun K hK => ?_)); rfl; refine owp_store rfl st ?_; apply Exists.intro; apply Exists.intro; refine ⟨?_, ?_, ?_⟩; (focus (go_simp; try rfl)); (focus (go_simp; try rfl)); (first | (with_reducible refine ⟨0, _, _, _, _, get0, rfl, rfl, ?_, ?_, ?_, ?_⟩) | (with_reducible refine ⟨1, _, _, _, _, get1, rfl, rfl, ?_, ?_, ?_, ?_⟩) | (with_reducible refine ⟨2, _, _, _, _, get2, rfl, rfl, ?_, ?_, ?_, ?_⟩) | (with_reducible refine ⟨3, _, _, _, _, get3, rfl, rfl, ?_, ?_, ?_, ?_⟩) | (with_reducible refine ⟨4, _, _, _, _, get4, rfl, rfl, ?_, ?_, ?_, ?_⟩) | (with_reducible refine ⟨5, _, _, _, _, get5, rfl, rfl, ?_, ?_, ?_, ?_⟩) | (with_reducible refine ⟨6, _, _, _, _, get6, rfl, rfl, ?_, ?_, ?_, ?_⟩) | (with_reducible refine ⟨7, _, _, _, _, get7, rfl, rfl, ?_, ?_, ?_, ?_⟩) | (with_reducible refine ⟨8, _, _, _, _, get8, rfl, rfl, ?_, ?_, ?_, ?_⟩)); (kernel_rfl); (simp [Value.cells]); (rfl); (clear st; intro w st))
                | ((with_reducible refine wl_buildSlice ?_ (fun K hK => ?_)); rfl; refine owp_buildSlice (o := ⟨some 27, _, _, _, _, _⟩) rfl st ?_; apply Exists.intro; apply Exists.intro; apply Exists.intro; apply Exists.intro; refine ⟨?_, ?_⟩; (focus (go_simp; (first | done | exact ⟨⟨rfl, rfl⟩, rfl⟩ | rfl))); (clear st; intro b27 w hb st; clear hb))); (try simp only [nsl, Value.cells, unB] at st); (try clear hc); have hc := st.facts; (try simp only [nfl, nft, Nat.reduceAdd] at hc))
          refine (HE2.out _ (st.fms (i := 2) get2 _ HMEM.out)).mono ?_
          rintro en w ⟨rfl, hx⟩
          replace st := st.ext hx
          clear hx
          (try clear hc); have hc := st.facts; (try simp only [nfl, nft, Nat.reduceAdd] at hc)
          go_wp2_with fail
          refine (HE3.out _ (st.fms (i := 2) get2 _ HMEM.out)).mono ?_
          rintro en w ⟨rfl, hx⟩
          replace st := st.ext hx
          clear hx
          (try clear hc); have hc := st.facts; (try simp only [nfl, nft, Nat.reduceAdd] at hc)
          go_wp2_with fail
          have st' := st.keep [0, 1, 2, 3, 4] (by decide) (by simp)
          go_roundg (n - (j + 1))
          case measure => omega
          case rel => exact ⟨j + 1, r, kk, ys, by omega, by omega, rfl, by go_num, by omega, hkk, HY2, HR, by simpa [pick] using st'⟩
        | false =>
          have HY2 : Hid (kk = atK k ((l.take (j + 1)).map Fm.strip) ∧ (ys ++ [Fm.mk op' k' (o', d') a' n' c' kids']).map Fm.strip = atL ((l.take (j + 1)).map Fm.strip) ∧ ∀ y ∈ ys ++ [Fm.mk op' k' (o', d') a' n' c' kids'], y ∈ l) := Lib.hid ⟨by rw [HKA.out]; rfl, by rw [HLA.out, List.map_append]; simp, HSX.out⟩
          have HR2 : Hid (r + 1 = (ys ++ [Fm.mk op' k' (o', d') a' n' c' kids']).length) := Lib.hid (by rw [List.length_append, ← HR.out]; rfl)
          (try simp only [nsl, Value.cells, unB] at st)
          (try clear hc); have hc := st.facts; (try simp only [nfl, nft, Nat.reduceAdd] at hc)
          go_wp2_with ((first
                | ((with_reducible refine wl_alloc ?_ (fun K hK => ?_)); rfl; refine owp_alloc (o := ⟨some 6, _, _, _, _, _⟩) rfl st ?_; apply Exists.intro; apply Exists.intro; refine ⟨?_, ?_⟩; (focus (first | (go_simp; done) | (go_simp; rfl))); (clear st; intro b6 w hb st; clear hb))
                | ((with_reducible refine wl_alloc ?_ (fun K hK => ?_)); rfl; refine owp_alloc (o := ⟨some 9, _, _, _, _, _⟩) rfl st ?_; apply Exists.intro; apply Exists.intro; refine ⟨?_, ?_⟩; (focus (first | (go_simp; done) | (go_simp; rfl))); (clear st; intro b9 w hb st; clear hb))
                | ((with_reducible refine wl_store ?_ (fun K hK => ?_)); rfl; refine owp_store rfl st ?_; apply Exists.intro; apply Exists.intro; refine ⟨?_, ?_, ?_⟩; (focus (go_simp; try rfl)); (focus (go_simp; try rfl)); (first | (with_reducible refine ⟨0, _, _, _, _, get0, rfl, rfl, ?_, ?_, ?_, ?_⟩) | (with_reducible refine ⟨1, _, _, _, _, get1, rfl, rfl, ?_, ?_, ?_, ?_⟩) | (with_reducible refine ⟨2, _, _, _, _, get2, rfl, rfl, ?_, ?_, ?_, ?_⟩) | (with_reducible refine ⟨3, _, _, _, _, get3, rfl, rfl, ?_, ?_, ?_, ?_⟩) | (with_reducible refine ⟨4, _, _, _, _, get4, rfl, rfl, ?_, ?_, ?_, ?_⟩) | (with_reducible refine ⟨5, _, _, _, _, get5, rfl, rfl, ?_, ?_, ?_, ?_⟩) | (with_reducible refine ⟨6, _, _, _, _, get6, rfl, rfl, ?_, ?_, ?_, ?_⟩) | (with_reducible refine ⟨7, _, _, _, _, get7, rfl, rfl, ?_, ?_, ?_, ?_⟩) | (with_reducible refine ⟨8, _, _, _, _, get8, rfl, rfl, ?_, ?_, ?_, ?_⟩)); (kernel_rfl); (simp [Value.cells]); (rfl); (clear st; intro w st))
                | ((with_reducible refine wl_buildSlice ?_ (fun K hK => ?_)); rfl; refine owp_buildSlice (o := ⟨some 27, _, _, _, _, _⟩) rfl st ?_; apply Exists.intro; apply Exists.intro; apply Exists.intro; apply Exists.intro; refine ⟨?_, ?_⟩; (focus (go_simp; (first | done | exact ⟨⟨rfl, rfl⟩, rfl⟩ | rfl))); (clear st; intro b27 w hb st; clear hb))); (try simp only [nsl, Value.cells, unB] at st); (try clear hc); have hc := st.facts; (try simp only [nfl, nft, Nat.reduceAdd] at hc))
          refine (HE2.out _ (st.fms (i := 2) get2 _ HMEM.out)).mono ?_
          rintro en w ⟨rfl, hx⟩
          replace st := st.ext hx
          clear hx
          (try clear hc); have hc := st.facts; (try simp only [nfl, nft, Nat.reduceAdd] at hc)
          go_wp2_with fail
          refine (HE3.out _ (st.fms (i := 2) get2 _ HMEM.out)).mono ?_
          rintro en w ⟨rfl, hx⟩
          replace st := st.ext hx
          clear hx
          (try clear hc); have hc := st.facts; (try simp only [nfl, nft, Nat.reduceAdd] at hc)
          go_wp2_with (first
              | ((with_reducible refine wl_append ?_ (fun K hK => ?_)); (rfl); (obtain ⟨inf, hinf, hz0, hz1, hz2⟩ := fmInfo); (refine owp_append rfl st 4 get4 Try.underlying24 hinf hz0 hz1 hz2 rfl (by decide) rfl rfl ((st.blk (i := 6) get6).flat rfl) (by first | exact cellsL_all _ | simp [Value.oneCell']) (by simp only [maxLen]; omega) (by omega) ?_); (clear hinf hz0 hz1 hz2 inf); (clear st; intro v' w st); (obtain ⟨va', vc', rfl⟩ := own_slice (st.row (i := 4) get4)); (try simp only [nsl, Value.cells, unB] at st); (try simp only [Nat.zero_add] at st); (try clear hc); have hc := st.facts; (try simp only [nfl, nft, Nat.reduceAdd] at hc))
              | ((with_reducible refine wl_buildSlice ?_ (fun K hK => ?_)); (rfl); (refine owp_buildRow (o := ⟨some 9999, _, _, _, _, _⟩) rfl st 26 5 ?_; refine ⟨0, #[], ?_, by simp, by simp [maxLen], ?_⟩; (focus (go_simp; (first | done | rfl))); (clear st; intro b9999 w hb st; clear hb)); (try simp only [nsl, Value.cells, unB] at st); (try clear hc); have hc := st.facts; (try simp only [nfl, nft, Nat.reduceAdd] at hc))
              | ((first
                | ((with_reducible refine wl_alloc ?_ (fun K hK => ?_)); rfl; refine owp_alloc (o := ⟨some 6, _, _, _, _, _⟩) rfl st ?_; apply Exists.intro; apply Exists.intro; refine ⟨?_, ?_⟩; (focus (first | (go_simp; done) | (go_simp; rfl))); (clear st; intro b6 w hb st; clear hb))
                | ((with_reducible refine wl_alloc ?_ (fun K hK => ?_)); rfl; refine owp_alloc (o := ⟨some 9, _, _, _, _, _⟩) rfl st ?_; apply Exists.intro; apply Exists.intro; refine ⟨?_, ?_⟩; (focus (first | (go_simp; done) | (go_simp; rfl))); (clear st; intro b9 w hb st; clear hb))
                | ((with_reducible refine wl_store ?_ (fun K hK => ?_)); rfl; refine owp_store rfl st ?_; apply Exists.intro; apply Exists.intro; refine ⟨?_, ?_, ?_⟩; (focus (go_simp; try rfl)); (focus (go_simp; try rfl)); (first | (with_reducible refine ⟨0, _, _, _, _, get0, rfl, rfl, ?_, ?_, ?_, ?_⟩) | (with_reducible refine ⟨1, _, _, _, _, get1, rfl, rfl, ?_, ?_, ?_, ?_⟩) | (with_reducible refine ⟨2, _, _, _, _, get2, rfl, rfl, ?_, ?_, ?_, ?_⟩) | (with_reducible refine ⟨3, _, _, _, _, get3, rfl, rfl, ?_, ?_, ?_, ?_⟩) | (with_reducible refine ⟨4, _, _, _, _, get4, rfl, rfl, ?_, ?_, ?_, ?_⟩) | (with_reducible refine ⟨5, _, _, _, _, get5, rfl, rfl, ?_, ?_, ?_, ?_⟩) | (with_reducible refine ⟨6, _, _, _, _, get6, rfl, rfl, ?_, ?_, ?_, ?_⟩) | (with_reducible refine ⟨7, _, _, _, _, get7, rfl, rfl, ?_, ?_, ?_, ?_⟩) | (with_reducible refine ⟨8, _, _, _, _, get8, rfl, rfl, ?_, ?_, ?_, ?_⟩)); (kernel_rfl); (simp [Value.cells]); (rfl); (clear st; intro w st))
                | ((with_reducible refine wl_buildSlice ?_ (fun K hK => ?_)); rfl; refine owp_buildSlice (o := ⟨some 27, _, _, _, _, _⟩) rfl st ?_; apply Exists.intro; apply Exists.intro; apply Exists.intro; apply Exists.intro; refine ⟨?_, ?_⟩; (focus (go_simp; (first | done | exact ⟨⟨rfl, rfl⟩, rfl⟩ | rfl))); (clear st; intro b27 w hb st; clear hb))); (try simp only [nsl, Value.cells, unB] at st); (try clear hc); have hc := st.facts; (try simp only [nfl, nft, Nat.reduceAdd] at hc)))
          have st' := st.keep [0, 1, 2, 3, 4] (by decide) (by simp)
          go_roundg (n - (j + 1))
          case measure => omega
          case rel => exact ⟨j + 1, r + 1, kk, ys ++ [Fm.mk op' k' (o', d') a' n' c' kids'], by omega, by omega, rfl, by go_num, by omega, hkk, HY2, HR2, by rw [cellsL_append, show cellsL [Fm.mk op' k' (o', d') a' n' c' kids'] = [.int .i64 op', .int .i64 k', .string ⟨o'.toArray⟩, .string ⟨d'.toArray⟩, .slice a' n' c'] from rfl]; simpa [pick] using st'⟩
    · obtain rfl : j = n := by omega
      have hyo := HY.out
      rw [List.take_of_length_le (by have := HN.out; omega)] at hyo
      have HRS2 : Hid (rs = atE kk (ys.map Fm.strip)) := Lib.hid (by rw [HRS.out, ← hyo.1, ← hyo.2.1])
      have HSY : Hid (SmL (ys.map Fm.strip) ∧ nodesL (ys.map Fm.strip) ≤ 64) := Lib.hid (by rw [hyo.2.1]; exact HSM.out)
      have HSUB := Lib.hid hyo.2.2
      have HRL : Hid ((ys.map Fm.strip).length = r) := Lib.hid (by rw [List.length_map]; exact HR.out.symm)
      clear hyo HY HRS HSM
      obtain ⟨hcap, _⟩ := rowFl' (α := Fm) st (i := 4) get4
      have HCAP := Lib.hid hcap
      clear hcap
      replace st := st.rowToFl (α := Fm) (i := 4) get4
      simp only [List.set] at st
      replace st := st.fmsSub (i := 2) (m := ys) get2 HSUB.out
      simp only [List.cons_append, List.nil_append] at st
      by_cases h0 : kk ≤ 0
      · have HF : Hid (rs = .mk 2 0 ([], []) []) := Lib.hid (by rw [HRS2.out]; unfold atE; rw [if_pos h0])
        (try simp only [nsl, Value.cells, unB] at st)
        (try clear hc); have hc := st.facts; (try simp only [nfl, nft, Nat.reduceAdd] at hc)
        go_wp2_with ((first
              | ((with_reducible refine wl_alloc ?_ (fun K hK => ?_)); rfl; refine owp_alloc (o := ⟨some 6, _, _, _, _, _⟩) rfl st ?_; apply Exists.intro; apply Exists.intro; refine ⟨?_, ?_⟩; (focus (first | (go_simp; done) | (go_simp; rfl))); (clear st; intro b6 w hb st; clear hb))
              | ((with_reducible refine wl_alloc ?_ (fun K hK => ?_)); rfl; refine owp_alloc (o := ⟨some 9, _, _, _, _, _⟩) rfl st ?_; apply Exists.intro; apply Exists.intro; refine ⟨?_, ?_⟩; (focus (first | (go_simp; done) | (go_simp; rfl))); (clear st; intro b9 w hb st; clear hb))
              | ((with_reducible refine wl_store ?_ (fun K hK => ?_)); rfl; refine owp_store rfl st ?_; apply Exists.intro; apply Exists.intro; refine ⟨?_, ?_, ?_⟩; (focus (go_simp; try rfl)); (focus (go_simp; try rfl)); (first | (with_reducible refine ⟨0, _, _, _, _, get0, rfl, rfl, ?_, ?_, ?_, ?_⟩) | (with_reducible refine ⟨1, _, _, _, _, get1, rfl, rfl, ?_, ?_, ?_, ?_⟩) | (with_reducible refine ⟨2, _, _, _, _, get2, rfl, rfl, ?_, ?_, ?_, ?_⟩) | (with_reducible refine ⟨3, _, _, _, _, get3, rfl, rfl, ?_, ?_, ?_, ?_⟩) | (with_reducible refine ⟨4, _, _, _, _, get4, rfl, rfl, ?_, ?_, ?_, ?_⟩) | (with_reducible refine ⟨5, _, _, _, _, get5, rfl, rfl, ?_, ?_, ?_, ?_⟩) | (with_reducible refine ⟨6, _, _, _, _, get6, rfl, rfl, ?_, ?_, ?_, ?_⟩) | (with_reducible refine ⟨7, _, _, _, _, get7, rfl, rfl, ?_, ?_, ?_, ?_⟩) | (with_reducible refine ⟨8, _, _, _, _, get8, rfl, rfl, ?_, ?_, ?_, ?_⟩)); (kernel_rfl); (simp [Value.cells]); (rfl); (clear st; intro w st))
              | ((with_reducible refine wl_buildSlice ?_ (fun K hK => ?_)); rfl; refine owp_buildSlice (o := ⟨some 27, _, _, _, _, _⟩) rfl st ?_; apply Exists.intro; apply Exists.intro; apply Exists.intro; apply Exists.intro; refine ⟨?_, ?_⟩; (focus (go_simp; (first | done | exact ⟨⟨rfl, rfl⟩, rfl⟩ | rfl))); (clear st; intro b27 w hb st; clear hb))); (try simp only [nsl, Value.cells, unB] at st); (try clear hc); have hc := st.facts; (try simp only [nfl, nft, Nat.reduceAdd] at hc))
        refine (normAlways_any _).mono ?_
        rintro en w ⟨rfl, hx⟩
        replace st := st.ext hx
        clear hx
        (try clear hc); have hc := st.facts; (try simp only [nfl, nft, Nat.reduceAdd] at hc)
        unfold fmV S
        go_wp2_with ((first
              | ((with_reducible refine wl_alloc ?_ (fun K hK => ?_)); rfl; refine owp_alloc (o := ⟨some 6, _, _, _, _, _⟩) rfl st ?_; apply Exists.intro; apply Exists.intro; refine ⟨?_, ?_⟩; (focus (first | (go_simp; done) | (go_simp; rfl))); (clear st; intro b6 w hb st; clear hb))
              | ((with_reducible refine wl_alloc ?_ (fun K hK => ?_)); rfl; refine owp_alloc (o := ⟨some 9, _, _, _, _, _⟩) rfl st ?_; apply Exists.intro; apply Exists.intro; refine ⟨?_, ?_⟩; (focus (first | (go_simp; done) | (go_simp; rfl))); (clear st; intro b9 w hb st; clear hb))
              | ((with_reducible refine wl_store ?_ (fun K hK => ?_)); rfl; refine owp_store rfl st ?_; apply Exists.intro; apply Exists.intro; refine ⟨?_, ?_, ?_⟩; (focus (go_simp; try rfl)); (focus (go_simp; try rfl)); (first | (with_reducible refine ⟨0, _, _, _, _, get0, rfl, rfl, ?_, ?_, ?_, ?_⟩) | (with_reducible refine ⟨1, _, _, _, _, get1, rfl, rfl, ?_, ?_, ?_, ?_⟩) | (with_reducible refine ⟨2, _, _, _, _, get2, rfl, rfl, ?_, ?_, ?_, ?_⟩) | (with_reducible refine ⟨3, _, _, _, _, get3, rfl, rfl, ?_, ?_, ?_, ?_⟩) | (with_reducible refine ⟨4, _, _, _, _, get4, rfl, rfl, ?_, ?_, ?_, ?_⟩) | (with_reducible refine ⟨5, _, _, _, _, get5, rfl, rfl, ?_, ?_, ?_, ?_⟩) | (with_reducible refine ⟨6, _, _, _, _, get6, rfl, rfl, ?_, ?_, ?_, ?_⟩) | (with_reducible refine ⟨7, _, _, _, _, get7, rfl, rfl, ?_, ?_, ?_, ?_⟩) | (with_reducible refine ⟨8, _, _, _, _, get8, rfl, rfl, ?_, ?_, ?_, ?_⟩)); (kernel_rfl); (simp [Value.cells]); (rfl); (clear st; intro w st))
              | ((with_reducible refine wl_buildSlice ?_ (fun K hK => ?_)); rfl; refine owp_buildSlice (o := ⟨some 27, _, _, _, _, _⟩) rfl st ?_; apply Exists.intro; apply Exists.intro; apply Exists.intro; apply Exists.intro; refine ⟨?_, ?_⟩; (focus (go_simp; (first | done | exact ⟨⟨rfl, rfl⟩, rfl⟩ | rfl))); (clear st; intro b27 w hb st; clear hb))); (try simp only [nsl, Value.cells, unB] at st); (try clear hc); have hc := st.facts; (try simp only [nfl, nft, Nat.reduceAdd] at hc))
        (try simp only [Exit.inBlock, Exit.then])
        refine bodyPost_cell rfl rfl (st.blk (i := 3) get3) Try.underlying26 rfl (by kernel_rfl) rfl ?_
        have st2 := (st.bare (I := fmI (.mk 2 0 ([], []) none 0 0 [])) (fm_bare _ _ _ _)).keep [0, 1, 2, 6] (by decide) (by simp)
        exact fmMade (.mk 2 0 ([], []) none 0 0 []) rfl (by rw [HF.out]; rfl) (by simpa [pick] using st2)
      have h0i : ¬ kk ≤ 0 := h0
      by_cases h1 : (r : Int) < kk
      · have HF : Hid (rs = .mk 3 0 ([], []) []) := Lib.hid (by rw [HRS2.out]; unfold atE; rw [if_neg h0, HRL.out, if_pos h1])
        (try simp only [nsl, Value.cells, unB] at st)
        (try clear hc); have hc := st.facts; (try simp only [nfl, nft, Nat.reduceAdd] at hc)
        go_wp2_with ((first
              | ((with_reducible refine wl_alloc ?_ (fun K hK => ?_)); rfl; refine owp_alloc (o := ⟨some 6, _, _, _, _, _⟩) rfl st ?_; apply Exists.intro; apply Exists.intro; refine ⟨?_, ?_⟩; (focus (first | (go_simp; done) | (go_simp; rfl))); (clear st; intro b6 w hb st; clear hb))
              | ((with_reducible refine wl_alloc ?_ (fun K hK => ?_)); rfl; refine owp_alloc (o := ⟨some 9, _, _, _, _, _⟩) rfl st ?_; apply Exists.intro; apply Exists.intro; refine ⟨?_, ?_⟩; (focus (first | (go_simp; done) | (go_simp; rfl))); (clear st; intro b9 w hb st; clear hb))
              | ((with_reducible refine wl_store ?_ (fun K hK => ?_)); rfl; refine owp_store rfl st ?_; apply Exists.intro; apply Exists.intro; refine ⟨?_, ?_, ?_⟩; (focus (go_simp; try rfl)); (focus (go_simp; try rfl)); (first | (with_reducible refine ⟨0, _, _, _, _, get0, rfl, rfl, ?_, ?_, ?_, ?_⟩) | (with_reducible refine ⟨1, _, _, _, _, get1, rfl, rfl, ?_, ?_, ?_, ?_⟩) | (with_reducible refine ⟨2, _, _, _, _, get2, rfl, rfl, ?_, ?_, ?_, ?_⟩) | (with_reducible refine ⟨3, _, _, _, _, get3, rfl, rfl, ?_, ?_, ?_, ?_⟩) | (with_reducible refine ⟨4, _, _, _, _, get4, rfl, rfl, ?_, ?_, ?_, ?_⟩) | (with_reducible refine ⟨5, _, _, _, _, get5, rfl, rfl, ?_, ?_, ?_, ?_⟩) | (with_reducible refine ⟨6, _, _, _, _, get6, rfl, rfl, ?_, ?_, ?_, ?_⟩) | (with_reducible refine ⟨7, _, _, _, _, get7, rfl, rfl, ?_, ?_, ?_, ?_⟩) | (with_reducible refine ⟨8, _, _, _, _, get8, rfl, rfl, ?_, ?_, ?_, ?_⟩)); (kernel_rfl); (simp [Value.cells]); (rfl); (clear st; intro w st))
              | ((with_reducible refine wl_buildSlice ?_ (fun K hK => ?_)); rfl; refine owp_buildSlice (o := ⟨some 27, _, _, _, _, _⟩) rfl st ?_; apply Exists.intro; apply Exists.intro; apply Exists.intro; apply Exists.intro; refine ⟨?_, ?_⟩; (focus (go_simp; (first | done | exact ⟨⟨rfl, rfl⟩, rfl⟩ | rfl))); (clear st; intro b27 w hb st; clear hb))); (try simp only [nsl, Value.cells, unB] at st); (try clear hc); have hc := st.facts; (try simp only [nfl, nft, Nat.reduceAdd] at hc))
        refine (normNever_any _).mono ?_
        rintro en w ⟨rfl, hx⟩
        replace st := st.ext hx
        clear hx
        (try clear hc); have hc := st.facts; (try simp only [nfl, nft, Nat.reduceAdd] at hc)
        unfold fmV S
        go_wp2_with ((first
              | ((with_reducible refine wl_alloc ?_ (fun K hK => ?_)); rfl; refine owp_alloc (o := ⟨some 6, _, _, _, _, _⟩) rfl st ?_; apply Exists.intro; apply Exists.intro; refine ⟨?_, ?_⟩; (focus (first | (go_simp; done) | (go_simp; rfl))); (clear st; intro b6 w hb st; clear hb))
              | ((with_reducible refine wl_alloc ?_ (fun K hK => ?_)); rfl; refine owp_alloc (o := ⟨some 9, _, _, _, _, _⟩) rfl st ?_; apply Exists.intro; apply Exists.intro; refine ⟨?_, ?_⟩; (focus (first | (go_simp; done) | (go_simp; rfl))); (clear st; intro b9 w hb st; clear hb))
              | ((with_reducible refine wl_store ?_ (fun K hK => ?_)); rfl; refine owp_store rfl st ?_; apply Exists.intro; apply Exists.intro; refine ⟨?_, ?_, ?_⟩; (focus (go_simp; try rfl)); (focus (go_simp; try rfl)); (first | (with_reducible refine ⟨0, _, _, _, _, get0, rfl, rfl, ?_, ?_, ?_, ?_⟩) | (with_reducible refine ⟨1, _, _, _, _, get1, rfl, rfl, ?_, ?_, ?_, ?_⟩) | (with_reducible refine ⟨2, _, _, _, _, get2, rfl, rfl, ?_, ?_, ?_, ?_⟩) | (with_reducible refine ⟨3, _, _, _, _, get3, rfl, rfl, ?_, ?_, ?_, ?_⟩) | (with_reducible refine ⟨4, _, _, _, _, get4, rfl, rfl, ?_, ?_, ?_, ?_⟩) | (with_reducible refine ⟨5, _, _, _, _, get5, rfl, rfl, ?_, ?_, ?_, ?_⟩) | (with_reducible refine ⟨6, _, _, _, _, get6, rfl, rfl, ?_, ?_, ?_, ?_⟩) | (with_reducible refine ⟨7, _, _, _, _, get7, rfl, rfl, ?_, ?_, ?_, ?_⟩) | (with_reducible refine ⟨8, _, _, _, _, get8, rfl, rfl, ?_, ?_, ?_, ?_⟩)); (kernel_rfl); (simp [Value.cells]); (rfl); (clear st; intro w st))
              | ((with_reducible refine wl_buildSlice ?_ (fun K hK => ?_)); rfl; refine owp_buildSlice (o := ⟨some 27, _, _, _, _, _⟩) rfl st ?_; apply Exists.intro; apply Exists.intro; apply Exists.intro; apply Exists.intro; refine ⟨?_, ?_⟩; (focus (go_simp; (first | done | exact ⟨⟨rfl, rfl⟩, rfl⟩ | rfl))); (clear st; intro b27 w hb st; clear hb))); (try simp only [nsl, Value.cells, unB] at st); (try clear hc); have hc := st.facts; (try simp only [nfl, nft, Nat.reduceAdd] at hc))
        (try simp only [Exit.inBlock, Exit.then])
        refine bodyPost_cell rfl rfl (st.blk (i := 3) get3) Try.underlying26 rfl (by kernel_rfl) rfl ?_
        have st2 := (st.bare (I := fmI (.mk 3 0 ([], []) none 0 0 [])) (fm_bare _ _ _ _)).keep [0, 1, 2, 6] (by decide) (by simp)
        exact fmMade (.mk 3 0 ([], []) none 0 0 []) rfl (by rw [HF.out]; rfl) (by simpa [pick] using st2)
      by_cases h2 : kk = (r : Int)
      · have HF : Hid (rs = joF 2 (ys.map Fm.strip)) := Lib.hid (by rw [HRS2.out]; unfold atE; rw [if_neg h0, HRL.out, if_neg h1, if_pos h2])
        have HJ := Lib.hid (fun fr al W st => joined_c (fr := fr) (al := al) (W := W) (a := oa) (n := r) (c := oc) (s := s) 2 ys (.inl rfl) HSY.out.1 HSY.out.2 st)
        subst h2
        (try simp only [nsl, Value.cells, unB] at st)
        (try clear hc); have hc := st.facts; (try simp only [nfl, nft, Nat.reduceAdd] at hc)
        go_wp2_with ((first
              | ((with_reducible refine wl_alloc ?_ (fun K hK => ?_)); rfl; refine owp_alloc (o := ⟨some 6, _, _, _, _, _⟩) rfl st ?_; apply Exists.intro; apply Exists.intro; refine ⟨?_, ?_⟩; (focus (first | (go_simp; done) | (go_simp; rfl))); (clear st; intro b6 w hb st; clear hb))
              | ((with_reducible refine wl_alloc ?_ (fun K hK => ?_)); rfl; refine owp_alloc (o := ⟨some 9, _, _, _, _, _⟩) rfl st ?_; apply Exists.intro; apply Exists.intro; refine ⟨?_, ?_⟩; (focus (first | (go_simp; done) | (go_simp; rfl))); (clear st; intro b9 w hb st; clear hb))
              | ((with_reducible refine wl_store ?_ (fun K hK => ?_)); rfl; refine owp_store rfl st ?_; apply Exists.intro; apply Exists.intro; refine ⟨?_, ?_, ?_⟩; (focus (go_simp; try rfl)); (focus (go_simp; try rfl)); (first | (with_reducible refine ⟨0, _, _, _, _, get0, rfl, rfl, ?_, ?_, ?_, ?_⟩) | (with_reducible refine ⟨1, _, _, _, _, get1, rfl, rfl, ?_, ?_, ?_, ?_⟩) | (with_reducible refine ⟨2, _, _, _, _, get2, rfl, rfl, ?_, ?_, ?_, ?_⟩) | (with_reducible refine ⟨3, _, _, _, _, get3, rfl, rfl, ?_, ?_, ?_, ?_⟩) | (with_reducible refine ⟨4, _, _, _, _, get4, rfl, rfl, ?_, ?_, ?_, ?_⟩) | (with_reducible refine ⟨5, _, _, _, _, get5, rfl, rfl, ?_, ?_, ?_, ?_⟩) | (with_reducible refine ⟨6, _, _, _, _, get6, rfl, rfl, ?_, ?_, ?_, ?_⟩) | (with_reducible refine ⟨7, _, _, _, _, get7, rfl, rfl, ?_, ?_, ?_, ?_⟩) | (with_reducible refine ⟨8, _, _, _, _, get8, rfl, rfl, ?_, ?_, ?_, ?_⟩)); (kernel_rfl); (simp [Value.cells]); (rfl); (clear st; intro w st))
              | ((with_reducible refine wl_buildSlice ?_ (fun K hK => ?_)); rfl; refine owp_buildSlice (o := ⟨some 27, _, _, _, _, _⟩) rfl st ?_; apply Exists.intro; apply Exists.intro; apply Exists.intro; apply Exists.intro; refine ⟨?_, ?_⟩; (focus (go_simp; (first | done | exact ⟨⟨rfl, rfl⟩, rfl⟩ | rfl))); (clear st; intro b27 w hb st; clear hb))); (try simp only [nsl, Value.cells, unB] at st); (try clear hc); have hc := st.facts; (try simp only [nfl, nft, Nat.reduceAdd] at hc))
        obtain ⟨fr', al', st', back⟩ := st.sub [0, 4, 5] (by decide) (by simp)
        (try simp only [nsl, Value.cells, unB] at st')
        refine (HJ.out _ _ _ st').mono ?_
        clear st'
        rintro en w ⟨g, rfl, hg, st'⟩
        replace st := back _ _ (by simp) st'
        clear back st'
        (try simp only [nsl, Value.cells, unB] at st)
        (try clear hc); have hc := st.facts; (try simp only [nfl, nft, Nat.reduceAdd] at hc)
        have HG : Hid (g.strip = rs) := Lib.hid (by rw [hg, HF.out])
        clear hg
        obtain ⟨op', k', ⟨o', d'⟩, a', n', c', kids'⟩ := g
        unfold fmV S
        simp only
        (try simp only [nsl, Value.cells, unB] at st)
        (try clear hc); have hc := st.facts; (try simp only [nfl, nft, Nat.reduceAdd] at hc)
        go_wp2_with ((first
              | ((with_reducible refine wl_alloc ?_ (fun K hK => ?_)); rfl; refine owp_alloc (o := ⟨some 6, _, _, _, _, _⟩) rfl st ?_; apply Exists.intro; apply Exists.intro; refine ⟨?_, ?_⟩; (focus (first | (go_simp; done) | (go_simp; rfl))); (clear st; intro b6 w hb st; clear hb))
              | ((with_reducible refine wl_alloc ?_ (fun K hK => ?_)); rfl; refine owp_alloc (o := ⟨some 9, _, _, _, _, _⟩) rfl st ?_; apply Exists.intro; apply Exists.intro; refine ⟨?_, ?_⟩; (focus (first | (go_simp; done) | (go_simp; rfl))); (clear st; intro b9 w hb st; clear hb))
              | ((with_reducible refine wl_store ?_ (fun K hK => ?_)); rfl; refine owp_store rfl st ?_; apply Exists.intro; apply Exists.intro; refine ⟨?_, ?_, ?_⟩; (focus (go_simp; try rfl)); (focus (go_simp; try rfl)); (first | (with_reducible refine ⟨0, _, _, _, _, get0, rfl, rfl, ?_, ?_, ?_, ?_⟩) | (with_reducible refine ⟨1, _, _, _, _, get1, rfl, rfl, ?_, ?_, ?_, ?_⟩) | (with_reducible refine ⟨2, _, _, _, _, get2, rfl, rfl, ?_, ?_, ?_, ?_⟩) | (with_reducible refine ⟨3, _, _, _, _, get3, rfl, rfl, ?_, ?_, ?_, ?_⟩) | (with_reducible refine ⟨4, _, _, _, _, get4, rfl, rfl, ?_, ?_, ?_, ?_⟩) | (with_reducible refine ⟨5, _, _, _, _, get5, rfl, rfl, ?_, ?_, ?_, ?_⟩) | (with_reducible refine ⟨6, _, _, _, _, get6, rfl, rfl, ?_, ?_, ?_, ?_⟩) | (with_reducible refine ⟨7, _, _, _, _, get7, rfl, rfl, ?_, ?_, ?_, ?_⟩) | (with_reducible refine ⟨8, _, _, _, _, get8, rfl, rfl, ?_, ?_, ?_, ?_⟩)); (kernel_rfl); (simp [Value.cells]); (rfl); (clear st; intro w st))
              | ((with_reducible refine wl_buildSlice ?_ (fun K hK => ?_)); rfl; refine owp_buildSlice (o := ⟨some 27, _, _, _, _, _⟩) rfl st ?_; apply Exists.intro; apply Exists.intro; apply Exists.intro; apply Exists.intro; refine ⟨?_, ?_⟩; (focus (go_simp; (first | done | exact ⟨⟨rfl, rfl⟩, rfl⟩ | rfl))); (clear st; intro b27 w hb st; clear hb))); (try simp only [nsl, Value.cells, unB] at st); (try clear hc); have hc := st.facts; (try simp only [nfl, nft, Nat.reduceAdd] at hc))
        (try simp only [Exit.inBlock, Exit.then])
        refine bodyPost_cell rfl rfl (st.blk (i := 3) get3) Try.underlying26 rfl (by kernel_rfl) rfl ?_
        have st2 := st.keep [0, 1, 2, 6] (by decide) (by simp)
        exact fmMade (.mk op' k' (o', d') a' n' c' kids') rfl HG.out (by simpa [pick] using st2)
      have h2b : (kk == (r : Int)) = false := by simpa using h2
      by_cases h3 : kk = 1
      · have HF : Hid (rs = joF 3 (ys.map Fm.strip)) := Lib.hid (by rw [HRS2.out]; unfold atE; rw [if_neg h0, HRL.out, if_neg h1, if_neg h2, if_pos h3])
        have HJ := Lib.hid (fun fr al W st => joined_c (fr := fr) (al := al) (W := W) (a := oa) (n := r) (c := oc) (s := s) 3 ys (.inr rfl) HSY.out.1 HSY.out.2 st)
        subst h3
        (try simp only [nsl, Value.cells, unB] at st)
        (try clear hc); have hc := st.facts; (try simp only [nfl, nft, Nat.reduceAdd] at hc)
        go_wp2_with ((first
              | ((with_reducible refine wl_alloc ?_ (fun K hK => ?_)); rfl; refine owp_alloc (o := ⟨some 6, _, _, _, _, _⟩) rfl st ?_; apply Exists.intro; apply Exists.intro; refine ⟨?_, ?_⟩; (focus (first | (go_simp; done) | (go_simp; rfl))); (clear st; intro b6 w hb st; clear hb))
              | ((with_reducible refine wl_alloc ?_ (fun K hK => ?_)); rfl; refine owp_alloc (o := ⟨some 9, _, _, _, _, _⟩) rfl st ?_; apply Exists.intro; apply Exists.intro; refine ⟨?_, ?_⟩; (focus (first | (go_simp; done) | (go_simp; rfl))); (clear st; intro b9 w hb st; clear hb))
              | ((with_reducible refine wl_store ?_ (fun K hK => ?_)); rfl; refine owp_store rfl st ?_; apply Exists.intro; apply Exists.intro; refine ⟨?_, ?_, ?_⟩; (focus (go_simp; try rfl)); (focus (go_simp; try rfl)); (first | (with_reducible refine ⟨0, _, _, _, _, get0, rfl, rfl, ?_, ?_, ?_, ?_⟩) | (with_reducible refine ⟨1, _, _, _, _, get1, rfl, rfl, ?_, ?_, ?_, ?_⟩) | (with_reducible refine ⟨2, _, _, _, _, get2, rfl, rfl, ?_, ?_, ?_, ?_⟩) | (with_reducible refine ⟨3, _, _, _, _, get3, rfl, rfl, ?_, ?_, ?_, ?_⟩) | (with_reducible refine ⟨4, _, _, _, _, get4, rfl, rfl, ?_, ?_, ?_, ?_⟩) | (with_reducible refine ⟨5, _, _, _, _, get5, rfl, rfl, ?_, ?_, ?_, ?_⟩) | (with_reducible refine ⟨6, _, _, _, _, get6, rfl, rfl, ?_, ?_, ?_, ?_⟩) | (with_reducible refine ⟨7, _, _, _, _, get7, rfl, rfl, ?_, ?_, ?_, ?_⟩) | (with_reducible refine ⟨8, _, _, _, _, get8, rfl, rfl, ?_, ?_, ?_, ?_⟩)); (kernel_rfl); (simp [Value.cells]); (rfl); (clear st; intro w st))
              | ((with_reducible refine wl_buildSlice ?_ (fun K hK => ?_)); rfl; refine owp_buildSlice (o := ⟨some 27, _, _, _, _, _⟩) rfl st ?_; apply Exists.intro; apply Exists.intro; apply Exists.intro; apply Exists.intro; refine ⟨?_, ?_⟩; (focus (go_simp; (first | done | exact ⟨⟨rfl, rfl⟩, rfl⟩ | rfl))); (clear st; intro b27 w hb st; clear hb))); (try simp only [nsl, Value.cells, unB] at st); (try clear hc); have hc := st.facts; (try simp only [nfl, nft, Nat.reduceAdd] at hc))
        obtain ⟨fr', al', st', back⟩ := st.sub [0, 4, 5] (by decide) (by simp)
        (try simp only [nsl, Value.cells, unB] at st')
        refine (HJ.out _ _ _ st').mono ?_
        clear st'
        rintro en w ⟨g, rfl, hg, st'⟩
        replace st := back _ _ (by simp) st'
        clear back st'
        (try simp only [nsl, Value.cells, unB] at st)
        (try clear hc); have hc := st.facts; (try simp only [nfl, nft, Nat.reduceAdd] at hc)
        have HG : Hid (g.strip = rs) := Lib.hid (by rw [hg, HF.out])
        clear hg
        obtain ⟨op', k', ⟨o', d'⟩, a', n', c', kids'⟩ := g
        unfold fmV S
        simp only
        (try simp only [nsl, Value.cells, unB] at st)
        (try clear hc); have hc := st.facts; (try simp only [nfl, nft, Nat.reduceAdd] at hc)
        go_wp2_with ((first
              | ((with_reducible refine wl_alloc ?_ (fun K hK => ?_)); rfl; refine owp_alloc (o := ⟨some 6, _, _, _, _, _⟩) rfl st ?_; apply Exists.intro; apply Exists.intro; refine ⟨?_, ?_⟩; (focus (first | (go_simp; done) | (go_simp; rfl))); (clear st; intro b6 w hb st; clear hb))
              | ((with_reducible refine wl_alloc ?_ (fun K hK => ?_)); rfl; refine owp_alloc (o := ⟨some 9, _, _, _, _, _⟩) rfl st ?_; apply Exists.intro; apply Exists.intro; refine ⟨?_, ?_⟩; (focus (first | (go_simp; done) | (go_simp; rfl))); (clear st; intro b9 w hb st; clear hb))
              | ((with_reducible refine wl_store ?_ (fun K hK => ?_)); rfl; refine owp_store rfl st ?_; apply Exists.intro; apply Exists.intro; refine ⟨?_, ?_, ?_⟩; (focus (go_simp; try rfl)); (focus (go_simp; try rfl)); (first | (with_reducible refine ⟨0, _, _, _, _, get0, rfl, rfl, ?_, ?_, ?_, ?_⟩) | (with_reducible refine ⟨1, _, _, _, _, get1, rfl, rfl, ?_, ?_, ?_, ?_⟩) | (with_reducible refine ⟨2, _, _, _, _, get2, rfl, rfl, ?_, ?_, ?_, ?_⟩) | (with_reducible refine ⟨3, _, _, _, _, get3, rfl, rfl, ?_, ?_, ?_, ?_⟩) | (with_reducible refine ⟨4, _, _, _, _, get4, rfl, rfl, ?_, ?_, ?_, ?_⟩) | (with_reducible refine ⟨5, _, _, _, _, get5, rfl, rfl, ?_, ?_, ?_, ?_⟩) | (with_reducible refine ⟨6, _, _, _, _, get6, rfl, rfl, ?_, ?_, ?_, ?_⟩) | (with_reducible refine ⟨7, _, _, _, _, get7, rfl, rfl, ?_, ?_, ?_, ?_⟩) | (with_reducible refine ⟨8, _, _, _, _, get8, rfl, rfl, ?_, ?_, ?_, ?_⟩)); (kernel_rfl); (simp [Value.cells]); (rfl); (clear st; intro w st))
              | ((with_reducible refine wl_buildSlice ?_ (fun K hK => ?_)); rfl; refine owp_buildSlice (o := ⟨some 27, _, _, _, _, _⟩) rfl st ?_; apply Exists.intro; apply Exists.intro; apply Exists.intro; apply Exists.intro; refine ⟨?_, ?_⟩; (focus (go_simp; (first | done | exact ⟨⟨rfl, rfl⟩, rfl⟩ | rfl))); (clear st; intro b27 w hb st; clear hb))); (try simp only [nsl, Value.cells, unB] at st); (try clear hc); have hc := st.facts; (try simp only [nfl, nft, Nat.reduceAdd] at hc))
        (try simp only [Exit.inBlock, Exit.then])
        refine bodyPost_cell rfl rfl (st.blk (i := 3) get3) Try.underlying26 rfl (by kernel_rfl) rfl ?_
        have st2 := st.keep [0, 1, 2, 6] (by decide) (by simp)
        exact fmMade (.mk op' k' (o', d') a' n' c' kids') rfl HG.out (by simpa [pick] using st2)
      have h3b : (kk == 1) = false := by simpa using h3
      have HF : Hid (rs = .mk 4 kk ([], []) (sSort wrF (ys.map Fm.strip))) := Lib.hid (by rw [HRS2.out]; unfold atE; rw [if_neg h0, HRL.out, if_neg h1, if_neg h2, if_neg h3])
      have HOR := Lib.hid (fun fr al W (st : Own fr al W [flI oa r ys, fmsI ys] W) => fmOrder_c (fr := fr) (al := al) (W := W) (c := oc) ys st (by omega) (SmL.r HSY.out.1))
      (try simp only [nsl, Value.cells, unB] at st)
      (try clear hc); have hc := st.facts; (try simp only [nfl, nft, Nat.reduceAdd] at hc)
      go_wp2_with ((first
            | ((with_reducible refine wl_alloc ?_ (fun K hK => ?_)); rfl; refine owp_alloc (o := ⟨some 6, _, _, _, _, _⟩) rfl st ?_; apply Exists.intro; apply Exists.intro; refine ⟨?_, ?_⟩; (focus (first | (go_simp; done) | (go_simp; rfl))); (clear st; intro b6 w hb st; clear hb))
            | ((with_reducible refine wl_alloc ?_ (fun K hK => ?_)); rfl; refine owp_alloc (o := ⟨some 9, _, _, _, _, _⟩) rfl st ?_; apply Exists.intro; apply Exists.intro; refine ⟨?_, ?_⟩; (focus (first | (go_simp; done) | (go_simp; rfl))); (clear st; intro b9 w hb st; clear hb))
            | ((with_reducible refine wl_store ?_ (fun K hK => ?_)); rfl; refine owp_store rfl st ?_; apply Exists.intro; apply Exists.intro; refine ⟨?_, ?_, ?_⟩; (focus (go_simp; try rfl)); (focus (go_simp; try rfl)); (first | (with_reducible refine ⟨0, _, _, _, _, get0, rfl, rfl, ?_, ?_, ?_, ?_⟩) | (with_reducible refine ⟨1, _, _, _, _, get1, rfl, rfl, ?_, ?_, ?_, ?_⟩) | (with_reducible refine ⟨2, _, _, _, _, get2, rfl, rfl, ?_, ?_, ?_, ?_⟩) | (with_reducible refine ⟨3, _, _, _, _, get3, rfl, rfl, ?_, ?_, ?_, ?_⟩) | (with_reducible refine ⟨4, _, _, _, _, get4, rfl, rfl, ?_, ?_, ?_, ?_⟩) | (with_reducible refine ⟨5, _, _, _, _, get5, rfl, rfl, ?_, ?_, ?_, ?_⟩) | (with_reducible refine ⟨6, _, _, _, _, get6, rfl, rfl, ?_, ?_, ?_, ?_⟩) | (with_reducible refine ⟨7, _, _, _, _, get7, rfl, rfl, ?_, ?_, ?_, ?_⟩) | (with_reducible refine ⟨8, _, _, _, _, get8, rfl, rfl, ?_, ?_, ?_, ?_⟩)); (kernel_rfl); (simp [Value.cells]); (rfl); (clear st; intro w st))
            | ((with_reducible refine wl_buildSlice ?_ (fun K hK => ?_)); rfl; refine owp_buildSlice (o := ⟨some 27, _, _, _, _, _⟩) rfl st ?_; apply Exists.intro; apply Exists.intro; apply Exists.intro; apply Exists.intro; refine ⟨?_, ?_⟩; (focus (go_simp; (first | done | exact ⟨⟨rfl, rfl⟩, rfl⟩ | rfl))); (clear st; intro b27 w hb st; clear hb))); (try simp only [nsl, Value.cells, unB] at st); (try clear hc); have hc := st.facts; (try simp only [nfl, nft, Nat.reduceAdd] at hc))
      obtain ⟨fr', al', st', back⟩ := st.sub [4, 5] (by decide) (by simp)
      (try simp only [nsl, Value.cells, unB] at st')
      refine (HOR.out _ _ _ st').mono ?_
      clear st'
      rintro en w ⟨va2, vc2, zs, rfl, hz, st'⟩
      replace st := back _ _ (by simp) st'
      clear back st'
      (try simp only [nsl, Value.cells, unB] at st)
      (try clear hc); have hc := st.facts; (try simp only [nfl, nft, Nat.reduceAdd] at hc)
      have HZ : Hid ((Fm.mk 4 kk ([], []) va2 r vc2 zs).strip = rs) := Lib.hid (by rw [strip_mk, sorted_is hz, HF.out])
      clear hz
      obtain ⟨hcap, _⟩ := rowFl' (α := Fm) st (i := 6) get6
      have HCAP2 := Lib.hid hcap
      clear hcap
      replace st := st.rowToFl (α := Fm) (i := 6) get6
      simp only [List.set] at st
      replace st := st.mkFm (i := 6) (j := 7) get6 get7 4 kk ([], []) vc2 HCAP2.out
      simp only [List.cons_append, List.nil_append] at st
      (try simp only [nsl, Value.cells, unB] at st)
      (try clear hc); have hc := st.facts; (try simp only [nfl, nft, Nat.reduceAdd] at hc)
      go_wp2_with ((first
            | ((with_reducible refine wl_alloc ?_ (fun K hK => ?_)); rfl; refine owp_alloc (o := ⟨some 6, _, _, _, _, _⟩) rfl st ?_; apply Exists.intro; apply Exists.intro; refine ⟨?_, ?_⟩; (focus (first | (go_simp; done) | (go_simp; rfl))); (clear st; intro b6 w hb st; clear hb))
            | ((with_reducible refine wl_alloc ?_ (fun K hK => ?_)); rfl; refine owp_alloc (o := ⟨some 9, _, _, _, _, _⟩) rfl st ?_; apply Exists.intro; apply Exists.intro; refine ⟨?_, ?_⟩; (focus (first | (go_simp; done) | (go_simp; rfl))); (clear st; intro b9 w hb st; clear hb))
            | ((with_reducible refine wl_store ?_ (fun K hK => ?_)); rfl; refine owp_store rfl st ?_; apply Exists.intro; apply Exists.intro; refine ⟨?_, ?_, ?_⟩; (focus (go_simp; try rfl)); (focus (go_simp; try rfl)); (first | (with_reducible refine ⟨0, _, _, _, _, get0, rfl, rfl, ?_, ?_, ?_, ?_⟩) | (with_reducible refine ⟨1, _, _, _, _, get1, rfl, rfl, ?_, ?_, ?_, ?_⟩) | (with_reducible refine ⟨2, _, _, _, _, get2, rfl, rfl, ?_, ?_, ?_, ?_⟩) | (with_reducible refine ⟨3, _, _, _, _, get3, rfl, rfl, ?_, ?_, ?_, ?_⟩) | (with_reducible refine ⟨4, _, _, _, _, get4, rfl, rfl, ?_, ?_, ?_, ?_⟩) | (with_reducible refine ⟨5, _, _, _, _, get5, rfl, rfl, ?_, ?_, ?_, ?_⟩) | (with_reducible refine ⟨6, _, _, _, _, get6, rfl, rfl, ?_, ?_, ?_, ?_⟩) | (with_reducible refine ⟨7, _, _, _, _, get7, rfl, rfl, ?_, ?_, ?_, ?_⟩) | (with_reducible refine ⟨8, _, _, _, _, get8, rfl, rfl, ?_, ?_, ?_, ?_⟩)); (kernel_rfl); (simp [Value.cells]); (rfl); (clear st; intro w st))
            | ((with_reducible refine wl_buildSlice ?_ (fun K hK => ?_)); rfl; refine owp_buildSlice (o := ⟨some 27, _, _, _, _, _⟩) rfl st ?_; apply Exists.intro; apply Exists.intro; apply Exists.intro; apply Exists.intro; refine ⟨?_, ?_⟩; (focus (go_simp; (first | done | exact ⟨⟨rfl, rfl⟩, rfl⟩ | rfl))); (clear st; intro b27 w hb st; clear hb))); (try simp only [nsl, Value.cells, unB] at st); (try clear hc); have hc := st.facts; (try simp only [nfl, nft, Nat.reduceAdd] at hc))
      (try simp only [Exit.inBlock, Exit.then])
      refine bodyPost_cell rfl rfl (st.blk (i := 3) get3) Try.underlying26 rfl (by kernel_rfl) rfl ?_
      have st2 := st.keep [0, 1, 2, 8] (by decide) (by simp)
      exact fmMade (.mk 4 kk ([], []) va2 r vc2 zs) rfl HZ.out (by simpa [pick] using st2)
end Go.Proofs.Ythjaopojlhdjpaa

namespace Go.Proofs.Ythjaopojlhdjpaa
set_option linter.unusedSimpArgs false
set_option linter.unusedVariables false
open Go Go.RowKit
theorem fmV_cells (x : Fm) : Value.agg (Flt.cells x).toArray = fmV x := by cases x; rfl
end Go.Proofs.Ythjaopojlhdjpaa

namespace Go.Proofs.Ythjaopojlhdjpaa
set_option linter.unusedSimpArgs false
set_option linter.unusedVariables false
open Go Go.RowKit
theorem shL_nodes : ∀ l : List Fo, nodesL (shL l) ≤ nodesL l
  | [] => by simp [shL]
  | x :: l => by have := shL_nodes l; have := sh_nodes x; rw [shL, nodesL, nodesL]; omega
set_option maxRecDepth 100000 in
set_option maxHeartbeats 8000000 in
theorem shape_c (f : Fm) : ∀ (fr al : Nat → Prop) (W : World) (s : Nat), Own fr al W [blkI s [.int .i64 0], fmI f] W → f.strip.nodes ≤ 64 → f.strip.well = true → FoL 100000 f.strip →
    Calls Try.prog 50 #[.pointer (some ⟨s, 0, none⟩), fmV f] W fun e w' => FmMade fr al W [blkI s [.int .i64 0], fmI f] f.strip.sh e w' := by
  induction f using Fm.ind
  rename_i op k r a n c kids ih
  intro fr al W s st hn hw hl
  obtain ⟨o, d⟩ := r
  rw [strip_mk] at *
  have hok := st.fm (i := 1) get1
  have hnl := hok.fl.1
  have hcap := hok.cap
  obtain ⟨hw1, hw2, hw3⟩ := well_parts hw
  have hlk := hl.kids
  have hnk : nodesL (kids.map Fm.strip) ≤ 63 := by rw [Fo.nodes] at hn; omega
  unfold fmV S
  simp only
  by_cases o1 : op = 1
  · subst o1
    have HS : Hid ((Fm.mk 1 k (o, d) a n c kids).strip = (Fo.mk 1 k (o, d) (kids.map Fm.strip)).sh) := Lib.hid (by rw [strip_mk, Fo.sh, if_pos rfl])
    generalize (Fo.mk 1 k (o, d) (kids.map Fm.strip)).sh = rs at *
    clear hn hw hl ih hok hnl hcap hw1 hw2 hw3 hlk hnk
    (try simp only [nsl, Value.cells, unB] at st)
    (try clear hc); have hc := st.facts; (try simp only [nfl, nft, Nat.reduceAdd] at hc)
    go_enter Try.func50, Try.ntmps50
    go_wp2_with ((first
          | ((with_reducible refine wl_box ?_ (fun K hK => ?_)); rfl; refine owp_box (o := ⟨some 3, _, _, _, _, _⟩) rfl st ?_; apply Exists.intro; refine ⟨?_, ?_⟩; (focus (go_simp; try rfl)); (clear st; intro b3 w hb st; clear hb))
          | ((with_reducible refine wl_alloc ?_ (fun K hK => ?_)); rfl; refine owp_alloc (o := ⟨some 4, _, _, _, _, _⟩) rfl st ?_; apply Exists.intro; apply Exists.intro; refine ⟨?_, ?_⟩; (focus (first | (go_simp; done) | (go_simp; rfl))); (clear st; intro b4 w hb st; clear hb))
          | ((with_reducible refine wl_store ?_ (fun K hK => ?_)); rfl; refine owp_store rfl st ?_; apply Exists.intro; apply Exists.intro; refine ⟨?_, ?_, ?_⟩; (focus (go_simp; try rfl)); (focus (go_simp; try rfl)); (first | (with_reducible refine ⟨0, _, _, _, _, get0, rfl, rfl, ?_, ?_, ?_, ?_⟩) | (with_reducible refine ⟨1, _, _, _, _, get1, rfl, rfl, ?_, ?_, ?_, ?_⟩) | (with_reducible refine ⟨2, _, _, _, _, get2, rfl, rfl, ?_, ?_, ?_, ?_⟩) | (with_reducible refine ⟨3, _, _, _, _, get3, rfl, rfl, ?_, ?_, ?_, ?_⟩) | (with_reducible refine ⟨4, _, _, _, _, get4, rfl, rfl, ?_, ?_, ?_, ?_⟩) | (with_reducible refine ⟨5, _, _, _, _, get5, rfl, rfl, ?_, ?_, ?_, ?_⟩) | (with_reducible refine ⟨6, _, _, _, _, get6, rfl, rfl, ?_, ?_, ?_, ?_⟩) | (with_reducible refine ⟨7, _, _, _, _, get7, rfl, rfl, ?_, ?_, ?_, ?_⟩)); (kernel_rfl); (simp [Value.cells]); (rfl); (clear st; intro w st))
          | ((with_reducible refine wl_alloc ?_ (fun K hK => ?_)); rfl; refine owp_alloc (o := ⟨some 7, _, _, _, _, _⟩) rfl st ?_; apply Exists.intro; apply Exists.intro; refine ⟨?_, ?_⟩; (focus (first | (go_simp; done) | (go_simp; rfl))); (clear st; intro b7 w hb st; clear hb))
          | ((with_reducible refine wl_buildSlice ?_ (fun K hK => ?_)); rfl; refine owp_buildSlice (o := ⟨some 23, _, _, _, _, _⟩) rfl st ?_; apply Exists.intro; apply Exists.intro; apply Exists.intro; apply Exists.intro; refine ⟨?_, ?_⟩; (focus (go_simp; (first | done | exact ⟨⟨rfl, rfl⟩, rfl⟩ | rfl))); (clear st; intro b23 w hb st; clear hb))); (try simp only [nsl, Value.cells, unB] at st); (try clear hc); have hc := st.facts; (try simp only [nfl, nft, Nat.reduceAdd] at hc))
    (try simp only [Exit.inBlock, Exit.then])
    refine bodyPost_cell rfl rfl (st.blk (i := 3) get3) Try.underlying26 rfl (by kernel_rfl) rfl ?_
    have st2 := (st.dupFm (i := 1) get1).keep [0, 1, 4] (by decide) (by simp)
    exact fmMade (.mk 1 k (o, d) a n c kids) rfl HS.out (by simpa [pick] using st2)
  have o1b : (op == 1) = false := by simpa using o1
  have hop : op = 2 ∨ op = 3 ∨ op = 4 := by
    rcases node_op hw1 with q | q | q
    · exact (o1 q.1).elim
    · rcases q.1 with e | e <;> simp [e]
    · simp [q.1]
  have hk4 : op = 4 → 0 ≤ k ∧ k ≤ 1000 := fun h4 => by
    rcases node_op hw1 with q | q | q
    · exact (o1 q.1).elim
    · omega
    · rw [List.length_map] at q hw2; omega
  have HN := Lib.hid hnl
  have HI := Lib.hid (fun (x : Fm) (hx : x ∈ kids) fr al W s st => ih x hx fr al W s st (by have := nodesL_mem _ _ (List.mem_map_of_mem (f := Fm.strip) hx); omega) (hw3 _ (List.mem_map_of_mem (f := Fm.strip) hx)) (hlk _ (List.mem_map_of_mem (f := Fm.strip) hx)))
  have HSM : Hid (SmL (shL (kids.map Fm.strip)) ∧ nodesL (shL (kids.map Fm.strip)) ≤ 64) := Lib.hid (by
    have h1 := shL_nodes (kids.map Fm.strip)
    exact ⟨⟨by omega, fun x hx => by obtain ⟨y, hy, rfl⟩ := shL_mem hx; exact sh_L (hlk y hy)⟩, by omega⟩)
  have HS4 : Hid (op = 4 → (Fo.mk op k (o, d) (kids.map Fm.strip)).sh = atF k (shL (kids.map Fm.strip))) := Lib.hid (fun h => by rw [Fo.sh, if_neg o1, if_pos h])
  have HS2 : Hid (op ≠ 4 → (Fo.mk op k (o, d) (kids.map Fm.strip)).sh = joF op (shL (kids.map Fm.strip))) := Lib.hid (fun h => by rw [Fo.sh, if_neg o1, if_neg h])
  generalize (Fo.mk op k (o, d) (kids.map Fm.strip)).sh = rs at *
  have hn64 : n ≤ 64 := by have := nodesL_len (kids.map Fm.strip); rw [List.length_map] at this; omega
  have hc2 : c ≤ 9223372036854775807 := by have := hcap.2; simp only [maxLen] at this; omega
  clear hn hw hl ih hok hnl hw1 hw2 hw3 hlk hnk o1
  (try simp only [nsl, Value.cells, unB] at st)
  (try clear hc); have hc := st.facts; (try simp only [nfl, nft, Nat.reduceAdd] at hc)
  go_enter Try.func50, Try.ntmps50
  go_wp2_with ((first
        | ((with_reducible refine wl_box ?_ (fun K hK => ?_)); rfl; refine owp_box (o := ⟨some 3, _, _, _, _, _⟩) rfl st ?_; apply Exists.intro; refine ⟨?_, ?_⟩; (focus (go_simp; try rfl)); (clear st; intro b3 w hb st; clear hb))
        | ((with_reducible refine wl_alloc ?_ (fun K hK => ?_)); rfl; refine owp_alloc (o := ⟨some 4, _, _, _, _, _⟩) rfl st ?_; apply Exists.intro; apply Exists.intro; refine ⟨?_, ?_⟩; (focus (first | (go_simp; done) | (go_simp; rfl))); (clear st; intro b4 w hb st; clear hb))
        | ((with_reducible refine wl_store ?_ (fun K hK => ?_)); rfl; refine owp_store rfl st ?_; apply Exists.intro; apply Exists.intro; refine ⟨?_, ?_, ?_⟩; (focus (go_simp; try rfl)); (focus (go_simp; try rfl)); (first | (with_reducible refine ⟨0, _, _, _, _, get0, rfl, rfl, ?_, ?_, ?_, ?_⟩) | (with_reducible refine ⟨1, _, _, _, _, get1, rfl, rfl, ?_, ?_, ?_, ?_⟩) | (with_reducible refine ⟨2, _, _, _, _, get2, rfl, rfl, ?_, ?_, ?_, ?_⟩) | (with_reducible refine ⟨3, _, _, _, _, get3, rfl, rfl, ?_, ?_, ?_, ?_⟩) | (with_reducible refine ⟨4, _, _, _, _, get4, rfl, rfl, ?_, ?_, ?_, ?_⟩) | (with_reducible refine ⟨5, _, _, _, _, get5, rfl, rfl, ?_, ?_, ?_, ?_⟩) | (with_reducible refine ⟨6, _, _, _, _, get6, rfl, rfl, ?_, ?_, ?_, ?_⟩) | (with_reducible refine ⟨7, _, _, _, _, get7, rfl, rfl, ?_, ?_, ?_, ?_⟩)); (kernel_rfl); (simp [Value.cells]); (rfl); (clear st; intro w st))
        | ((with_reducible refine wl_alloc ?_ (fun K hK => ?_)); rfl; refine owp_alloc (o := ⟨some 7, _, _, _, _, _⟩) rfl st ?_; apply Exists.intro; apply Exists.intro; refine ⟨?_, ?_⟩; (focus (first | (go_simp; done) | (go_simp; rfl))); (clear st; intro b7 w hb st; clear hb))
        | ((with_reducible refine wl_buildSlice ?_ (fun K hK => ?_)); rfl; refine owp_buildSlice (o := ⟨some 23, _, _, _, _, _⟩) rfl st ?_; apply Exists.intro; apply Exists.intro; apply Exists.intro; apply Exists.intro; refine ⟨?_, ?_⟩; (focus (go_simp; (first | done | exact ⟨⟨rfl, rfl⟩, rfl⟩ | rfl))); (clear st; intro b23 w hb st; clear hb))); (try simp only [nsl, Value.cells, unB] at st); (try clear hc); have hc := st.facts; (try simp only [nfl, nft, Nat.reduceAdd] at hc))
  replace st := st.row_nil 26 5
  simp only [List.cons_append, List.nil_append] at st
  replace st := st.noFms
  simp only [List.cons_append, List.nil_append] at st
  go_loopg [5, 15] n (fun q ov i wr => ∃ (j : Nat) (gs : List Fm), j ≤ n ∧ q = n - j ∧ i = .int .i64 (j : Int) ∧ Hid (gs.map Fm.strip = shL ((kids.take j).map Fm.strip)) ∧ Own fr al W [blkI s [.int .i64 0], fmI (.mk op k (o, d) a n c kids), blkI b3 [.int .i64 op, .int .i64 k, .string ⟨o.toArray⟩, .string ⟨d.toArray⟩, .slice a n c], blkI b4 [.int .i64 0, .int .i64 0, .string ⟨#[]⟩, .string ⟨#[]⟩, .slice none 0 0], rowI 26 5 ov j (cellsL gs), fmsI gs] wr)
  case atStart => exact ⟨0, [], by omega, by omega, rfl, Lib.hid (by simp [shL]), by simpa [cellsL] using st⟩
  case round =>
    obtain ⟨j, gs, hj, rfl, rfl, HG, st'⟩ := hrel
    clear st hc
    have st := st'
    clear st'
    obtain ⟨oa, oc, rfl⟩ := own_slice (st.row (i := 4) get4)
    by_cases hjn : j < n
    · obtain ⟨b, off, ha, hcell⟩ := ((st.fm (i := 1) get1).fl).fm (by omega)
      have hjl : j < kids.length := by have := HN.out; omega
      have hsn := map_snoc_strip kids j hjl
      have hgt := List.getElem?_eq_getElem hjl
      have hmem := List.getElem_mem hjl
      generalize kids[j] = x at *
      have HX := Lib.hid (fun fr al W s st => HI.out x hmem fr al W s st)
      replace st := st.fmKid (i := 1) get1 hmem
      simp only [List.cons_append, List.nil_append] at st
      have HSN := Lib.hid hsn
      obtain ⟨op', k', ⟨o', d'⟩, a', n', c', kids'⟩ := x
      obtain ⟨r0, r1, r2, r3, r4⟩ := hcell j op' k' (o', d') a' n' c' kids' hgt
      unfold S at r2 r3
      simp only at r2 r3
      unfold fmV S at HX
      simp only at HX
      clear hcell hgt hjl hsn hmem
      subst ha
      (try simp only [nsl, Value.cells, unB] at st)
      (try clear hc); have hc := st.facts; (try simp only [nfl, nft, Nat.reduceAdd] at hc)
      go_wp2_with ((first
            | ((with_reducible refine wl_box ?_ (fun K hK => ?_)); rfl; refine owp_box (o := ⟨some 3, _, _, _, _, _⟩) rfl st ?_; apply Exists.intro; refine ⟨?_, ?_⟩; (focus (go_simp; try rfl)); (clear st; intro b3 w hb st; clear hb))
            | ((with_reducible refine wl_alloc ?_ (fun K hK => ?_)); rfl; refine owp_alloc (o := ⟨some 4, _, _, _, _, _⟩) rfl st ?_; apply Exists.intro; apply Exists.intro; refine ⟨?_, ?_⟩; (focus (first | (go_simp; done) | (go_simp; rfl))); (clear st; intro b4 w hb st; clear hb))
            | ((with_reducible refine wl_store ?_ (fun K hK => ?_)); rfl; refine owp_store rfl st ?_; apply Exists.intro; apply Exists.intro; refine ⟨?_, ?_, ?_⟩; (focus (go_simp; try rfl)); (focus (go_simp; try rfl)); (first | (with_reducible refine ⟨0, _, _, _, _, get0, rfl, rfl, ?_, ?_, ?_, ?_⟩) | (with_reducible refine ⟨1, _, _, _, _, get1, rfl, rfl, ?_, ?_, ?_, ?_⟩) | (with_reducible refine ⟨2, _, _, _, _, get2, rfl, rfl, ?_, ?_, ?_, ?_⟩) | (with_reducible refine ⟨3, _, _, _, _, get3, rfl, rfl, ?_, ?_, ?_, ?_⟩) | (with_reducible refine ⟨4, _, _, _, _, get4, rfl, rfl, ?_, ?_, ?_, ?_⟩) | (with_reducible refine ⟨5, _, _, _, _, get5, rfl, rfl, ?_, ?_, ?_, ?_⟩) | (with_reducible refine ⟨6, _, _, _, _, get6, rfl, rfl, ?_, ?_, ?_, ?_⟩) | (with_reducible refine ⟨7, _, _, _, _, get7, rfl, rfl, ?_, ?_, ?_, ?_⟩)); (kernel_rfl); (simp [Value.cells]); (rfl); (clear st; intro w st))
            | ((with_reducible refine wl_alloc ?_ (fun K hK => ?_)); rfl; refine owp_alloc (o := ⟨some 7, _, _, _, _, _⟩) rfl st ?_; apply Exists.intro; apply Exists.intro; refine ⟨?_, ?_⟩; (focus (first | (go_simp; done) | (go_simp; rfl))); (clear st; intro b7 w hb st; clear hb))
            | ((with_reducible refine wl_buildSlice ?_ (fun K hK => ?_)); rfl; refine owp_buildSlice (o := ⟨some 23, _, _, _, _, _⟩) rfl st ?_; apply Exists.intro; apply Exists.intro; apply Exists.intro; apply Exists.intro; refine ⟨?_, ?_⟩; (focus (go_simp; (first | done | exact ⟨⟨rfl, rfl⟩, rfl⟩ | rfl))); (clear st; intro b23 w hb st; clear hb))); (try simp only [nsl, Value.cells, unB] at st); (try clear hc); have hc := st.facts; (try simp only [nfl, nft, Nat.reduceAdd] at hc))
      obtain ⟨fr', al', st', back⟩ := st.sub [0, 6] (by decide) (by simp)
      (try simp only [nsl, Value.cells, unB] at st')
      refine (HX.out _ _ _ _ st').mono ?_
      clear st'
      rintro en w ⟨g, rfl, hg, st'⟩
      replace st := back _ _ (by simp) st'
      clear back st'
      (try simp only [nsl, Value.cells, unB] at st)
      (try clear hc); have hc := st.facts; (try simp only [nfl, nft, Nat.reduceAdd] at hc)
      clear r0 r1 r2 r3 r4
      have HG2 : Hid ((gs ++ [g]).map Fm.strip = shL ((kids.take (j + 1)).map Fm.strip)) := Lib.hid (by
        rw [HSN.out, List.map_append, HG.out, shL_eq, shL_eq, List.map_append, List.map_cons, List.map_nil, hg]; rfl)
      clear hg
      replace st := st.fmsMore (i := 5) (j := 8) get5 get8
      simp only [List.cons_append, List.nil_append] at st
      obtain ⟨op', k', ⟨o', d'⟩, a', n', c', kids'⟩ := g
      unfold fmV S
      simp only
      (try simp only [nsl, Value.cells, unB] at st)
      (try clear hc); have hc := st.facts; (try simp only [nfl, nft, Nat.reduceAdd] at hc)
      go_wp2_with (first
          | ((with_reducible refine wl_append ?_ (fun K hK => ?_)); (rfl); (obtain ⟨inf, hinf, hz0, hz1, hz2⟩ := fmInfo); (refine owp_append rfl st 4 get4 Try.underlying24 hinf hz0 hz1 hz2 rfl (by decide) rfl rfl ((st.blk (i := 10) get10).flat rfl) (by first | exact cellsL_all _ | simp [Value.oneCell']) (by simp only [maxLen]; omega) (by omega) ?_); (clear hinf hz0 hz1 hz2 inf); (clear st; intro v' w st); (obtain ⟨va', vc', rfl⟩ := own_slice (st.row (i := 4) get4)); (try simp only [nsl, Value.cells, unB] at st); (try simp only [Nat.zero_add] at st); (try clear hc); have hc := st.facts; (try simp only [nfl, nft, Nat.reduceAdd] at hc))
          | ((with_reducible refine wl_buildSlice ?_ (fun K hK => ?_)); (rfl); (refine owp_buildRow (o := ⟨some 9999, _, _, _, _, _⟩) rfl st 26 5 ?_; refine ⟨0, #[], ?_, by simp, by simp [maxLen], ?_⟩; (focus (go_simp; (first | done | rfl))); (clear st; intro b9999 w hb st; clear hb)); (try simp only [nsl, Value.cells, unB] at st); (try clear hc); have hc := st.facts; (try simp only [nfl, nft, Nat.reduceAdd] at hc))
          | ((first
            | ((with_reducible refine wl_box ?_ (fun K hK => ?_)); rfl; refine owp_box (o := ⟨some 3, _, _, _, _, _⟩) rfl st ?_; apply Exists.intro; refine ⟨?_, ?_⟩; (focus (go_simp; try rfl)); (clear st; intro b3 w hb st; clear hb))
            | ((with_reducible refine wl_alloc ?_ (fun K hK => ?_)); rfl; refine owp_alloc (o := ⟨some 4, _, _, _, _, _⟩) rfl st ?_; apply Exists.intro; apply Exists.intro; refine ⟨?_, ?_⟩; (focus (first | (go_simp; done) | (go_simp; rfl))); (clear st; intro b4 w hb st; clear hb))
            | ((with_reducible refine wl_store ?_ (fun K hK => ?_)); rfl; refine owp_store rfl st ?_; apply Exists.intro; apply Exists.intro; refine ⟨?_, ?_, ?_⟩; (focus (go_simp; try rfl)); (focus (go_simp; try rfl)); (first | (with_reducible refine ⟨0, _, _, _, _, get0, rfl, rfl, ?_, ?_, ?_, ?_⟩) | (with_reducible refine ⟨1, _, _, _, _, get1, rfl, rfl, ?_, ?_, ?_, ?_⟩) | (with_reducible refine ⟨2, _, _, _, _, get2, rfl, rfl, ?_, ?_, ?_, ?_⟩) | (with_reducible refine ⟨3, _, _, _, _, get3, rfl, rfl, ?_, ?_, ?_, ?_⟩) | (with_reducible refine ⟨4, _, _, _, _, get4, rfl, rfl, ?_, ?_, ?_, ?_⟩) | (with_reducible refine ⟨5, _, _, _, _, get5, rfl, rfl, ?_, ?_, ?_, ?_⟩) | (with_reducible refine ⟨6, _, _, _, _, get6, rfl, rfl, ?_, ?_, ?_, ?_⟩) | (with_reducible refine ⟨7, _, _, _, _, get7, rfl, rfl, ?_, ?_, ?_, ?_⟩)); (kernel_rfl); (simp [Value.cells]); (rfl); (clear st; intro w st))
            | ((with_reducible refine wl_alloc ?_ (fun K hK => ?_)); rfl; refine owp_alloc (o := ⟨some 7, _, _, _, _, _⟩) rfl st ?_; apply Exists.intro; apply Exists.intro; refine ⟨?_, ?_⟩; (focus (first | (go_simp; done) | (go_simp; rfl))); (clear st; intro b7 w hb st; clear hb))
            | ((with_reducible refine wl_buildSlice ?_ (fun K hK => ?_)); rfl; refine owp_buildSlice (o := ⟨some 23, _, _, _, _, _⟩) rfl st ?_; apply Exists.intro; apply Exists.intro; apply Exists.intro; apply Exists.intro; refine ⟨?_, ?_⟩; (focus (go_simp; (first | done | exact ⟨⟨rfl, rfl⟩, rfl⟩ | rfl))); (clear st; intro b23 w hb st; clear hb))); (try simp only [nsl, Value.cells, unB] at st); (try clear hc); have hc := st.facts; (try simp only [nfl, nft, Nat.reduceAdd] at hc)))
      have st' := st.keep [0, 1, 2, 3, 4, 9] (by decide) (by simp)
      go_roundg (n - (j + 1))
      case measure => omega
      case rel => exact ⟨j + 1, gs ++ [Fm.mk op' k' (o', d') a' n' c' kids'], by omega, by omega, by go_num, HG2, by rw [cellsL_append, show cellsL [Fm.mk op' k' (o', d') a' n' c' kids'] = [.int .i64 op', .int .i64 k', .string ⟨o'.toArray⟩, .string ⟨d'.toArray⟩, .slice a' n' c'] from rfl]; simpa [pick] using st'⟩
    · obtain rfl : j = n := by omega
      have hgo := HG.out
      rw [List.take_of_length_le (by have := HN.out; omega)] at hgo
      have HGO := Lib.hid hgo
      have HSM2 : Hid (SmL (gs.map Fm.strip) ∧ nodesL (gs.map Fm.strip) ≤ 64) := Lib.hid (by rw [hgo]; exact HSM.out)
      clear hgo HG HSM
      replace st := st.rowToFl (α := Fm) (i := 4) get4
      simp only [List.set] at st
      by_cases o4 : op = 4
      · have hk2 := hk4 o4
        have HF : Hid (rs = atF k (gs.map Fm.strip)) := Lib.hid (by rw [HS4.out o4, HGO.out])
        have HJ := Lib.hid (fun fr al W st => atLeast_c (fr := fr) (al := al) (W := W) (a := oa) (n := j) (c := oc) (s := s) k gs hk2 HSM2.out.1 HSM2.out.2 st)
        subst o4
        (try simp only [nsl, Value.cells, unB] at st)
        (try clear hc); have hc := st.facts; (try simp only [nfl, nft, Nat.reduceAdd] at hc)
        go_wp2_with ((first
              | ((with_reducible refine wl_box ?_ (fun K hK => ?_)); rfl; refine owp_box (o := ⟨some 3, _, _, _, _, _⟩) rfl st ?_; apply Exists.intro; refine ⟨?_, ?_⟩; (focus (go_simp; try rfl)); (clear st; intro b3 w hb st; clear hb))
              | ((with_reducible refine wl_alloc ?_ (fun K hK => ?_)); rfl; refine owp_alloc (o := ⟨some 4, _, _, _, _, _⟩) rfl st ?_; apply Exists.intro; apply Exists.intro; refine ⟨?_, ?_⟩; (focus (first | (go_simp; done) | (go_simp; rfl))); (clear st; intro b4 w hb st; clear hb))
              | ((with_reducible refine wl_store ?_ (fun K hK => ?_)); rfl; refine owp_store rfl st ?_; apply Exists.intro; apply Exists.intro; refine ⟨?_, ?_, ?_⟩; (focus (go_simp; try rfl)); (focus (go_simp; try rfl)); (first | (with_reducible refine ⟨0, _, _, _, _, get0, rfl, rfl, ?_, ?_, ?_, ?_⟩) | (with_reducible refine ⟨1, _, _, _, _, get1, rfl, rfl, ?_, ?_, ?_, ?_⟩) | (with_reducible refine ⟨2, _, _, _, _, get2, rfl, rfl, ?_, ?_, ?_, ?_⟩) | (with_reducible refine ⟨3, _, _, _, _, get3, rfl, rfl, ?_, ?_, ?_, ?_⟩) | (with_reducible refine ⟨4, _, _, _, _, get4, rfl, rfl, ?_, ?_, ?_, ?_⟩) | (with_reducible refine ⟨5, _, _, _, _, get5, rfl, rfl, ?_, ?_, ?_, ?_⟩) | (with_reducible refine ⟨6, _, _, _, _, get6, rfl, rfl, ?_, ?_, ?_, ?_⟩) | (with_reducible refine ⟨7, _, _, _, _, get7, rfl, rfl, ?_, ?_, ?_, ?_⟩)); (kernel_rfl); (simp [Value.cells]); (rfl); (clear st; intro w st))
              | ((with_reducible refine wl_alloc ?_ (fun K hK => ?_)); rfl; refine owp_alloc (o := ⟨some 7, _, _, _, _, _⟩) rfl st ?_; apply Exists.intro; apply Exists.intro; refine ⟨?_, ?_⟩; (focus (first | (go_simp; done) | (go_simp; rfl))); (clear st; intro b7 w hb st; clear hb))
              | ((with_reducible refine wl_buildSlice ?_ (fun K hK => ?_)); rfl; refine owp_buildSlice (o := ⟨some 23, _, _, _, _, _⟩) rfl st ?_; apply Exists.intro; apply Exists.intro; apply Exists.intro; apply Exists.intro; refine ⟨?_, ?_⟩; (focus (go_simp; (first | done | exact ⟨⟨rfl, rfl⟩, rfl⟩ | rfl))); (clear st; intro b23 w hb st; clear hb))); (try simp only [nsl, Value.cells, unB] at st); (try clear hc); have hc := st.facts; (try simp only [nfl, nft, Nat.reduceAdd] at hc))
        obtain ⟨fr', al', st', back⟩ := st.sub [0, 4, 5] (by decide) (by simp)
        (try simp only [nsl, Value.cells, unB] at st')
        refine (HJ.out _ _ _ st').mono ?_
        clear st'
        rintro en w ⟨g, rfl, hg, st'⟩
        replace st := back _ _ (by simp) st'
        clear back st'
        (try simp only [nsl, Value.cells, unB] at st)
        (try clear hc); have hc := st.facts; (try simp only [nfl, nft, Nat.reduceAdd] at hc)
        have HG : Hid (g.strip = rs) := Lib.hid (by rw [hg, HF.out])
        clear hg
        obtain ⟨op', k', ⟨o', d'⟩, a', n', c', kids'⟩ := g
        unfold fmV S
        simp only
        (try simp only [nsl, Value.cells, unB] at st)
        (try clear hc); have hc := st.facts; (try simp only [nfl, nft, Nat.reduceAdd] at hc)
        go_wp2_with ((first
              | ((with_reducible refine wl_box ?_ (fun K hK => ?_)); rfl; refine owp_box (o := ⟨some 3, _, _, _, _, _⟩) rfl st ?_; apply Exists.intro; refine ⟨?_, ?_⟩; (focus (go_simp; try rfl)); (clear st; intro b3 w hb st; clear hb))
              | ((with_reducible refine wl_alloc ?_ (fun K hK => ?_)); rfl; refine owp_alloc (o := ⟨some 4, _, _, _, _, _⟩) rfl st ?_; apply Exists.intro; apply Exists.intro; refine ⟨?_, ?_⟩; (focus (first | (go_simp; done) | (go_simp; rfl))); (clear st; intro b4 w hb st; clear hb))
              | ((with_reducible refine wl_store ?_ (fun K hK => ?_)); rfl; refine owp_store rfl st ?_; apply Exists.intro; apply Exists.intro; refine ⟨?_, ?_, ?_⟩; (focus (go_simp; try rfl)); (focus (go_simp; try rfl)); (first | (with_reducible refine ⟨0, _, _, _, _, get0, rfl, rfl, ?_, ?_, ?_, ?_⟩) | (with_reducible refine ⟨1, _, _, _, _, get1, rfl, rfl, ?_, ?_, ?_, ?_⟩) | (with_reducible refine ⟨2, _, _, _, _, get2, rfl, rfl, ?_, ?_, ?_, ?_⟩) | (with_reducible refine ⟨3, _, _, _, _, get3, rfl, rfl, ?_, ?_, ?_, ?_⟩) | (with_reducible refine ⟨4, _, _, _, _, get4, rfl, rfl, ?_, ?_, ?_, ?_⟩) | (with_reducible refine ⟨5, _, _, _, _, get5, rfl, rfl, ?_, ?_, ?_, ?_⟩) | (with_reducible refine ⟨6, _, _, _, _, get6, rfl, rfl, ?_, ?_, ?_, ?_⟩) | (with_reducible refine ⟨7, _, _, _, _, get7, rfl, rfl, ?_, ?_, ?_, ?_⟩)); (kernel_rfl); (simp [Value.cells]); (rfl); (clear st; intro w st))
              | ((with_reducible refine wl_alloc ?_ (fun K hK => ?_)); rfl; refine owp_alloc (o := ⟨some 7, _, _, _, _, _⟩) rfl st ?_; apply Exists.intro; apply Exists.intro; refine ⟨?_, ?_⟩; (focus (first | (go_simp; done) | (go_simp; rfl))); (clear st; intro b7 w hb st; clear hb))
              | ((with_reducible refine wl_buildSlice ?_ (fun K hK => ?_)); rfl; refine owp_buildSlice (o := ⟨some 23, _, _, _, _, _⟩) rfl st ?_; apply Exists.intro; apply Exists.intro; apply Exists.intro; apply Exists.intro; refine ⟨?_, ?_⟩; (focus (go_simp; (first | done | exact ⟨⟨rfl, rfl⟩, rfl⟩ | rfl))); (clear st; intro b23 w hb st; clear hb))); (try simp only [nsl, Value.cells, unB] at st); (try clear hc); have hc := st.facts; (try simp only [nfl, nft, Nat.reduceAdd] at hc))
        (try simp only [Exit.inBlock, Exit.then])
        refine bodyPost_cell rfl rfl (st.blk (i := 3) get3) Try.underlying26 rfl (by kernel_rfl) rfl ?_
        have st2 := st.keep [0, 1, 6] (by decide) (by simp)
        exact fmMade (.mk op' k' (o', d') a' n' c' kids') rfl HG.out (by simpa [pick] using st2)
      · have o4b : (op == 4) = false := by simpa using o4
        have ho : op = 2 ∨ op = 3 := by omega
        have HF : Hid (rs = joF op (gs.map Fm.strip)) := Lib.hid (by rw [HS2.out o4, HGO.out])
        have HJ := Lib.hid (fun fr al W st => joined_c (fr := fr) (al := al) (W := W) (a := oa) (n := j) (c := oc) (s := s) op gs ho HSM2.out.1 HSM2.out.2 st)
        (try simp only [nsl, Value.cells, unB] at st)
        (try clear hc); have hc := st.facts; (try simp only [nfl, nft, Nat.reduceAdd] at hc)
        go_wp2_with ((first
              | ((with_reducible refine wl_box ?_ (fun K hK => ?_)); rfl; refine owp_box (o := ⟨some 3, _, _, _, _, _⟩) rfl st ?_; apply Exists.intro; refine ⟨?_, ?_⟩; (focus (go_simp; try rfl)); (clear st; intro b3 w hb st; clear hb))
              | ((with_reducible refine wl_alloc ?_ (fun K hK => ?_)); rfl; refine owp_alloc (o := ⟨some 4, _, _, _, _, _⟩) rfl st ?_; apply Exists.intro; apply Exists.intro; refine ⟨?_, ?_⟩; (focus (first | (go_simp; done) | (go_simp; rfl))); (clear st; intro b4 w hb st; clear hb))
              | ((with_reducible refine wl_store ?_ (fun K hK => ?_)); rfl; refine owp_store rfl st ?_; apply Exists.intro; apply Exists.intro; refine ⟨?_, ?_, ?_⟩; (focus (go_simp; try rfl)); (focus (go_simp; try rfl)); (first | (with_reducible refine ⟨0, _, _, _, _, get0, rfl, rfl, ?_, ?_, ?_, ?_⟩) | (with_reducible refine ⟨1, _, _, _, _, get1, rfl, rfl, ?_, ?_, ?_, ?_⟩) | (with_reducible refine ⟨2, _, _, _, _, get2, rfl, rfl, ?_, ?_, ?_, ?_⟩) | (with_reducible refine ⟨3, _, _, _, _, get3, rfl, rfl, ?_, ?_, ?_, ?_⟩) | (with_reducible refine ⟨4, _, _, _, _, get4, rfl, rfl, ?_, ?_, ?_, ?_⟩) | (with_reducible refine ⟨5, _, _, _, _, get5, rfl, rfl, ?_, ?_, ?_, ?_⟩) | (with_reducible refine ⟨6, _, _, _, _, get6, rfl, rfl, ?_, ?_, ?_, ?_⟩) | (with_reducible refine ⟨7, _, _, _, _, get7, rfl, rfl, ?_, ?_, ?_, ?_⟩)); (kernel_rfl); (simp [Value.cells]); (rfl); (clear st; intro w st))
              | ((with_reducible refine wl_alloc ?_ (fun K hK => ?_)); rfl; refine owp_alloc (o := ⟨some 7, _, _, _, _, _⟩) rfl st ?_; apply Exists.intro; apply Exists.intro; refine ⟨?_, ?_⟩; (focus (first | (go_simp; done) | (go_simp; rfl))); (clear st; intro b7 w hb st; clear hb))
              | ((with_reducible refine wl_buildSlice ?_ (fun K hK => ?_)); rfl; refine owp_buildSlice (o := ⟨some 23, _, _, _, _, _⟩) rfl st ?_; apply Exists.intro; apply Exists.intro; apply Exists.intro; apply Exists.intro; refine ⟨?_, ?_⟩; (focus (go_simp; (first | done | exact ⟨⟨rfl, rfl⟩, rfl⟩ | rfl))); (clear st; intro b23 w hb st; clear hb))); (try simp only [nsl, Value.cells, unB] at st); (try clear hc); have hc := st.facts; (try simp only [nfl, nft, Nat.reduceAdd] at hc))
        obtain ⟨fr', al', st', back⟩ := st.sub [0, 4, 5] (by decide) (by simp)
        (try simp only [nsl, Value.cells, unB] at st')
        refine (HJ.out _ _ _ st').mono ?_
        clear st'
        rintro en w ⟨g, rfl, hg, st'⟩
        replace st := back _ _ (by simp) st'
        clear back st'
        (try simp only [nsl, Value.cells, unB] at st)
        (try clear hc); have hc := st.facts; (try simp only [nfl, nft, Nat.reduceAdd] at hc)
        have HG : Hid (g.strip = rs) := Lib.hid (by rw [hg, HF.out])
        clear hg
        obtain ⟨op', k', ⟨o', d'⟩, a', n', c', kids'⟩ := g
        unfold fmV S
        simp only
        (try simp only [nsl, Value.cells, unB] at st)
        (try clear hc); have hc := st.facts; (try simp only [nfl, nft, Nat.reduceAdd] at hc)
        go_wp2_with ((first
              | ((with_reducible refine wl_box ?_ (fun K hK => ?_)); rfl; refine owp_box (o := ⟨some 3, _, _, _, _, _⟩) rfl st ?_; apply Exists.intro; refine ⟨?_, ?_⟩; (focus (go_simp; try rfl)); (clear st; intro b3 w hb st; clear hb))
              | ((with_reducible refine wl_alloc ?_ (fun K hK => ?_)); rfl; refine owp_alloc (o := ⟨some 4, _, _, _, _, _⟩) rfl st ?_; apply Exists.intro; apply Exists.intro; refine ⟨?_, ?_⟩; (focus (first | (go_simp; done) | (go_simp; rfl))); (clear st; intro b4 w hb st; clear hb))
              | ((with_reducible refine wl_store ?_ (fun K hK => ?_)); rfl; refine owp_store rfl st ?_; apply Exists.intro; apply Exists.intro; refine ⟨?_, ?_, ?_⟩; (focus (go_simp; try rfl)); (focus (go_simp; try rfl)); (first | (with_reducible refine ⟨0, _, _, _, _, get0, rfl, rfl, ?_, ?_, ?_, ?_⟩) | (with_reducible refine ⟨1, _, _, _, _, get1, rfl, rfl, ?_, ?_, ?_, ?_⟩) | (with_reducible refine ⟨2, _, _, _, _, get2, rfl, rfl, ?_, ?_, ?_, ?_⟩) | (with_reducible refine ⟨3, _, _, _, _, get3, rfl, rfl, ?_, ?_, ?_, ?_⟩) | (with_reducible refine ⟨4, _, _, _, _, get4, rfl, rfl, ?_, ?_, ?_, ?_⟩) | (with_reducible refine ⟨5, _, _, _, _, get5, rfl, rfl, ?_, ?_, ?_, ?_⟩) | (with_reducible refine ⟨6, _, _, _, _, get6, rfl, rfl, ?_, ?_, ?_, ?_⟩) | (with_reducible refine ⟨7, _, _, _, _, get7, rfl, rfl, ?_, ?_, ?_, ?_⟩)); (kernel_rfl); (simp [Value.cells]); (rfl); (clear st; intro w st))
              | ((with_reducible refine wl_alloc ?_ (fun K hK => ?_)); rfl; refine owp_alloc (o := ⟨some 7, _, _, _, _, _⟩) rfl st ?_; apply Exists.intro; apply Exists.intro; refine ⟨?_, ?_⟩; (focus (first | (go_simp; done) | (go_simp; rfl))); (clear st; intro b7 w hb st; clear hb))
              | ((with_reducible refine wl_buildSlice ?_ (fun K hK => ?_)); rfl; refine owp_buildSlice (o := ⟨some 23, _, _, _, _, _⟩) rfl st ?_; apply Exists.intro; apply Exists.intro; apply Exists.intro; apply Exists.intro; refine ⟨?_, ?_⟩; (focus (go_simp; (first | done | exact ⟨⟨rfl, rfl⟩, rfl⟩ | rfl))); (clear st; intro b23 w hb st; clear hb))); (try simp only [nsl, Value.cells, unB] at st); (try clear hc); have hc := st.facts; (try simp only [nfl, nft, Nat.reduceAdd] at hc))
        (try simp only [Exit.inBlock, Exit.then])
        refine bodyPost_cell rfl rfl (st.blk (i := 3) get3) Try.underlying26 rfl (by kernel_rfl) rfl ?_
        have st2 := st.keep [0, 1, 6] (by decide) (by simp)
        exact fmMade (.mk op' k' (o', d') a' n' c' kids') rfl HG.out (by simpa [pick] using st2)
/-- A formula, made of what the items hold, and a number. -/
def FmTold (fr al : Nat → Prop) (W : World) (L : List It) (f : Fo) (er : Int) (e : Ending) (w' : World) : Prop := ∃ g, e = .returned (.tuple #[fmV g, .int .i64 er]) ∧ g.strip = f ∧ Own fr al W (L ++ [fmI g]) w'
theorem fmTold {fr al : Nat → Prop} {W w : World} {L : List It} {f : Fo} {er er' : Int} (g : Fm) {v : Value} (hv : v = .tuple #[fmV g, .int .i64 er']) (he : er' = er) (hg : g.strip = f) (st : Own fr al W (L ++ [fmI g]) w) : FmTold fr al W L f er (.returned v) w := ⟨g, by rw [hv, he], hg, st⟩
set_option maxRecDepth 100000 in
set_option maxHeartbeats 4000000 in
theorem normOf_c (f : Fm) {fr al : Nat → Prop} {W : World} (st : Own fr al W [fmI f] W) (hs : f.strip.nodes ≤ 1000000) (hl : FoL 100000 f.strip) :
    Calls Try.prog 12 #[fmV f] W fun e w' => FmTold fr al W [fmI f] (ofF f.strip) (ofE f.strip) e w' := by
  have HR := Lib.hid (fun W' (h : FmOk W' f) => fmRight_any f W' h (by omega) hl)
  have HSH := Lib.hid (fun (hr : foR f.strip = true) fr al W s st => shape_c f fr al W s st (foR_parts hr).1 (foR_parts hr).2.2 hl)
  have HR2 := Lib.hid (fun (g : Fm) (hg : g.strip = f.strip.sh) W' (h : FmOk W' g) => hg ▸ fmRight_any g W' h (by rw [hg]; have := sh_nodes f.strip; omega) (by rw [hg]; exact sh_L hl))
  have HE1 : Hid (foR f.strip = false → ofE f.strip = 11 ∧ ofF f.strip = .mk 0 0 ([], []) []) := Lib.hid (fun h => by
    have e : ofE f.strip = 11 := by unfold ofE; rw [h]; rfl
    exact ⟨e, by unfold ofF; rw [e]; rfl⟩)
  have HE2 : Hid (foR f.strip = true → foR f.strip.sh = false → ofE f.strip = 12 ∧ ofF f.strip = .mk 0 0 ([], []) []) := Lib.hid (fun h h2 => by
    have e : ofE f.strip = 12 := by unfold ofE; rw [if_pos h, h2]; rfl
    exact ⟨e, by unfold ofF; rw [e]; rfl⟩)
  have HE3 : Hid (foR f.strip = true → foR f.strip.sh = true → ofE f.strip = 0 ∧ ofF f.strip = f.strip.sh) := Lib.hid (fun h h2 => by
    have e : ofE f.strip = 0 := by unfold ofE; rw [if_pos h, if_pos h2]
    exact ⟨e, by unfold ofF; rw [if_pos e]⟩)
  generalize ofE f.strip = er at *
  generalize ofF f.strip = rf at *
  generalize foR f.strip = rv at *
  generalize f.strip.sh = sf at *
  generalize hfs : foR sf = rs at *
  clear hs hl hfs
  obtain ⟨fx, hfx⟩ : ∃ q, f = q := ⟨_, rfl⟩
  obtain ⟨op, k, ⟨o, d⟩, a, n, c, kids⟩ := f
  have HV : Hid (fmV fx = .agg #[.int .i64 op, .int .i64 k, .string ⟨o.toArray⟩, .string ⟨d.toArray⟩, .slice a n c]) := Lib.hid (by rw [← hfx]; rfl)
  rw [hfx] at HR HSH st ⊢
  rw [HV.out] at HR HSH ⊢
  clear hfx
  (try simp only [nsl, Value.cells, unB] at st)
  (try clear hc); have hc := st.facts; (try simp only [nfl, nft, Nat.reduceAdd] at hc)
  go_enter Try.func12, Try.ntmps12
  go_wp2_with ((first
        | ((with_reducible refine wl_box ?_ (fun K hK => ?_)); rfl; refine owp_box (o := ⟨some 1, _, _, _, _, _⟩) rfl st ?_; apply Exists.intro; refine ⟨?_, ?_⟩; (focus (go_simp; try rfl)); (clear st; intro b1 w hb st; clear hb))
        | ((with_reducible refine wl_alloc ?_ (fun K hK => ?_)); rfl; refine owp_alloc (o := ⟨some 2, _, _, _, _, _⟩) rfl st ?_; apply Exists.intro; apply Exists.intro; refine ⟨?_, ?_⟩; (focus (first | (go_simp; done) | (go_simp; rfl))); (clear st; intro b2 w hb st; clear hb))
        | ((with_reducible refine wl_store ?_ (fun K hK => ?_)); rfl; refine owp_store rfl st ?_; apply Exists.intro; apply Exists.intro; refine ⟨?_, ?_, ?_⟩; (focus (go_simp; try rfl)); (focus (go_simp; try rfl)); (first | (with_reducible refine ⟨0, _, _, _, _, get0, rfl, rfl, ?_, ?_, ?_, ?_⟩) | (with_reducible refine ⟨1, _, _, _, _, get1, rfl, rfl, ?_, ?_, ?_, ?_⟩) | (with_reducible refine ⟨2, _, _, _, _, get2, rfl, rfl, ?_, ?_, ?_, ?_⟩) | (with_reducible refine ⟨3, _, _, _, _, get3, rfl, rfl, ?_, ?_, ?_, ?_⟩) | (with_reducible refine ⟨4, _, _, _, _, get4, rfl, rfl, ?_, ?_, ?_, ?_⟩) | (with_reducible refine ⟨5, _, _, _, _, get5, rfl, rfl, ?_, ?_, ?_, ?_⟩)); (kernel_rfl); (simp [Value.cells]); (rfl); (clear st; intro w st))
        | ((with_reducible refine wl_box ?_ (fun K hK => ?_)); rfl; refine owp_box (o := ⟨some 11, _, _, _, _, _⟩) rfl st ?_; apply Exists.intro; refine ⟨?_, ?_⟩; (focus (go_simp; try rfl)); (clear st; intro b11 w hb st; clear hb))
        | ((with_reducible refine wl_alloc ?_ (fun K hK => ?_)); rfl; refine owp_alloc (o := ⟨some 5, _, _, _, _, _⟩) rfl st ?_; apply Exists.intro; apply Exists.intro; refine ⟨?_, ?_⟩; (focus (first | (go_simp; done) | (go_simp; rfl))); (clear st; intro b5 w hb st; clear hb))); (try simp only [nsl, Value.cells, unB] at st); (try clear hc); have hc := st.facts; (try simp only [nfl, nft, Nat.reduceAdd] at hc))
  refine (HR.out _ (st.fm (i := 0) get0)).mono ?_
  rintro en w ⟨rfl, hx⟩
  replace st := st.ext hx
  clear hx
  (try clear hc); have hc := st.facts; (try simp only [nfl, nft, Nat.reduceAdd] at hc)
  cases rv with
  | false =>
    obtain ⟨rfl, h2⟩ := HE1.out rfl
    (try simp only [nsl, Value.cells, unB] at st)
    (try clear hc); have hc := st.facts; (try simp only [nfl, nft, Nat.reduceAdd] at hc)
    go_wp2_with ((first
          | ((with_reducible refine wl_box ?_ (fun K hK => ?_)); rfl; refine owp_box (o := ⟨some 1, _, _, _, _, _⟩) rfl st ?_; apply Exists.intro; refine ⟨?_, ?_⟩; (focus (go_simp; try rfl)); (clear st; intro b1 w hb st; clear hb))
          | ((with_reducible refine wl_alloc ?_ (fun K hK => ?_)); rfl; refine owp_alloc (o := ⟨some 2, _, _, _, _, _⟩) rfl st ?_; apply Exists.intro; apply Exists.intro; refine ⟨?_, ?_⟩; (focus (first | (go_simp; done) | (go_simp; rfl))); (clear st; intro b2 w hb st; clear hb))
          | ((with_reducible refine wl_store ?_ (fun K hK => ?_)); rfl; refine owp_store rfl st ?_; apply Exists.intro; apply Exists.intro; refine ⟨?_, ?_, ?_⟩; (focus (go_simp; try rfl)); (focus (go_simp; try rfl)); (first | (with_reducible refine ⟨0, _, _, _, _, get0, rfl, rfl, ?_, ?_, ?_, ?_⟩) | (with_reducible refine ⟨1, _, _, _, _, get1, rfl, rfl, ?_, ?_, ?_, ?_⟩) | (with_reducible refine ⟨2, _, _, _, _, get2, rfl, rfl, ?_, ?_, ?_, ?_⟩) | (with_reducible refine ⟨3, _, _, _, _, get3, rfl, rfl, ?_, ?_, ?_, ?_⟩) | (with_reducible refine ⟨4, _, _, _, _, get4, rfl, rfl, ?_, ?_, ?_, ?_⟩) | (with_reducible refine ⟨5, _, _, _, _, get5, rfl, rfl, ?_, ?_, ?_, ?_⟩)); (kernel_rfl); (simp [Value.cells]); (rfl); (clear st; intro w st))
          | ((with_reducible refine wl_box ?_ (fun K hK => ?_)); rfl; refine owp_box (o := ⟨some 11, _, _, _, _, _⟩) rfl st ?_; apply Exists.intro; refine ⟨?_, ?_⟩; (focus (go_simp; try rfl)); (clear st; intro b11 w hb st; clear hb))
          | ((with_reducible refine wl_alloc ?_ (fun K hK => ?_)); rfl; refine owp_alloc (o := ⟨some 5, _, _, _, _, _⟩) rfl st ?_; apply Exists.intro; apply Exists.intro; refine ⟨?_, ?_⟩; (focus (first | (go_simp; done) | (go_simp; rfl))); (clear st; intro b5 w hb st; clear hb))); (try simp only [nsl, Value.cells, unB] at st); (try clear hc); have hc := st.facts; (try simp only [nfl, nft, Nat.reduceAdd] at hc))
    (try simp only [Exit.inBlock, Exit.then])
    refine bodyPost_cell2 rfl rfl (st.blk (i := 2) get2) Try.underlying26 rfl (by kernel_rfl) rfl ?_
    have st2 := (st.bare (I := fmI (.mk 0 0 ([], []) none 0 0 [])) (fm_bare _ _ _ _)).keep [0, 3] (by decide) (by simp)
    exact fmTold (.mk 0 0 ([], []) none 0 0 []) rfl rfl (by rw [h2]; rfl) (by simpa [pick] using st2)
  | true =>
    (try simp only [nsl, Value.cells, unB] at st)
    (try clear hc); have hc := st.facts; (try simp only [nfl, nft, Nat.reduceAdd] at hc)
    go_wp2_with ((first
          | ((with_reducible refine wl_box ?_ (fun K hK => ?_)); rfl; refine owp_box (o := ⟨some 1, _, _, _, _, _⟩) rfl st ?_; apply Exists.intro; refine ⟨?_, ?_⟩; (focus (go_simp; try rfl)); (clear st; intro b1 w hb st; clear hb))
          | ((with_reducible refine wl_alloc ?_ (fun K hK => ?_)); rfl; refine owp_alloc (o := ⟨some 2, _, _, _, _, _⟩) rfl st ?_; apply Exists.intro; apply Exists.intro; refine ⟨?_, ?_⟩; (focus (first | (go_simp; done) | (go_simp; rfl))); (clear st; intro b2 w hb st; clear hb))
          | ((with_reducible refine wl_store ?_ (fun K hK => ?_)); rfl; refine owp_store rfl st ?_; apply Exists.intro; apply Exists.intro; refine ⟨?_, ?_, ?_⟩; (focus (go_simp; try rfl)); (focus (go_simp; try rfl)); (first | (with_reducible refine ⟨0, _, _, _, _, get0, rfl, rfl, ?_, ?_, ?_, ?_⟩) | (with_reducible refine ⟨1, _, _, _, _, get1, rfl, rfl, ?_, ?_, ?_, ?_⟩) | (with_reducible refine ⟨2, _, _, _, _, get2, rfl, rfl, ?_, ?_, ?_, ?_⟩) | (with_reducible refine ⟨3, _, _, _, _, get3, rfl, rfl, ?_, ?_, ?_, ?_⟩) | (with_reducible refine ⟨4, _, _, _, _, get4, rfl, rfl, ?_, ?_, ?_, ?_⟩) | (with_reducible refine ⟨5, _, _, _, _, get5, rfl, rfl, ?_, ?_, ?_, ?_⟩)); (kernel_rfl); (simp [Value.cells]); (rfl); (clear st; intro w st))
          | ((with_reducible refine wl_box ?_ (fun K hK => ?_)); rfl; refine owp_box (o := ⟨some 11, _, _, _, _, _⟩) rfl st ?_; apply Exists.intro; refine ⟨?_, ?_⟩; (focus (go_simp; try rfl)); (clear st; intro b11 w hb st; clear hb))
          | ((with_reducible refine wl_alloc ?_ (fun K hK => ?_)); rfl; refine owp_alloc (o := ⟨some 5, _, _, _, _, _⟩) rfl st ?_; apply Exists.intro; apply Exists.intro; refine ⟨?_, ?_⟩; (focus (first | (go_simp; done) | (go_simp; rfl))); (clear st; intro b5 w hb st; clear hb))); (try simp only [nsl, Value.cells, unB] at st); (try clear hc); have hc := st.facts; (try simp only [nfl, nft, Nat.reduceAdd] at hc))
    obtain ⟨fr', al', st', back⟩ := st.sub [3, 0] (by decide) (by simp)
    (try simp only [nsl, Value.cells, unB] at st')
    refine (HSH.out (by simp) _ _ _ _ st').mono ?_
    clear st'
    rintro en w ⟨g, rfl, hg, st'⟩
    replace st := back _ _ (by simp) st'
    clear back st'
    (try simp only [nsl, Value.cells, unB] at st)
    (try clear hc); have hc := st.facts; (try simp only [nfl, nft, Nat.reduceAdd] at hc)
    have HR3 := Lib.hid (fun W' h => HR2.out g hg W' h)
    have HG := Lib.hid hg
    clear hg HR2
    obtain ⟨gx, hgx⟩ : ∃ q, g = q := ⟨_, rfl⟩
    obtain ⟨op', k', ⟨o', d'⟩, a', n', c', kids'⟩ := g
    have HV2 : Hid (fmV gx = .agg #[.int .i64 op', .int .i64 k', .string ⟨o'.toArray⟩, .string ⟨d'.toArray⟩, .slice a' n' c']) := Lib.hid (by rw [← hgx]; rfl)
    rw [hgx] at HR3 HG st ⊢
    rw [HV2.out] at HR3 ⊢
    clear hgx
    (try simp only [nsl, Value.cells, unB] at st)
    (try clear hc); have hc := st.facts; (try simp only [nfl, nft, Nat.reduceAdd] at hc)
    go_wp2_with ((first
          | ((with_reducible refine wl_box ?_ (fun K hK => ?_)); rfl; refine owp_box (o := ⟨some 1, _, _, _, _, _⟩) rfl st ?_; apply Exists.intro; refine ⟨?_, ?_⟩; (focus (go_simp; try rfl)); (clear st; intro b1 w hb st; clear hb))
          | ((with_reducible refine wl_alloc ?_ (fun K hK => ?_)); rfl; refine owp_alloc (o := ⟨some 2, _, _, _, _, _⟩) rfl st ?_; apply Exists.intro; apply Exists.intro; refine ⟨?_, ?_⟩; (focus (first | (go_simp; done) | (go_simp; rfl))); (clear st; intro b2 w hb st; clear hb))
          | ((with_reducible refine wl_store ?_ (fun K hK => ?_)); rfl; refine owp_store rfl st ?_; apply Exists.intro; apply Exists.intro; refine ⟨?_, ?_, ?_⟩; (focus (go_simp; try rfl)); (focus (go_simp; try rfl)); (first | (with_reducible refine ⟨0, _, _, _, _, get0, rfl, rfl, ?_, ?_, ?_, ?_⟩) | (with_reducible refine ⟨1, _, _, _, _, get1, rfl, rfl, ?_, ?_, ?_, ?_⟩) | (with_reducible refine ⟨2, _, _, _, _, get2, rfl, rfl, ?_, ?_, ?_, ?_⟩) | (with_reducible refine ⟨3, _, _, _, _, get3, rfl, rfl, ?_, ?_, ?_, ?_⟩) | (with_reducible refine ⟨4, _, _, _, _, get4, rfl, rfl, ?_, ?_, ?_, ?_⟩) | (with_reducible refine ⟨5, _, _, _, _, get5, rfl, rfl, ?_, ?_, ?_, ?_⟩)); (kernel_rfl); (simp [Value.cells]); (rfl); (clear st; intro w st))
          | ((with_reducible refine wl_box ?_ (fun K hK => ?_)); rfl; refine owp_box (o := ⟨some 11, _, _, _, _, _⟩) rfl st ?_; apply Exists.intro; refine ⟨?_, ?_⟩; (focus (go_simp; try rfl)); (clear st; intro b11 w hb st; clear hb))
          | ((with_reducible refine wl_alloc ?_ (fun K hK => ?_)); rfl; refine owp_alloc (o := ⟨some 5, _, _, _, _, _⟩) rfl st ?_; apply Exists.intro; apply Exists.intro; refine ⟨?_, ?_⟩; (focus (first | (go_simp; done) | (go_simp; rfl))); (clear st; intro b5 w hb st; clear hb))); (try simp only [nsl, Value.cells, unB] at st); (try clear hc); have hc := st.facts; (try simp only [nfl, nft, Nat.reduceAdd] at hc))
    refine (HR3.out _ (st.fm (i := 4) get4)).mono ?_
    rintro en w ⟨rfl, hx⟩
    replace st := st.ext hx
    clear hx
    (try clear hc); have hc := st.facts; (try simp only [nfl, nft, Nat.reduceAdd] at hc)
    cases rs with
    | false =>
      obtain ⟨rfl, h2⟩ := HE2.out (by simp) (by simp)
      (try simp only [nsl, Value.cells, unB] at st)
      (try clear hc); have hc := st.facts; (try simp only [nfl, nft, Nat.reduceAdd] at hc)
      go_wp2_with ((first
            | ((with_reducible refine wl_box ?_ (fun K hK => ?_)); rfl; refine owp_box (o := ⟨some 1, _, _, _, _, _⟩) rfl st ?_; apply Exists.intro; refine ⟨?_, ?_⟩; (focus (go_simp; try rfl)); (clear st; intro b1 w hb st; clear hb))
            | ((with_reducible refine wl_alloc ?_ (fun K hK => ?_)); rfl; refine owp_alloc (o := ⟨some 2, _, _, _, _, _⟩) rfl st ?_; apply Exists.intro; apply Exists.intro; refine ⟨?_, ?_⟩; (focus (first | (go_simp; done) | (go_simp; rfl))); (clear st; intro b2 w hb st; clear hb))
            | ((with_reducible refine wl_store ?_ (fun K hK => ?_)); rfl; refine owp_store rfl st ?_; apply Exists.intro; apply Exists.intro; refine ⟨?_, ?_, ?_⟩; (focus (go_simp; try rfl)); (focus (go_simp; try rfl)); (first | (with_reducible refine ⟨0, _, _, _, _, get0, rfl, rfl, ?_, ?_, ?_, ?_⟩) | (with_reducible refine ⟨1, _, _, _, _, get1, rfl, rfl, ?_, ?_, ?_, ?_⟩) | (with_reducible refine ⟨2, _, _, _, _, get2, rfl, rfl, ?_, ?_, ?_, ?_⟩) | (with_reducible refine ⟨3, _, _, _, _, get3, rfl, rfl, ?_, ?_, ?_, ?_⟩) | (with_reducible refine ⟨4, _, _, _, _, get4, rfl, rfl, ?_, ?_, ?_, ?_⟩) | (with_reducible refine ⟨5, _, _, _, _, get5, rfl, rfl, ?_, ?_, ?_, ?_⟩)); (kernel_rfl); (simp [Value.cells]); (rfl); (clear st; intro w st))
            | ((with_reducible refine wl_box ?_ (fun K hK => ?_)); rfl; refine owp_box (o := ⟨some 11, _, _, _, _, _⟩) rfl st ?_; apply Exists.intro; refine ⟨?_, ?_⟩; (focus (go_simp; try rfl)); (clear st; intro b11 w hb st; clear hb))
            | ((with_reducible refine wl_alloc ?_ (fun K hK => ?_)); rfl; refine owp_alloc (o := ⟨some 5, _, _, _, _, _⟩) rfl st ?_; apply Exists.intro; apply Exists.intro; refine ⟨?_, ?_⟩; (focus (first | (go_simp; done) | (go_simp; rfl))); (clear st; intro b5 w hb st; clear hb))); (try simp only [nsl, Value.cells, unB] at st); (try clear hc); have hc := st.facts; (try simp only [nfl, nft, Nat.reduceAdd] at hc))
      (try simp only [Exit.inBlock, Exit.then])
      refine bodyPost_cell2 rfl rfl (st.blk (i := 2) get2) Try.underlying26 rfl (by kernel_rfl) rfl ?_
      have st2 := (st.bare (I := fmI (.mk 0 0 ([], []) none 0 0 [])) (fm_bare _ _ _ _)).keep [0, 6] (by decide) (by simp)
      exact fmTold (.mk 0 0 ([], []) none 0 0 []) rfl rfl (by rw [h2]; rfl) (by simpa [pick] using st2)
    | true =>
      obtain ⟨rfl, h2⟩ := HE3.out (by simp) (by simp)
      (try simp only [nsl, Value.cells, unB] at st)
      (try clear hc); have hc := st.facts; (try simp only [nfl, nft, Nat.reduceAdd] at hc)
      go_wp2_with ((first
            | ((with_reducible refine wl_box ?_ (fun K hK => ?_)); rfl; refine owp_box (o := ⟨some 1, _, _, _, _, _⟩) rfl st ?_; apply Exists.intro; refine ⟨?_, ?_⟩; (focus (go_simp; try rfl)); (clear st; intro b1 w hb st; clear hb))
            | ((with_reducible refine wl_alloc ?_ (fun K hK => ?_)); rfl; refine owp_alloc (o := ⟨some 2, _, _, _, _, _⟩) rfl st ?_; apply Exists.intro; apply Exists.intro; refine ⟨?_, ?_⟩; (focus (first | (go_simp; done) | (go_simp; rfl))); (clear st; intro b2 w hb st; clear hb))
            | ((with_reducible refine wl_store ?_ (fun K hK => ?_)); rfl; refine owp_store rfl st ?_; apply Exists.intro; apply Exists.intro; refine ⟨?_, ?_, ?_⟩; (focus (go_simp; try rfl)); (focus (go_simp; try rfl)); (first | (with_reducible refine ⟨0, _, _, _, _, get0, rfl, rfl, ?_, ?_, ?_, ?_⟩) | (with_reducible refine ⟨1, _, _, _, _, get1, rfl, rfl, ?_, ?_, ?_, ?_⟩) | (with_reducible refine ⟨2, _, _, _, _, get2, rfl, rfl, ?_, ?_, ?_, ?_⟩) | (with_reducible refine ⟨3, _, _, _, _, get3, rfl, rfl, ?_, ?_, ?_, ?_⟩) | (with_reducible refine ⟨4, _, _, _, _, get4, rfl, rfl, ?_, ?_, ?_, ?_⟩) | (with_reducible refine ⟨5, _, _, _, _, get5, rfl, rfl, ?_, ?_, ?_, ?_⟩)); (kernel_rfl); (simp [Value.cells]); (rfl); (clear st; intro w st))
            | ((with_reducible refine wl_box ?_ (fun K hK => ?_)); rfl; refine owp_box (o := ⟨some 11, _, _, _, _, _⟩) rfl st ?_; apply Exists.intro; refine ⟨?_, ?_⟩; (focus (go_simp; try rfl)); (clear st; intro b11 w hb st; clear hb))
            | ((with_reducible refine wl_alloc ?_ (fun K hK => ?_)); rfl; refine owp_alloc (o := ⟨some 5, _, _, _, _, _⟩) rfl st ?_; apply Exists.intro; apply Exists.intro; refine ⟨?_, ?_⟩; (focus (first | (go_simp; done) | (go_simp; rfl))); (clear st; intro b5 w hb st; clear hb))); (try simp only [nsl, Value.cells, unB] at st); (try clear hc); have hc := st.facts; (try simp only [nfl, nft, Nat.reduceAdd] at hc))
      (try simp only [Exit.inBlock, Exit.then])
      refine bodyPost_cell2 rfl rfl (st.blk (i := 2) get2) Try.underlying26 rfl (by kernel_rfl) rfl ?_
      have st2 := st.keep [0, 4] (by decide) (by simp)
      exact fmTold gx (by rw [HV2.out]; rfl) rfl (by rw [HG.out, h2]) (by simpa [pick] using st2)
end Go.Proofs.Ythjaopojlhdjpaa

namespace Go.Proofs.Ythjaopojlhdjpaa
set_option linter.unusedSimpArgs false
set_option linter.unusedVariables false
open Go Go.RowKit
def isF (f : Fo) : Bool := decide (ofE f = 0) && foE (ofF f) f
theorem same_foE (f g : Fm) : pB (f.strip = g.strip) = foE f.strip g.strip := pB_of (foE_iff _ _)
theorem Own.fmsTwo {fr al : Nat → Prop} {w0 w : World} {L : List It} (st : Own fr al w0 L w) {i j : Nat} {f g : Fm} (hi : L[i]? = some (fmI f)) (hj : L[j]? = some (fmI g)) : Own fr al w0 (L ++ [fmsI [f, g]]) w :=
  st.share2 hi hj fun e s e2 s2 h1 h2 x hx => by
    rcases List.mem_cons.1 hx with q | q
    · rw [q]; exact FmIn.to (show FmIn s w f from h1) fun _ => .inl
    · rw [List.mem_singleton.1 q]; exact FmIn.to (show FmIn s2 w g from h2) fun _ => .inr
set_option maxRecDepth 100000 in
set_option maxHeartbeats 2000000 in
theorem normIs_any (f : Fm) (W : World) (h : FmOk W f) (hs : f.strip.nodes ≤ 1000000) (hl : FoL 100000 f.strip) :
    Calls Try.prog 16 #[fmV f] W fun e w' => e = .returned (.bool (isF f.strip)) ∧ Ext W w' := by
  have HO := Lib.hid (fun fr al W st => normOf_c f (fr := fr) (al := al) (W := W) st hs hl)
  have HSM := Lib.hid (fun (g : Fm) (hg : g.strip = ofF f.strip) W' (h1 : FmOk W' g) (h2 : FmOk W' f) => (show pB (g.strip = f.strip) = foE (ofF f.strip) f.strip by rw [same_foE, hg]) ▸ fmSame_any g f W' h1 h2)
  have HI : Hid (isF f.strip = (decide (ofE f.strip = 0) && foE (ofF f.strip) f.strip)) := Lib.hid rfl
  have H := Lib.hid h
  generalize isF f.strip = v at *
  generalize ofE f.strip = er at *
  obtain ⟨sv, hsv⟩ : ∃ q, foE (ofF f.strip) f.strip = q := ⟨_, rfl⟩
  rw [hsv] at HSM HI
  generalize ofF f.strip = rf at *
  clear hs hl h hsv
  obtain ⟨fx, hfx⟩ : ∃ q, f = q := ⟨_, rfl⟩
  obtain ⟨op, k, ⟨o, d⟩, a, n, c, kids⟩ := f
  have HV : Hid (fmV fx = .agg #[.int .i64 op, .int .i64 k, .string ⟨o.toArray⟩, .string ⟨d.toArray⟩, .slice a n c]) := Lib.hid (by rw [← hfx]; rfl)
  rw [hfx] at HO HSM H ⊢
  rw [HV.out] at HO HSM ⊢
  clear hfx
  have st := (Own.startOld W).addOldFm (i := 0) get0 H.out
  simp only [List.cons_append, List.nil_append] at st
  (try simp only [nsl, Value.cells, unB] at st)
  (try clear hc); have hc := st.facts; (try simp only [nfl, nft, Nat.reduceAdd] at hc)
  go_enter Try.func16, Try.ntmps16
  go_wp2_with ((first
        | ((with_reducible refine wl_box ?_ (fun K hK => ?_)); rfl; refine owp_box (o := ⟨some 1, _, _, _, _, _⟩) rfl st ?_; apply Exists.intro; refine ⟨?_, ?_⟩; (focus (go_simp; try rfl)); (clear st; intro b1 w hb st; clear hb))
        | ((with_reducible refine wl_alloc ?_ (fun K hK => ?_)); rfl; refine owp_alloc (o := ⟨some 3, _, _, _, _, _⟩) rfl st ?_; apply Exists.intro; apply Exists.intro; refine ⟨?_, ?_⟩; (focus (first | (go_simp; done) | (go_simp; rfl))); (clear st; intro b3 w hb st; clear hb))
        | ((with_reducible refine wl_store ?_ (fun K hK => ?_)); rfl; refine owp_store rfl st ?_; apply Exists.intro; apply Exists.intro; refine ⟨?_, ?_, ?_⟩; (focus (go_simp; try rfl)); (focus (go_simp; try rfl)); (first | (with_reducible refine ⟨0, _, _, _, _, get0, rfl, rfl, ?_, ?_, ?_, ?_⟩) | (with_reducible refine ⟨1, _, _, _, _, get1, rfl, rfl, ?_, ?_, ?_, ?_⟩) | (with_reducible refine ⟨2, _, _, _, _, get2, rfl, rfl, ?_, ?_, ?_, ?_⟩) | (with_reducible refine ⟨3, _, _, _, _, get3, rfl, rfl, ?_, ?_, ?_, ?_⟩) | (with_reducible refine ⟨4, _, _, _, _, get4, rfl, rfl, ?_, ?_, ?_, ?_⟩) | (with_reducible refine ⟨5, _, _, _, _, get5, rfl, rfl, ?_, ?_, ?_, ?_⟩)); (kernel_rfl); (simp [Value.cells]); (rfl); (clear st; intro w st))); (try simp only [nsl, Value.cells, unB] at st); (try clear hc); have hc := st.facts; (try simp only [nfl, nft, Nat.reduceAdd] at hc))
  obtain ⟨fr', al', st', back⟩ := st.sub [1] (by decide) (by simp)
  (try simp only [nsl, Value.cells, unB] at st')
  refine (HO.out _ _ _ st').mono ?_
  clear st'
  rintro en w ⟨g, rfl, hg, st'⟩
  replace st := back _ _ (by simp) st'
  clear back st'
  (try simp only [nsl, Value.cells, unB] at st)
  (try clear hc); have hc := st.facts; (try simp only [nfl, nft, Nat.reduceAdd] at hc)
  have HS2 := Lib.hid (fun W' h1 h2 => HSM.out g hg W' h1 h2)
  clear hg HSM
  obtain ⟨gx, hgx⟩ : ∃ q, g = q := ⟨_, rfl⟩
  obtain ⟨op', k', ⟨o', d'⟩, a', n', c', kids'⟩ := g
  have HV2 : Hid (fmV gx = .agg #[.int .i64 op', .int .i64 k', .string ⟨o'.toArray⟩, .string ⟨d'.toArray⟩, .slice a' n' c']) := Lib.hid (by rw [← hgx]; rfl)
  rw [hgx] at HS2 st ⊢
  rw [HV2.out] at HS2 ⊢
  clear hgx
  by_cases he : er = 0
  · subst he
    (try simp only [nsl, Value.cells, unB] at st)
    (try clear hc); have hc := st.facts; (try simp only [nfl, nft, Nat.reduceAdd] at hc)
    go_wp2_with ((first
          | ((with_reducible refine wl_box ?_ (fun K hK => ?_)); rfl; refine owp_box (o := ⟨some 1, _, _, _, _, _⟩) rfl st ?_; apply Exists.intro; refine ⟨?_, ?_⟩; (focus (go_simp; try rfl)); (clear st; intro b1 w hb st; clear hb))
          | ((with_reducible refine wl_alloc ?_ (fun K hK => ?_)); rfl; refine owp_alloc (o := ⟨some 3, _, _, _, _, _⟩) rfl st ?_; apply Exists.intro; apply Exists.intro; refine ⟨?_, ?_⟩; (focus (first | (go_simp; done) | (go_simp; rfl))); (clear st; intro b3 w hb st; clear hb))
          | ((with_reducible refine wl_store ?_ (fun K hK => ?_)); rfl; refine owp_store rfl st ?_; apply Exists.intro; apply Exists.intro; refine ⟨?_, ?_, ?_⟩; (focus (go_simp; try rfl)); (focus (go_simp; try rfl)); (first | (with_reducible refine ⟨0, _, _, _, _, get0, rfl, rfl, ?_, ?_, ?_, ?_⟩) | (with_reducible refine ⟨1, _, _, _, _, get1, rfl, rfl, ?_, ?_, ?_, ?_⟩) | (with_reducible refine ⟨2, _, _, _, _, get2, rfl, rfl, ?_, ?_, ?_, ?_⟩) | (with_reducible refine ⟨3, _, _, _, _, get3, rfl, rfl, ?_, ?_, ?_, ?_⟩) | (with_reducible refine ⟨4, _, _, _, _, get4, rfl, rfl, ?_, ?_, ?_, ?_⟩) | (with_reducible refine ⟨5, _, _, _, _, get5, rfl, rfl, ?_, ?_, ?_, ?_⟩)); (kernel_rfl); (simp [Value.cells]); (rfl); (clear st; intro w st))); (try simp only [nsl, Value.cells, unB] at st); (try clear hc); have hc := st.facts; (try simp only [nfl, nft, Nat.reduceAdd] at hc))
    refine (HS2.out _ (st.fm (i := 3) get3) (st.fm (i := 1) get1)).mono ?_
    rintro en w ⟨rfl, hx⟩
    replace st := st.ext hx
    clear hx
    (try clear hc); have hc := st.facts; (try simp only [nfl, nft, Nat.reduceAdd] at hc)
    go_wp2_with fail
    go_ret
    exact ⟨by rw [HI.out]; simp, st.ext0⟩
  · have heb : (er == 0) = false := by simpa using he
    (try simp only [nsl, Value.cells, unB] at st)
    (try clear hc); have hc := st.facts; (try simp only [nfl, nft, Nat.reduceAdd] at hc)
    go_wp2_with ((first
          | ((with_reducible refine wl_box ?_ (fun K hK => ?_)); rfl; refine owp_box (o := ⟨some 1, _, _, _, _, _⟩) rfl st ?_; apply Exists.intro; refine ⟨?_, ?_⟩; (focus (go_simp; try rfl)); (clear st; intro b1 w hb st; clear hb))
          | ((with_reducible refine wl_alloc ?_ (fun K hK => ?_)); rfl; refine owp_alloc (o := ⟨some 3, _, _, _, _, _⟩) rfl st ?_; apply Exists.intro; apply Exists.intro; refine ⟨?_, ?_⟩; (focus (first | (go_simp; done) | (go_simp; rfl))); (clear st; intro b3 w hb st; clear hb))
          | ((with_reducible refine wl_store ?_ (fun K hK => ?_)); rfl; refine owp_store rfl st ?_; apply Exists.intro; apply Exists.intro; refine ⟨?_, ?_, ?_⟩; (focus (go_simp; try rfl)); (focus (go_simp; try rfl)); (first | (with_reducible refine ⟨0, _, _, _, _, get0, rfl, rfl, ?_, ?_, ?_, ?_⟩) | (with_reducible refine ⟨1, _, _, _, _, get1, rfl, rfl, ?_, ?_, ?_, ?_⟩) | (with_reducible refine ⟨2, _, _, _, _, get2, rfl, rfl, ?_, ?_, ?_, ?_⟩) | (with_reducible refine ⟨3, _, _, _, _, get3, rfl, rfl, ?_, ?_, ?_, ?_⟩) | (with_reducible refine ⟨4, _, _, _, _, get4, rfl, rfl, ?_, ?_, ?_, ?_⟩) | (with_reducible refine ⟨5, _, _, _, _, get5, rfl, rfl, ?_, ?_, ?_, ?_⟩)); (kernel_rfl); (simp [Value.cells]); (rfl); (clear st; intro w st))); (try simp only [nsl, Value.cells, unB] at st); (try clear hc); have hc := st.facts; (try simp only [nfl, nft, Nat.reduceAdd] at hc))
    go_ret
    exact ⟨by rw [HI.out]; simp [he], st.ext0⟩
set_option maxRecDepth 100000 in
set_option maxHeartbeats 4000000 in
theorem normBoth_c (f g : Fm) {fr al : Nat → Prop} {W : World} (st : Own fr al W [fmI f, fmI g] W) (hs : f.strip.nodes ≤ 400000) (hs2 : g.strip.nodes ≤ 400000) (hl : FoL 100000 f.strip) (hl2 : FoL 100000 g.strip) :
    Calls Try.prog 14 #[fmV f, fmV g] W fun e w' => FmTold fr al W [fmI f, fmI g] (ofF (.mk 2 0 ([], []) [f.strip, g.strip])) (ofE (.mk 2 0 ([], []) [f.strip, g.strip])) e w' := by
  have HO := Lib.hid (fun fr al W b st => show Calls Try.prog _ _ _ (fun e w' => FmTold fr al W [fmI (.mk 2 0 ([], []) (some ⟨b, 0, none⟩) 2 2 [f, g])] (ofF (.mk 2 0 ([], []) [f.strip, g.strip])) (ofE (.mk 2 0 ([], []) [f.strip, g.strip])) e w') from normOf_c (.mk 2 0 ([], []) (some ⟨b, 0, none⟩) 2 2 [f, g]) (fr := fr) (al := al) (W := W) st (by rw [strip_mk]; simp [Fo.nodes, nodesL]; omega) (by
    rw [strip_mk]
    exact mk_L fun x hx => by
      rcases List.mem_cons.1 hx with q | q
      · rw [q]; exact hl
      · rw [List.mem_singleton.1 q]; exact hl2))
  generalize ofE (.mk 2 0 ([], []) [f.strip, g.strip]) = er at *
  generalize ofF (.mk 2 0 ([], []) [f.strip, g.strip]) = rf at *
  clear hs hs2 hl hl2
  obtain ⟨op, k, ⟨o, d⟩, a, n, c, kids⟩ := f
  obtain ⟨op2, k2, ⟨o2, d2⟩, a2, n2, c2, kids2⟩ := g
  unfold fmV S at HO ⊢
  simp only at HO ⊢
  (try simp only [nsl, Value.cells, unB] at st)
  (try clear hc); have hc := st.facts; (try simp only [nfl, nft, Nat.reduceAdd] at hc)
  go_enter Try.func14, Try.ntmps14
  go_wp2_with ((first
        | ((with_reducible refine wl_box ?_ (fun K hK => ?_)); rfl; refine owp_box (o := ⟨some 2, _, _, _, _, _⟩) rfl st ?_; apply Exists.intro; refine ⟨?_, ?_⟩; (focus (go_simp; try rfl)); (clear st; intro b2 w hb st; clear hb))
        | ((with_reducible refine wl_box ?_ (fun K hK => ?_)); rfl; refine owp_box (o := ⟨some 3, _, _, _, _, _⟩) rfl st ?_; apply Exists.intro; refine ⟨?_, ?_⟩; (focus (go_simp; try rfl)); (clear st; intro b3 w hb st; clear hb))
        | ((with_reducible refine wl_alloc ?_ (fun K hK => ?_)); rfl; refine owp_alloc (o := ⟨some 4, _, _, _, _, _⟩) rfl st ?_; apply Exists.intro; apply Exists.intro; refine ⟨?_, ?_⟩; (focus (first | (go_simp; done) | (go_simp; rfl))); (clear st; intro b4 w hb st; clear hb))
        | ((with_reducible refine wl_buildSlice ?_ (fun K hK => ?_)); rfl; refine owp_buildSlice (o := ⟨some 8, _, _, _, _, _⟩) rfl st ?_; apply Exists.intro; apply Exists.intro; apply Exists.intro; apply Exists.intro; refine ⟨?_, ?_⟩; (focus (go_simp; (first | done | exact ⟨⟨rfl, rfl⟩, rfl⟩ | rfl))); (clear st; intro b8 w hb st; clear hb))
        | ((with_reducible refine wl_store ?_ (fun K hK => ?_)); rfl; refine owp_store rfl st ?_; apply Exists.intro; apply Exists.intro; refine ⟨?_, ?_, ?_⟩; (focus (go_simp; try rfl)); (focus (go_simp; try rfl)); (first | (with_reducible refine ⟨0, _, _, _, _, get0, rfl, rfl, ?_, ?_, ?_, ?_⟩) | (with_reducible refine ⟨1, _, _, _, _, get1, rfl, rfl, ?_, ?_, ?_, ?_⟩) | (with_reducible refine ⟨2, _, _, _, _, get2, rfl, rfl, ?_, ?_, ?_, ?_⟩) | (with_reducible refine ⟨3, _, _, _, _, get3, rfl, rfl, ?_, ?_, ?_, ?_⟩) | (with_reducible refine ⟨4, _, _, _, _, get4, rfl, rfl, ?_, ?_, ?_, ?_⟩) | (with_reducible refine ⟨5, _, _, _, _, get5, rfl, rfl, ?_, ?_, ?_, ?_⟩) | (with_reducible refine ⟨6, _, _, _, _, get6, rfl, rfl, ?_, ?_, ?_, ?_⟩)); (kernel_rfl); (simp [Value.cells]); (rfl); (clear st; intro w st))); (try simp only [nsl, Value.cells, unB] at st); (try clear hc); have hc := st.facts; (try simp only [nfl, nft, Nat.reduceAdd] at hc))
  replace st := (st.blkToFl (i := 5) (n := 2) [Fm.mk op k (o, d) a n c kids, Fm.mk op2 k2 (o2, d2) a2 n2 c2 kids2] get5 rfl rfl).fmsTwo (i := 0) (j := 1) (f := .mk op k (o, d) a n c kids) (g := .mk op2 k2 (o2, d2) a2 n2 c2 kids2) get0 get1
  simp only [List.set, List.cons_append, List.nil_append] at st
  replace st := st.mkFm (i := 5) (j := 6) get5 get6 2 0 ([], []) 2 ⟨Nat.le_refl _, by simp [maxLen]⟩
  simp only [List.cons_append, List.nil_append] at st
  (try simp only [nsl, Value.cells, unB] at st)
  (try clear hc); have hc := st.facts; (try simp only [nfl, nft, Nat.reduceAdd] at hc)
  obtain ⟨fr', al', st', back⟩ := st.sub [7] (by decide) (by simp)
  (try simp only [nsl, Value.cells, unB] at st')
  refine (HO.out _ _ _ _ st').mono ?_
  clear st'
  rintro en w ⟨r, rfl, hg, st'⟩
  replace st := back _ _ (by simp) st'
  clear back st'
  (try simp only [nsl, Value.cells, unB] at st)
  (try clear hc); have hc := st.facts; (try simp only [nfl, nft, Nat.reduceAdd] at hc)
  have HG := Lib.hid hg
  clear hg
  obtain ⟨op', k', ⟨o', d'⟩, a', n', c', kids'⟩ := r
  unfold fmV S
  simp only
  (try simp only [nsl, Value.cells, unB] at st)
  (try clear hc); have hc := st.facts; (try simp only [nfl, nft, Nat.reduceAdd] at hc)
  go_wp2_with ((first
        | ((with_reducible refine wl_box ?_ (fun K hK => ?_)); rfl; refine owp_box (o := ⟨some 2, _, _, _, _, _⟩) rfl st ?_; apply Exists.intro; refine ⟨?_, ?_⟩; (focus (go_simp; try rfl)); (clear st; intro b2 w hb st; clear hb))
        | ((with_reducible refine wl_box ?_ (fun K hK => ?_)); rfl; refine owp_box (o := ⟨some 3, _, _, _, _, _⟩) rfl st ?_; apply Exists.intro; refine ⟨?_, ?_⟩; (focus (go_simp; try rfl)); (clear st; intro b3 w hb st; clear hb))
        | ((with_reducible refine wl_alloc ?_ (fun K hK => ?_)); rfl; refine owp_alloc (o := ⟨some 4, _, _, _, _, _⟩) rfl st ?_; apply Exists.intro; apply Exists.intro; refine ⟨?_, ?_⟩; (focus (first | (go_simp; done) | (go_simp; rfl))); (clear st; intro b4 w hb st; clear hb))
        | ((with_reducible refine wl_buildSlice ?_ (fun K hK => ?_)); rfl; refine owp_buildSlice (o := ⟨some 8, _, _, _, _, _⟩) rfl st ?_; apply Exists.intro; apply Exists.intro; apply Exists.intro; apply Exists.intro; refine ⟨?_, ?_⟩; (focus (go_simp; (first | done | exact ⟨⟨rfl, rfl⟩, rfl⟩ | rfl))); (clear st; intro b8 w hb st; clear hb))
        | ((with_reducible refine wl_store ?_ (fun K hK => ?_)); rfl; refine owp_store rfl st ?_; apply Exists.intro; apply Exists.intro; refine ⟨?_, ?_, ?_⟩; (focus (go_simp; try rfl)); (focus (go_simp; try rfl)); (first | (with_reducible refine ⟨0, _, _, _, _, get0, rfl, rfl, ?_, ?_, ?_, ?_⟩) | (with_reducible refine ⟨1, _, _, _, _, get1, rfl, rfl, ?_, ?_, ?_, ?_⟩) | (with_reducible refine ⟨2, _, _, _, _, get2, rfl, rfl, ?_, ?_, ?_, ?_⟩) | (with_reducible refine ⟨3, _, _, _, _, get3, rfl, rfl, ?_, ?_, ?_, ?_⟩) | (with_reducible refine ⟨4, _, _, _, _, get4, rfl, rfl, ?_, ?_, ?_, ?_⟩) | (with_reducible refine ⟨5, _, _, _, _, get5, rfl, rfl, ?_, ?_, ?_, ?_⟩) | (with_reducible refine ⟨6, _, _, _, _, get6, rfl, rfl, ?_, ?_, ?_, ?_⟩)); (kernel_rfl); (simp [Value.cells]); (rfl); (clear st; intro w st))); (try simp only [nsl, Value.cells, unB] at st); (try clear hc); have hc := st.facts; (try simp only [nfl, nft, Nat.reduceAdd] at hc))
  (try simp only [Exit.inBlock, Exit.then])
  refine bodyPost_cell2 rfl rfl (st.blk (i := 4) get4) Try.underlying26 rfl (by kernel_rfl) rfl ?_
  have st2 := st.keep [0, 1, 8] (by decide) (by simp)
  exact fmTold (.mk op' k' (o', d') a' n' c' kids') rfl rfl HG.out (by simpa [pick] using st2)
-- the first answers
def foS : Fo := .mk 1 0 ([98], [115]) []
def fmS2 : Fm := .mk 1 0 ([98], [115]) none 0 0 []
def foT : Fo := .mk 2 0 ([], []) [foA, foS]
def foU : Fo := .mk 2 0 ([], []) [foS, foT]
theorem foS_L : FoL 100000 foS := L_fo (by decide) (by decide) (by simp)
theorem foT_L : FoL 100000 foT := mk_L fun x hx => by
  rcases List.mem_cons.1 hx with q | q
  · rw [q]; exact foA_L
  · rw [List.mem_singleton.1 q]; exact foS_L
theorem foU_L : FoL 100000 foU := mk_L fun x hx => by
  rcases List.mem_cons.1 hx with q | q
  · rw [q]; exact foS_L
  · rw [List.mem_singleton.1 q]; exact foT_L
theorem lt_AS : kLt wrF foA foS = true := by decide +kernel
theorem sort_ASS : sSort wrF [foS, foA, foS] = [foA, foS, foS] := by
  symm
  refine sSort_is ?_ ?_
  · exact (SP.comm (key := wrF) (xs := [foS]) (ys := [foA]) fun x hx y hy => by rw [List.mem_singleton.1 hx, List.mem_singleton.1 hy]; exact (kLt_ne lt_AS).symm).app (SP.refl [foS])
  · refine List.pairwise_cons.2 ⟨fun x hx => ?_, List.pairwise_cons.2 ⟨fun x hx => ?_, List.pairwise_cons.2 ⟨by simp, List.Pairwise.nil⟩⟩⟩
    · have : x = foS := by simpa using hx
      rw [this]; exact kLt_asym lt_AS
    · have : x = foS := by simpa using hx
      rw [this]; exact kLt_irr _
theorem sort_AS : sSort wrF [foA, foS] = [foA, foS] := by
  symm
  refine sSort_is (SP.refl _) (List.pairwise_cons.2 ⟨fun x hx => ?_, List.pairwise_cons.2 ⟨by simp, List.Pairwise.nil⟩⟩)
  rw [List.mem_singleton.1 hx]; exact kLt_asym lt_AS
theorem sort_AA : sSort wrF [foA, foA] = [foA, foA] := by
  symm
  refine sSort_is (SP.refl _) (List.pairwise_cons.2 ⟨fun x hx => ?_, List.pairwise_cons.2 ⟨by simp, List.Pairwise.nil⟩⟩)
  rw [List.mem_singleton.1 hx]; exact kLt_irr _
theorem sort_A : sSort wrF [foA] = [foA] := by
  symm
  exact sSort_is (SP.refl _) (List.pairwise_cons.2 ⟨by simp, List.Pairwise.nil⟩)
theorem shA : foA.sh = foA := by unfold foA; rw [Fo.sh, if_pos rfl]
theorem shS : foS.sh = foS := by unfold foS; rw [Fo.sh, if_pos rfl]
theorem sh_2 (l : List Fo) : (Fo.mk 2 0 ([], []) l).sh = joF 2 (shL l) := by rw [Fo.sh, if_neg (by decide), if_neg (by decide)]
theorem shT : foT.sh = foT := by
  unfold foT
  rw [sh_2, show shL [foA, foS] = [foA, foS] by simp [shL, shA, shS]]
  unfold joF
  rw [show flF 2 [foA, foS] = [foA, foS] from rfl, if_neg (by decide +kernel), sort_AS]
  exact (foE_iff _ _).1 (by decide +kernel)
theorem shU : foU.sh = foT := by
  unfold foU
  rw [sh_2, show shL [foS, foT] = [foS, foT] by simp [shL, shT, shS]]
  unfold joF
  rw [show flF 2 [foS, foT] = [foS, foA, foS] from rfl, if_neg (by decide +kernel), sort_ASS]
  exact (foE_iff _ _).1 (by decide +kernel)
theorem shAA : (Fo.mk 2 0 ([], []) [foA, foA]).sh = foA := by
  rw [sh_2, show shL [foA, foA] = [foA, foA] by simp [shL, shA]]
  unfold joF
  rw [show flF 2 [foA, foA] = [foA, foA] from rfl, if_neg (by decide +kernel), sort_AA]
  exact (foE_iff _ _).1 (by decide +kernel)
theorem shA1 : (Fo.mk 2 0 ([], []) [foA]).sh = foA := by
  rw [sh_2, show shL [foA] = [foA] by simp [shL, shA]]
  unfold joF
  rw [show flF 2 [foA] = [foA] from rfl, if_neg (by decide +kernel), sort_A]
  exact (foE_iff _ _).1 (by decide +kernel)
theorem foT_R : foR foT = true := by decide +kernel
theorem ofU : ofE foU = 0 ∧ ofF foU = foT := by
  have e : ofE foU = 0 := by unfold ofE; rw [if_pos (by decide +kernel), shU, if_pos foT_R]
  exact ⟨e, by unfold ofF; rw [if_pos e, shU]⟩
theorem ofT : ofE foT = 0 ∧ ofF foT = foT := by
  have e : ofE foT = 0 := by unfold ofE; rw [if_pos foT_R, shT, if_pos foT_R]
  exact ⟨e, by unfold ofF; rw [if_pos e, shT]⟩
theorem ofAA : ofE (.mk 2 0 ([], []) [foA, foA]) = 0 ∧ ofF (.mk 2 0 ([], []) [foA, foA]) = foA := by
  have e : ofE (.mk 2 0 ([], []) [foA, foA]) = 0 := by unfold ofE; rw [if_pos (by decide +kernel), shAA, if_pos foA_R]
  exact ⟨e, by unfold ofF; rw [if_pos e, shAA]⟩
theorem ofA1 : ofE (.mk 2 0 ([], []) [foA]) = 0 ∧ ofF (.mk 2 0 ([], []) [foA]) = foA := by
  have e : ofE (.mk 2 0 ([], []) [foA]) = 0 := by unfold ofE; rw [if_pos (by decide +kernel), shA1, if_pos foA_R]
  exact ⟨e, by unfold ofF; rw [if_pos e, shA1]⟩
theorem isT : isF foT = true := by unfold isF; rw [ofT.1, ofT.2]; decide +kernel
theorem isA1 : isF (.mk 2 0 ([], []) [foA]) = false := by unfold isF; rw [ofA1.1, ofA1.2]; decide +kernel
theorem of0 : ofE (.mk 0 0 ([], []) []) = 11 := by unfold ofE; rw [fo0_R]; rfl
theorem foA_n : foA.nodes = 1 := by decide +kernel
theorem foT_n : foT.nodes = 3 := by decide +kernel
theorem foU_n : foU.nodes = 5 := by decide +kernel
@[go_sem high] theorem fieldOp (b c d e : Value) (n : Int) (w : World) : (Instr.field 26 (.agg #[.int .i64 n, b, c, d, e]) 0).run Try.prog w = .ok (.int .i64 n) w := by kernel_rfl
theorem two_R : foR (.mk 2 0 ([], []) []) = true := by decide +kernel
set_option maxRecDepth 100000 in
set_option maxHeartbeats 8000000 in
theorem first13_any (W : World) : Calls Try.prog 10 #[] W fun e w' => e = .returned (.bool true) ∧ Ext W w' := by
  have st := Own.startOld W
  (try simp only [nsl, Value.cells, unB] at st)
  (try clear hc); have hc := st.facts; (try simp only [nfl, nft, Nat.reduceAdd] at hc)
  go_enter Try.func10, Try.ntmps10
  go_wp2_with ((first
        | ((with_reducible refine wl_alloc ?_ (fun K hK => ?_)); rfl; refine owp_alloc (o := ⟨some 1, _, _, _, _, _⟩) rfl st ?_; apply Exists.intro; apply Exists.intro; refine ⟨?_, ?_⟩; (focus (first | (go_simp; done) | (go_simp; rfl))); (clear st; intro b1 w hb st; clear hb))
        | ((with_reducible refine wl_alloc ?_ (fun K hK => ?_)); rfl; refine owp_alloc (o := ⟨some 2, _, _, _, _, _⟩) rfl st ?_; apply Exists.intro; apply Exists.intro; refine ⟨?_, ?_⟩; (focus (first | (go_simp; done) | (go_simp; rfl))); (clear st; intro b2 w hb st; clear hb))
        | ((with_reducible refine wl_store ?_ (fun K hK => ?_)); rfl; refine owp_store rfl st ?_; apply Exists.intro; apply Exists.intro; refine ⟨?_, ?_, ?_⟩; (focus (go_simp; try rfl)); (focus (go_simp; try rfl)); (first | (with_reducible refine ⟨0, _, _, _, _, get0, rfl, rfl, ?_, ?_, ?_, ?_⟩) | (with_reducible refine ⟨1, _, _, _, _, get1, rfl, rfl, ?_, ?_, ?_, ?_⟩) | (with_reducible refine ⟨2, _, _, _, _, get2, rfl, rfl, ?_, ?_, ?_, ?_⟩) | (with_reducible refine ⟨3, _, _, _, _, get3, rfl, rfl, ?_, ?_, ?_, ?_⟩) | (with_reducible refine ⟨4, _, _, _, _, get4, rfl, rfl, ?_, ?_, ?_, ?_⟩) | (with_reducible refine ⟨5, _, _, _, _, get5, rfl, rfl, ?_, ?_, ?_, ?_⟩) | (with_reducible refine ⟨6, _, _, _, _, get6, rfl, rfl, ?_, ?_, ?_, ?_⟩) | (with_reducible refine ⟨7, _, _, _, _, get7, rfl, rfl, ?_, ?_, ?_, ?_⟩) | (with_reducible refine ⟨8, _, _, _, _, get8, rfl, rfl, ?_, ?_, ?_, ?_⟩)); (kernel_rfl); (simp [Value.cells]); (rfl); (clear st; intro w st))
        | ((with_reducible refine wl_buildSlice ?_ (fun K hK => ?_)); rfl; refine owp_buildSlice (o := ⟨some 16, _, _, _, _, _⟩) rfl st ?_; apply Exists.intro; apply Exists.intro; apply Exists.intro; apply Exists.intro; refine ⟨?_, ?_⟩; (focus (go_simp; (first | done | exact ⟨⟨rfl, rfl⟩, rfl⟩ | rfl))); (clear st; intro b16 w hb st; clear hb))
        | ((with_reducible refine wl_alloc ?_ (fun K hK => ?_)); rfl; refine owp_alloc (o := ⟨some 3, _, _, _, _, _⟩) rfl st ?_; apply Exists.intro; apply Exists.intro; refine ⟨?_, ?_⟩; (focus (first | (go_simp; done) | (go_simp; rfl))); (clear st; intro b3 w hb st; clear hb))
        | ((with_reducible refine wl_buildSlice ?_ (fun K hK => ?_)); rfl; refine owp_buildSlice (o := ⟨some 21, _, _, _, _, _⟩) rfl st ?_; apply Exists.intro; apply Exists.intro; apply Exists.intro; apply Exists.intro; refine ⟨?_, ?_⟩; (focus (go_simp; (first | done | exact ⟨⟨rfl, rfl⟩, rfl⟩ | rfl))); (clear st; intro b21 w hb st; clear hb))
        | ((with_reducible refine wl_alloc ?_ (fun K hK => ?_)); rfl; refine owp_alloc (o := ⟨some 4, _, _, _, _, _⟩) rfl st ?_; apply Exists.intro; apply Exists.intro; refine ⟨?_, ?_⟩; (focus (first | (go_simp; done) | (go_simp; rfl))); (clear st; intro b4 w hb st; clear hb))
        | ((with_reducible refine wl_alloc ?_ (fun K hK => ?_)); rfl; refine owp_alloc (o := ⟨some 6, _, _, _, _, _⟩) rfl st ?_; apply Exists.intro; apply Exists.intro; refine ⟨?_, ?_⟩; (focus (first | (go_simp; done) | (go_simp; rfl))); (clear st; intro b6 w hb st; clear hb))
        | ((with_reducible refine wl_alloc ?_ (fun K hK => ?_)); rfl; refine owp_alloc (o := ⟨some 8, _, _, _, _, _⟩) rfl st ?_; apply Exists.intro; apply Exists.intro; refine ⟨?_, ?_⟩; (focus (first | (go_simp; done) | (go_simp; rfl))); (clear st; intro b8 w hb st; clear hb))
        | ((with_reducible refine wl_buildSlice ?_ (fun K hK => ?_)); rfl; refine owp_buildSlice (o := ⟨some 63, _, _, _, _, _⟩) rfl st ?_; apply Exists.intro; apply Exists.intro; apply Exists.intro; apply Exists.intro; refine ⟨?_, ?_⟩; (focus (go_simp; (first | done | exact ⟨⟨rfl, rfl⟩, rfl⟩ | rfl))); (clear st; intro b63 w hb st; clear hb))); (try simp only [nsl, Value.cells, unB] at st); (try clear hc); have hc := st.facts; (try simp only [nfl, nft, Nat.reduceAdd] at hc))
  replace st := (st.blkToFl (i := 3) (n := 2) [fmA, fmS2] get3 rfl rfl).bare (I := fmsI [fmA, fmS2]) (fun f hf => by
    rcases List.mem_cons.1 hf with e | e
    · rw [e]; exact FmIn.mk ⟨Nat.le_refl _, by simp [maxLen]⟩ (Fl.nil _ _) (fun h => by omega) (by simp)
    · rw [List.mem_singleton.1 e]; exact FmIn.mk ⟨Nat.le_refl _, by simp [maxLen]⟩ (Fl.nil _ _) (fun h => by omega) (by simp))
  simp only [List.set, List.cons_append, List.nil_append] at st
  replace st := st.mkFm (i := 3) (j := 6) get3 get6 2 0 ([], []) 2 ⟨Nat.le_refl _, by simp [maxLen]⟩
  simp only [List.cons_append, List.nil_append] at st
  replace st := ((st.blkToFl (i := 5) (n := 2) [fmS2, .mk 2 0 ([], []) (some ⟨b16, 0, none⟩) 2 2 [fmA, fmS2]] get5 rfl rfl).bare (I := fmI fmS2) (FmIn.mk ⟨Nat.le_refl _, by simp [maxLen]⟩ (Fl.nil _ _) (fun h => by omega) (by simp)))
  simp only [List.set, List.cons_append, List.nil_append] at st
  replace st := st.fmsTwo (i := 8) (j := 7) get8 get7
  simp only [List.cons_append, List.nil_append] at st
  replace st := st.mkFm (i := 5) (j := 9) get5 get9 2 0 ([], []) 2 ⟨Nat.le_refl _, by simp [maxLen]⟩
  simp only [List.cons_append, List.nil_append] at st
  have HO1 := Lib.hid (fun fr al W st => show Calls Try.prog _ _ _ (fun e w' => FmTold fr al W [fmI (.mk 2 0 ([], []) (some ⟨b21, 0, none⟩) 2 2 [fmS2, .mk 2 0 ([], []) (some ⟨b16, 0, none⟩) 2 2 [fmA, fmS2]])] foT 0 e w') from by
    have h := normOf_c (.mk 2 0 ([], []) (some ⟨b21, 0, none⟩) 2 2 [fmS2, .mk 2 0 ([], []) (some ⟨b16, 0, none⟩) 2 2 [fmA, fmS2]]) (fr := fr) (al := al) (W := W) st (show foU.nodes ≤ 1000000 by rw [foU_n]; decide) (show FoL 100000 foU from foU_L)
    have e : (Fm.mk 2 0 ([], []) (some ⟨b21, 0, none⟩) 2 2 [fmS2, .mk 2 0 ([], []) (some ⟨b16, 0, none⟩) 2 2 [fmA, fmS2]]).strip = foU := rfl
    rw [e, ofU.1, ofU.2] at h
    exact h)
  have HO2 := Lib.hid (fun fr al W st => show Calls Try.prog _ _ _ (fun e w' => FmTold fr al W [fmI fmA, fmI fmA] foA 0 e w') from by
    have h := normBoth_c fmA fmA (fr := fr) (al := al) (W := W) st (show foA.nodes ≤ 400000 by rw [foA_n]; decide) (show foA.nodes ≤ 400000 by rw [foA_n]; decide) (show FoL 100000 foA from foA_L) (show FoL 100000 foA from foA_L)
    rw [fmA_strip, ofAA.1, ofAA.2] at h
    exact h)
  have HO3 := Lib.hid (fun fr al W st => show Calls Try.prog _ _ _ (fun e w' => FmTold fr al W [fmI (.mk 0 0 ([], []) none 0 0 [])] (ofF (.mk 0 0 ([], []) [])) 11 e w') from by
    have h := normOf_c (.mk 0 0 ([], []) none 0 0 []) (fr := fr) (al := al) (W := W) st (by decide +kernel) (L_fo (by decide) (by decide) (by simp [stripL]))
    rw [show (Fm.mk 0 0 ([], []) none 0 0 []).strip = .mk 0 0 ([], []) [] from rfl, of0] at h
    exact h)
  obtain ⟨tm, htm⟩ : ∃ q, Fm.mk 2 0 ([], []) (some ⟨b16, 0, none⟩) 2 2 [fmA, fmS2] = q := ⟨_, rfl⟩
  have HTS : Hid (tm.strip = foT) := Lib.hid (by rw [← htm]; rfl)
  have HTV : Hid (fmV tm = .agg #[.int .i64 2, .int .i64 0, .string ⟨#[]⟩, .string ⟨#[]⟩, .slice (some ⟨b16, 0, none⟩) 2 2]) := Lib.hid (by rw [← htm]; rfl)
  rw [htm] at HO1 st
  clear htm
  rw [show fmV (Fm.mk 2 0 ([], []) (some ⟨b21, 0, none⟩) 2 2 [fmS2, tm]) = .agg #[.int .i64 2, .int .i64 0, .string ⟨#[]⟩, .string ⟨#[]⟩, .slice (some ⟨b21, 0, none⟩) 2 2] from rfl] at HO1
  rw [show fmV fmA = .agg #[.int .i64 1, .int .i64 0, .string ⟨#[97]⟩, .string ⟨#[114]⟩, .slice none 0 0] from rfl] at HO2
  rw [show fmV (Fm.mk 0 0 ([], []) none 0 0 []) = .agg #[.int .i64 0, .int .i64 0, .string ⟨#[]⟩, .string ⟨#[]⟩, .slice none 0 0] from rfl] at HO3
  (try simp only [nsl, Value.cells, unB] at st)
  (try clear hc); have hc := st.facts; (try simp only [nfl, nft, Nat.reduceAdd] at hc)
  obtain ⟨fr', al', st', back⟩ := st.sub [10] (by decide) (by simp)
  (try simp only [nsl, Value.cells, unB] at st')
  refine (HO1.out _ _ _ st').mono ?_
  clear st'
  rintro en w ⟨gx, rfl, hg, st'⟩
  replace st := back _ _ (by simp) st'
  clear back st'
  (try simp only [nsl, Value.cells, unB] at st)
  (try clear hc); have hc := st.facts; (try simp only [nfl, nft, Nat.reduceAdd] at hc)
  have HSM1 := Lib.hid (fun W' h1 h2 => (pB_t (hg.trans HTS.out.symm)) ▸ fmSame_any gx tm W' h1 h2)
  clear hg HO1
  have st9 := st.keep [0, 1, 4, 7, 11] (by decide) (by simp)
  simp only [pick, List.map_cons, List.map_nil, List.getElem?_cons_zero, List.getElem?_cons_succ, Option.getD_some] at st9
  clear st
  have st := st9
  clear st9
  rw [HTV.out] at HSM1
  obtain ⟨gv, hgv⟩ : ∃ q, gx = q := ⟨_, rfl⟩
  obtain ⟨op', k', ⟨o', d'⟩, a', n', c', kids'⟩ := gx
  have HGV : Hid (fmV gv = .agg #[.int .i64 op', .int .i64 k', .string ⟨o'.toArray⟩, .string ⟨d'.toArray⟩, .slice a' n' c']) := Lib.hid (by rw [← hgv]; rfl)
  rw [hgv] at HSM1 st ⊢
  rw [HGV.out] at HSM1 ⊢
  clear hgv
  (try simp only [nsl, Value.cells, unB] at st)
  (try clear hc); have hc := st.facts; (try simp only [nfl, nft, Nat.reduceAdd] at hc)
  go_wp2_with ((first
        | ((with_reducible refine wl_alloc ?_ (fun K hK => ?_)); rfl; refine owp_alloc (o := ⟨some 1, _, _, _, _, _⟩) rfl st ?_; apply Exists.intro; apply Exists.intro; refine ⟨?_, ?_⟩; (focus (first | (go_simp; done) | (go_simp; rfl))); (clear st; intro b1 w hb st; clear hb))
        | ((with_reducible refine wl_alloc ?_ (fun K hK => ?_)); rfl; refine owp_alloc (o := ⟨some 2, _, _, _, _, _⟩) rfl st ?_; apply Exists.intro; apply Exists.intro; refine ⟨?_, ?_⟩; (focus (first | (go_simp; done) | (go_simp; rfl))); (clear st; intro b2 w hb st; clear hb))
        | ((with_reducible refine wl_store ?_ (fun K hK => ?_)); rfl; refine owp_store rfl st ?_; apply Exists.intro; apply Exists.intro; refine ⟨?_, ?_, ?_⟩; (focus (go_simp; try rfl)); (focus (go_simp; try rfl)); (first | (with_reducible refine ⟨0, _, _, _, _, get0, rfl, rfl, ?_, ?_, ?_, ?_⟩) | (with_reducible refine ⟨1, _, _, _, _, get1, rfl, rfl, ?_, ?_, ?_, ?_⟩) | (with_reducible refine ⟨2, _, _, _, _, get2, rfl, rfl, ?_, ?_, ?_, ?_⟩) | (with_reducible refine ⟨3, _, _, _, _, get3, rfl, rfl, ?_, ?_, ?_, ?_⟩) | (with_reducible refine ⟨4, _, _, _, _, get4, rfl, rfl, ?_, ?_, ?_, ?_⟩) | (with_reducible refine ⟨5, _, _, _, _, get5, rfl, rfl, ?_, ?_, ?_, ?_⟩) | (with_reducible refine ⟨6, _, _, _, _, get6, rfl, rfl, ?_, ?_, ?_, ?_⟩) | (with_reducible refine ⟨7, _, _, _, _, get7, rfl, rfl, ?_, ?_, ?_, ?_⟩) | (with_reducible refine ⟨8, _, _, _, _, get8, rfl, rfl, ?_, ?_, ?_, ?_⟩)); (kernel_rfl); (simp [Value.cells]); (rfl); (clear st; intro w st))
        | ((with_reducible refine wl_buildSlice ?_ (fun K hK => ?_)); rfl; refine owp_buildSlice (o := ⟨some 16, _, _, _, _, _⟩) rfl st ?_; apply Exists.intro; apply Exists.intro; apply Exists.intro; apply Exists.intro; refine ⟨?_, ?_⟩; (focus (go_simp; (first | done | exact ⟨⟨rfl, rfl⟩, rfl⟩ | rfl))); (clear st; intro b16 w hb st; clear hb))
        | ((with_reducible refine wl_alloc ?_ (fun K hK => ?_)); rfl; refine owp_alloc (o := ⟨some 3, _, _, _, _, _⟩) rfl st ?_; apply Exists.intro; apply Exists.intro; refine ⟨?_, ?_⟩; (focus (first | (go_simp; done) | (go_simp; rfl))); (clear st; intro b3 w hb st; clear hb))
        | ((with_reducible refine wl_buildSlice ?_ (fun K hK => ?_)); rfl; refine owp_buildSlice (o := ⟨some 21, _, _, _, _, _⟩) rfl st ?_; apply Exists.intro; apply Exists.intro; apply Exists.intro; apply Exists.intro; refine ⟨?_, ?_⟩; (focus (go_simp; (first | done | exact ⟨⟨rfl, rfl⟩, rfl⟩ | rfl))); (clear st; intro b21 w hb st; clear hb))
        | ((with_reducible refine wl_alloc ?_ (fun K hK => ?_)); rfl; refine owp_alloc (o := ⟨some 4, _, _, _, _, _⟩) rfl st ?_; apply Exists.intro; apply Exists.intro; refine ⟨?_, ?_⟩; (focus (first | (go_simp; done) | (go_simp; rfl))); (clear st; intro b4 w hb st; clear hb))
        | ((with_reducible refine wl_alloc ?_ (fun K hK => ?_)); rfl; refine owp_alloc (o := ⟨some 6, _, _, _, _, _⟩) rfl st ?_; apply Exists.intro; apply Exists.intro; refine ⟨?_, ?_⟩; (focus (first | (go_simp; done) | (go_simp; rfl))); (clear st; intro b6 w hb st; clear hb))
        | ((with_reducible refine wl_alloc ?_ (fun K hK => ?_)); rfl; refine owp_alloc (o := ⟨some 8, _, _, _, _, _⟩) rfl st ?_; apply Exists.intro; apply Exists.intro; refine ⟨?_, ?_⟩; (focus (first | (go_simp; done) | (go_simp; rfl))); (clear st; intro b8 w hb st; clear hb))
        | ((with_reducible refine wl_buildSlice ?_ (fun K hK => ?_)); rfl; refine owp_buildSlice (o := ⟨some 63, _, _, _, _, _⟩) rfl st ?_; apply Exists.intro; apply Exists.intro; apply Exists.intro; apply Exists.intro; refine ⟨?_, ?_⟩; (focus (go_simp; (first | done | exact ⟨⟨rfl, rfl⟩, rfl⟩ | rfl))); (clear st; intro b63 w hb st; clear hb))); (try simp only [nsl, Value.cells, unB] at st); (try clear hc); have hc := st.facts; (try simp only [nfl, nft, Nat.reduceAdd] at hc))
  replace st := (st.bare (I := fmI fmA) (FmIn.mk ⟨Nat.le_refl _, by simp [maxLen]⟩ (Fl.nil _ _) (fun h => by omega) (by simp))).bare (I := fmI fmA) (FmIn.mk ⟨Nat.le_refl _, by simp [maxLen]⟩ (Fl.nil _ _) (fun h => by omega) (by simp))
  simp only [List.cons_append, List.nil_append] at st
  (try simp only [nsl, Value.cells, unB] at st)
  (try clear hc); have hc := st.facts; (try simp only [nfl, nft, Nat.reduceAdd] at hc)
  obtain ⟨fr', al', st', back⟩ := st.sub [6, 7] (by decide) (by simp)
  (try simp only [nsl, Value.cells, unB] at st')
  refine (HO2.out _ _ _ st').mono ?_
  clear st'
  rintro en w ⟨gy, rfl, hg, st'⟩
  replace st := back _ _ (by simp) st'
  clear back st'
  (try simp only [nsl, Value.cells, unB] at st)
  (try clear hc); have hc := st.facts; (try simp only [nfl, nft, Nat.reduceAdd] at hc)
  have HSM2 := Lib.hid (fun W' h1 h2 => (pB_t (show gy.strip = fmA.strip from hg)) ▸ fmSame_any gy fmA W' h1 h2)
  rw [show fmV fmA = .agg #[.int .i64 1, .int .i64 0, .string ⟨#[97]⟩, .string ⟨#[114]⟩, .slice none 0 0] from rfl] at HSM2
  clear hg HO2
  have st9 := st.keep [0, 1, 2, 3, 4, 5, 8] (by decide) (by simp)
  simp only [pick, List.map_cons, List.map_nil, List.getElem?_cons_zero, List.getElem?_cons_succ, Option.getD_some] at st9
  clear st
  have st := st9
  clear st9
  obtain ⟨gw, hgw⟩ : ∃ q, gy = q := ⟨_, rfl⟩
  obtain ⟨op2, k2, ⟨o2, d2⟩, a2, n2, c2, kids2⟩ := gy
  have HGW : Hid (fmV gw = .agg #[.int .i64 op2, .int .i64 k2, .string ⟨o2.toArray⟩, .string ⟨d2.toArray⟩, .slice a2 n2 c2]) := Lib.hid (by rw [← hgw]; rfl)
  rw [hgw] at HSM2 st ⊢
  rw [HGW.out] at HSM2 ⊢
  clear hgw
  (try simp only [nsl, Value.cells, unB] at st)
  (try clear hc); have hc := st.facts; (try simp only [nfl, nft, Nat.reduceAdd] at hc)
  go_wp2_with ((first
        | ((with_reducible refine wl_alloc ?_ (fun K hK => ?_)); rfl; refine owp_alloc (o := ⟨some 1, _, _, _, _, _⟩) rfl st ?_; apply Exists.intro; apply Exists.intro; refine ⟨?_, ?_⟩; (focus (first | (go_simp; done) | (go_simp; rfl))); (clear st; intro b1 w hb st; clear hb))
        | ((with_reducible refine wl_alloc ?_ (fun K hK => ?_)); rfl; refine owp_alloc (o := ⟨some 2, _, _, _, _, _⟩) rfl st ?_; apply Exists.intro; apply Exists.intro; refine ⟨?_, ?_⟩; (focus (first | (go_simp; done) | (go_simp; rfl))); (clear st; intro b2 w hb st; clear hb))
        | ((with_reducible refine wl_store ?_ (fun K hK => ?_)); rfl; refine owp_store rfl st ?_; apply Exists.intro; apply Exists.intro; refine ⟨?_, ?_, ?_⟩; (focus (go_simp; try rfl)); (focus (go_simp; try rfl)); (first | (with_reducible refine ⟨0, _, _, _, _, get0, rfl, rfl, ?_, ?_, ?_, ?_⟩) | (with_reducible refine ⟨1, _, _, _, _, get1, rfl, rfl, ?_, ?_, ?_, ?_⟩) | (with_reducible refine ⟨2, _, _, _, _, get2, rfl, rfl, ?_, ?_, ?_, ?_⟩) | (with_reducible refine ⟨3, _, _, _, _, get3, rfl, rfl, ?_, ?_, ?_, ?_⟩) | (with_reducible refine ⟨4, _, _, _, _, get4, rfl, rfl, ?_, ?_, ?_, ?_⟩) | (with_reducible refine ⟨5, _, _, _, _, get5, rfl, rfl, ?_, ?_, ?_, ?_⟩) | (with_reducible refine ⟨6, _, _, _, _, get6, rfl, rfl, ?_, ?_, ?_, ?_⟩) | (with_reducible refine ⟨7, _, _, _, _, get7, rfl, rfl, ?_, ?_, ?_, ?_⟩) | (with_reducible refine ⟨8, _, _, _, _, get8, rfl, rfl, ?_, ?_, ?_, ?_⟩)); (kernel_rfl); (simp [Value.cells]); (rfl); (clear st; intro w st))
        | ((with_reducible refine wl_buildSlice ?_ (fun K hK => ?_)); rfl; refine owp_buildSlice (o := ⟨some 16, _, _, _, _, _⟩) rfl st ?_; apply Exists.intro; apply Exists.intro; apply Exists.intro; apply Exists.intro; refine ⟨?_, ?_⟩; (focus (go_simp; (first | done | exact ⟨⟨rfl, rfl⟩, rfl⟩ | rfl))); (clear st; intro b16 w hb st; clear hb))
        | ((with_reducible refine wl_alloc ?_ (fun K hK => ?_)); rfl; refine owp_alloc (o := ⟨some 3, _, _, _, _, _⟩) rfl st ?_; apply Exists.intro; apply Exists.intro; refine ⟨?_, ?_⟩; (focus (first | (go_simp; done) | (go_simp; rfl))); (clear st; intro b3 w hb st; clear hb))
        | ((with_reducible refine wl_buildSlice ?_ (fun K hK => ?_)); rfl; refine owp_buildSlice (o := ⟨some 21, _, _, _, _, _⟩) rfl st ?_; apply Exists.intro; apply Exists.intro; apply Exists.intro; apply Exists.intro; refine ⟨?_, ?_⟩; (focus (go_simp; (first | done | exact ⟨⟨rfl, rfl⟩, rfl⟩ | rfl))); (clear st; intro b21 w hb st; clear hb))
        | ((with_reducible refine wl_alloc ?_ (fun K hK => ?_)); rfl; refine owp_alloc (o := ⟨some 4, _, _, _, _, _⟩) rfl st ?_; apply Exists.intro; apply Exists.intro; refine ⟨?_, ?_⟩; (focus (first | (go_simp; done) | (go_simp; rfl))); (clear st; intro b4 w hb st; clear hb))
        | ((with_reducible refine wl_alloc ?_ (fun K hK => ?_)); rfl; refine owp_alloc (o := ⟨some 6, _, _, _, _, _⟩) rfl st ?_; apply Exists.intro; apply Exists.intro; refine ⟨?_, ?_⟩; (focus (first | (go_simp; done) | (go_simp; rfl))); (clear st; intro b6 w hb st; clear hb))
        | ((with_reducible refine wl_alloc ?_ (fun K hK => ?_)); rfl; refine owp_alloc (o := ⟨some 8, _, _, _, _, _⟩) rfl st ?_; apply Exists.intro; apply Exists.intro; refine ⟨?_, ?_⟩; (focus (first | (go_simp; done) | (go_simp; rfl))); (clear st; intro b8 w hb st; clear hb))
        | ((with_reducible refine wl_buildSlice ?_ (fun K hK => ?_)); rfl; refine owp_buildSlice (o := ⟨some 63, _, _, _, _, _⟩) rfl st ?_; apply Exists.intro; apply Exists.intro; apply Exists.intro; apply Exists.intro; refine ⟨?_, ?_⟩; (focus (go_simp; (first | done | exact ⟨⟨rfl, rfl⟩, rfl⟩ | rfl))); (clear st; intro b63 w hb st; clear hb))); (try simp only [nsl, Value.cells, unB] at st); (try clear hc); have hc := st.facts; (try simp only [nfl, nft, Nat.reduceAdd] at hc))
  replace st := st.bare (I := fmI (.mk 0 0 ([], []) none 0 0 [])) (fm_bare _ _ _ _)
  simp only [List.cons_append, List.nil_append] at st
  (try simp only [nsl, Value.cells, unB] at st)
  (try clear hc); have hc := st.facts; (try simp only [nfl, nft, Nat.reduceAdd] at hc)
  obtain ⟨fr', al', st', back⟩ := st.sub [8] (by decide) (by simp)
  (try simp only [nsl, Value.cells, unB] at st')
  refine (HO3.out _ _ _ st').mono ?_
  clear st'
  rintro en w ⟨gz, rfl, hg, st'⟩
  replace st := back _ _ (by simp) st'
  clear back st'
  (try simp only [nsl, Value.cells, unB] at st)
  (try clear hc); have hc := st.facts; (try simp only [nfl, nft, Nat.reduceAdd] at hc)
  clear hg HO3
  have st9 := st.keep [0, 1, 2, 3, 4, 5, 6, 7] (by decide) (by simp)
  simp only [pick, List.map_cons, List.map_nil, List.getElem?_cons_zero, List.getElem?_cons_succ, Option.getD_some] at st9
  clear st
  have st := st9
  clear st9
  obtain ⟨op3, k3, ⟨o3, d3⟩, a3, n3, c3, kids3⟩ := gz
  unfold fmV S
  simp only
  (try simp only [nsl, Value.cells, unB] at st)
  (try clear hc); have hc := st.facts; (try simp only [nfl, nft, Nat.reduceAdd] at hc)
  go_wp2_with ((first
        | ((with_reducible refine wl_alloc ?_ (fun K hK => ?_)); rfl; refine owp_alloc (o := ⟨some 1, _, _, _, _, _⟩) rfl st ?_; apply Exists.intro; apply Exists.intro; refine ⟨?_, ?_⟩; (focus (first | (go_simp; done) | (go_simp; rfl))); (clear st; intro b1 w hb st; clear hb))
        | ((with_reducible refine wl_alloc ?_ (fun K hK => ?_)); rfl; refine owp_alloc (o := ⟨some 2, _, _, _, _, _⟩) rfl st ?_; apply Exists.intro; apply Exists.intro; refine ⟨?_, ?_⟩; (focus (first | (go_simp; done) | (go_simp; rfl))); (clear st; intro b2 w hb st; clear hb))
        | ((with_reducible refine wl_store ?_ (fun K hK => ?_)); rfl; refine owp_store rfl st ?_; apply Exists.intro; apply Exists.intro; refine ⟨?_, ?_, ?_⟩; (focus (go_simp; try rfl)); (focus (go_simp; try rfl)); (first | (with_reducible refine ⟨0, _, _, _, _, get0, rfl, rfl, ?_, ?_, ?_, ?_⟩) | (with_reducible refine ⟨1, _, _, _, _, get1, rfl, rfl, ?_, ?_, ?_, ?_⟩) | (with_reducible refine ⟨2, _, _, _, _, get2, rfl, rfl, ?_, ?_, ?_, ?_⟩) | (with_reducible refine ⟨3, _, _, _, _, get3, rfl, rfl, ?_, ?_, ?_, ?_⟩) | (with_reducible refine ⟨4, _, _, _, _, get4, rfl, rfl, ?_, ?_, ?_, ?_⟩) | (with_reducible refine ⟨5, _, _, _, _, get5, rfl, rfl, ?_, ?_, ?_, ?_⟩) | (with_reducible refine ⟨6, _, _, _, _, get6, rfl, rfl, ?_, ?_, ?_, ?_⟩) | (with_reducible refine ⟨7, _, _, _, _, get7, rfl, rfl, ?_, ?_, ?_, ?_⟩) | (with_reducible refine ⟨8, _, _, _, _, get8, rfl, rfl, ?_, ?_, ?_, ?_⟩)); (kernel_rfl); (simp [Value.cells]); (rfl); (clear st; intro w st))
        | ((with_reducible refine wl_buildSlice ?_ (fun K hK => ?_)); rfl; refine owp_buildSlice (o := ⟨some 16, _, _, _, _, _⟩) rfl st ?_; apply Exists.intro; apply Exists.intro; apply Exists.intro; apply Exists.intro; refine ⟨?_, ?_⟩; (focus (go_simp; (first | done | exact ⟨⟨rfl, rfl⟩, rfl⟩ | rfl))); (clear st; intro b16 w hb st; clear hb))
        | ((with_reducible refine wl_alloc ?_ (fun K hK => ?_)); rfl; refine owp_alloc (o := ⟨some 3, _, _, _, _, _⟩) rfl st ?_; apply Exists.intro; apply Exists.intro; refine ⟨?_, ?_⟩; (focus (first | (go_simp; done) | (go_simp; rfl))); (clear st; intro b3 w hb st; clear hb))
        | ((with_reducible refine wl_buildSlice ?_ (fun K hK => ?_)); rfl; refine owp_buildSlice (o := ⟨some 21, _, _, _, _, _⟩) rfl st ?_; apply Exists.intro; apply Exists.intro; apply Exists.intro; apply Exists.intro; refine ⟨?_, ?_⟩; (focus (go_simp; (first | done | exact ⟨⟨rfl, rfl⟩, rfl⟩ | rfl))); (clear st; intro b21 w hb st; clear hb))
        | ((with_reducible refine wl_alloc ?_ (fun K hK => ?_)); rfl; refine owp_alloc (o := ⟨some 4, _, _, _, _, _⟩) rfl st ?_; apply Exists.intro; apply Exists.intro; refine ⟨?_, ?_⟩; (focus (first | (go_simp; done) | (go_simp; rfl))); (clear st; intro b4 w hb st; clear hb))
        | ((with_reducible refine wl_alloc ?_ (fun K hK => ?_)); rfl; refine owp_alloc (o := ⟨some 6, _, _, _, _, _⟩) rfl st ?_; apply Exists.intro; apply Exists.intro; refine ⟨?_, ?_⟩; (focus (first | (go_simp; done) | (go_simp; rfl))); (clear st; intro b6 w hb st; clear hb))
        | ((with_reducible refine wl_alloc ?_ (fun K hK => ?_)); rfl; refine owp_alloc (o := ⟨some 8, _, _, _, _, _⟩) rfl st ?_; apply Exists.intro; apply Exists.intro; refine ⟨?_, ?_⟩; (focus (first | (go_simp; done) | (go_simp; rfl))); (clear st; intro b8 w hb st; clear hb))
        | ((with_reducible refine wl_buildSlice ?_ (fun K hK => ?_)); rfl; refine owp_buildSlice (o := ⟨some 63, _, _, _, _, _⟩) rfl st ?_; apply Exists.intro; apply Exists.intro; apply Exists.intro; apply Exists.intro; refine ⟨?_, ?_⟩; (focus (go_simp; (first | done | exact ⟨⟨rfl, rfl⟩, rfl⟩ | rfl))); (clear st; intro b63 w hb st; clear hb))); (try simp only [nsl, Value.cells, unB] at st); (try clear hc); have hc := st.facts; (try simp only [nfl, nft, Nat.reduceAdd] at hc))
  refine (HSM1.out _ (st.fm (i := 4) get4) (st.fm (i := 3) get3)).mono ?_
  rintro en w ⟨rfl, hx⟩
  replace st := st.ext hx
  clear hx
  (try clear hc); have hc := st.facts; (try simp only [nfl, nft, Nat.reduceAdd] at hc)
  go_wp2_with ((first
        | ((with_reducible refine wl_alloc ?_ (fun K hK => ?_)); rfl; refine owp_alloc (o := ⟨some 1, _, _, _, _, _⟩) rfl st ?_; apply Exists.intro; apply Exists.intro; refine ⟨?_, ?_⟩; (focus (first | (go_simp; done) | (go_simp; rfl))); (clear st; intro b1 w hb st; clear hb))
        | ((with_reducible refine wl_alloc ?_ (fun K hK => ?_)); rfl; refine owp_alloc (o := ⟨some 2, _, _, _, _, _⟩) rfl st ?_; apply Exists.intro; apply Exists.intro; refine ⟨?_, ?_⟩; (focus (first | (go_simp; done) | (go_simp; rfl))); (clear st; intro b2 w hb st; clear hb))
        | ((with_reducible refine wl_store ?_ (fun K hK => ?_)); rfl; refine owp_store rfl st ?_; apply Exists.intro; apply Exists.intro; refine ⟨?_, ?_, ?_⟩; (focus (go_simp; try rfl)); (focus (go_simp; try rfl)); (first | (with_reducible refine ⟨0, _, _, _, _, get0, rfl, rfl, ?_, ?_, ?_, ?_⟩) | (with_reducible refine ⟨1, _, _, _, _, get1, rfl, rfl, ?_, ?_, ?_, ?_⟩) | (with_reducible refine ⟨2, _, _, _, _, get2, rfl, rfl, ?_, ?_, ?_, ?_⟩) | (with_reducible refine ⟨3, _, _, _, _, get3, rfl, rfl, ?_, ?_, ?_, ?_⟩) | (with_reducible refine ⟨4, _, _, _, _, get4, rfl, rfl, ?_, ?_, ?_, ?_⟩) | (with_reducible refine ⟨5, _, _, _, _, get5, rfl, rfl, ?_, ?_, ?_, ?_⟩) | (with_reducible refine ⟨6, _, _, _, _, get6, rfl, rfl, ?_, ?_, ?_, ?_⟩) | (with_reducible refine ⟨7, _, _, _, _, get7, rfl, rfl, ?_, ?_, ?_, ?_⟩) | (with_reducible refine ⟨8, _, _, _, _, get8, rfl, rfl, ?_, ?_, ?_, ?_⟩)); (kernel_rfl); (simp [Value.cells]); (rfl); (clear st; intro w st))
        | ((with_reducible refine wl_buildSlice ?_ (fun K hK => ?_)); rfl; refine owp_buildSlice (o := ⟨some 16, _, _, _, _, _⟩) rfl st ?_; apply Exists.intro; apply Exists.intro; apply Exists.intro; apply Exists.intro; refine ⟨?_, ?_⟩; (focus (go_simp; (first | done | exact ⟨⟨rfl, rfl⟩, rfl⟩ | rfl))); (clear st; intro b16 w hb st; clear hb))
        | ((with_reducible refine wl_alloc ?_ (fun K hK => ?_)); rfl; refine owp_alloc (o := ⟨some 3, _, _, _, _, _⟩) rfl st ?_; apply Exists.intro; apply Exists.intro; refine ⟨?_, ?_⟩; (focus (first | (go_simp; done) | (go_simp; rfl))); (clear st; intro b3 w hb st; clear hb))
        | ((with_reducible refine wl_buildSlice ?_ (fun K hK => ?_)); rfl; refine owp_buildSlice (o := ⟨some 21, _, _, _, _, _⟩) rfl st ?_; apply Exists.intro; apply Exists.intro; apply Exists.intro; apply Exists.intro; refine ⟨?_, ?_⟩; (focus (go_simp; (first | done | exact ⟨⟨rfl, rfl⟩, rfl⟩ | rfl))); (clear st; intro b21 w hb st; clear hb))
        | ((with_reducible refine wl_alloc ?_ (fun K hK => ?_)); rfl; refine owp_alloc (o := ⟨some 4, _, _, _, _, _⟩) rfl st ?_; apply Exists.intro; apply Exists.intro; refine ⟨?_, ?_⟩; (focus (first | (go_simp; done) | (go_simp; rfl))); (clear st; intro b4 w hb st; clear hb))
        | ((with_reducible refine wl_alloc ?_ (fun K hK => ?_)); rfl; refine owp_alloc (o := ⟨some 6, _, _, _, _, _⟩) rfl st ?_; apply Exists.intro; apply Exists.intro; refine ⟨?_, ?_⟩; (focus (first | (go_simp; done) | (go_simp; rfl))); (clear st; intro b6 w hb st; clear hb))
        | ((with_reducible refine wl_alloc ?_ (fun K hK => ?_)); rfl; refine owp_alloc (o := ⟨some 8, _, _, _, _, _⟩) rfl st ?_; apply Exists.intro; apply Exists.intro; refine ⟨?_, ?_⟩; (focus (first | (go_simp; done) | (go_simp; rfl))); (clear st; intro b8 w hb st; clear hb))
        | ((with_reducible refine wl_buildSlice ?_ (fun K hK => ?_)); rfl; refine owp_buildSlice (o := ⟨some 63, _, _, _, _, _⟩) rfl st ?_; apply Exists.intro; apply Exists.intro; apply Exists.intro; apply Exists.intro; refine ⟨?_, ?_⟩; (focus (go_simp; (first | done | exact ⟨⟨rfl, rfl⟩, rfl⟩ | rfl))); (clear st; intro b63 w hb st; clear hb))); (try simp only [nsl, Value.cells, unB] at st); (try clear hc); have hc := st.facts; (try simp only [nfl, nft, Nat.reduceAdd] at hc))
  refine (HSM2.out _ (st.fm (i := 6) get6) (ok_leaf _ _ _ _)).mono ?_
  rintro en w ⟨rfl, hx⟩
  replace st := st.ext hx
  clear hx
  (try clear hc); have hc := st.facts; (try simp only [nfl, nft, Nat.reduceAdd] at hc)
  go_wp2_with ((first
        | ((with_reducible refine wl_alloc ?_ (fun K hK => ?_)); rfl; refine owp_alloc (o := ⟨some 1, _, _, _, _, _⟩) rfl st ?_; apply Exists.intro; apply Exists.intro; refine ⟨?_, ?_⟩; (focus (first | (go_simp; done) | (go_simp; rfl))); (clear st; intro b1 w hb st; clear hb))
        | ((with_reducible refine wl_alloc ?_ (fun K hK => ?_)); rfl; refine owp_alloc (o := ⟨some 2, _, _, _, _, _⟩) rfl st ?_; apply Exists.intro; apply Exists.intro; refine ⟨?_, ?_⟩; (focus (first | (go_simp; done) | (go_simp; rfl))); (clear st; intro b2 w hb st; clear hb))
        | ((with_reducible refine wl_store ?_ (fun K hK => ?_)); rfl; refine owp_store rfl st ?_; apply Exists.intro; apply Exists.intro; refine ⟨?_, ?_, ?_⟩; (focus (go_simp; try rfl)); (focus (go_simp; try rfl)); (first | (with_reducible refine ⟨0, _, _, _, _, get0, rfl, rfl, ?_, ?_, ?_, ?_⟩) | (with_reducible refine ⟨1, _, _, _, _, get1, rfl, rfl, ?_, ?_, ?_, ?_⟩) | (with_reducible refine ⟨2, _, _, _, _, get2, rfl, rfl, ?_, ?_, ?_, ?_⟩) | (with_reducible refine ⟨3, _, _, _, _, get3, rfl, rfl, ?_, ?_, ?_, ?_⟩) | (with_reducible refine ⟨4, _, _, _, _, get4, rfl, rfl, ?_, ?_, ?_, ?_⟩) | (with_reducible refine ⟨5, _, _, _, _, get5, rfl, rfl, ?_, ?_, ?_, ?_⟩) | (with_reducible refine ⟨6, _, _, _, _, get6, rfl, rfl, ?_, ?_, ?_, ?_⟩) | (with_reducible refine ⟨7, _, _, _, _, get7, rfl, rfl, ?_, ?_, ?_, ?_⟩) | (with_reducible refine ⟨8, _, _, _, _, get8, rfl, rfl, ?_, ?_, ?_, ?_⟩)); (kernel_rfl); (simp [Value.cells]); (rfl); (clear st; intro w st))
        | ((with_reducible refine wl_buildSlice ?_ (fun K hK => ?_)); rfl; refine owp_buildSlice (o := ⟨some 16, _, _, _, _, _⟩) rfl st ?_; apply Exists.intro; apply Exists.intro; apply Exists.intro; apply Exists.intro; refine ⟨?_, ?_⟩; (focus (go_simp; (first | done | exact ⟨⟨rfl, rfl⟩, rfl⟩ | rfl))); (clear st; intro b16 w hb st; clear hb))
        | ((with_reducible refine wl_alloc ?_ (fun K hK => ?_)); rfl; refine owp_alloc (o := ⟨some 3, _, _, _, _, _⟩) rfl st ?_; apply Exists.intro; apply Exists.intro; refine ⟨?_, ?_⟩; (focus (first | (go_simp; done) | (go_simp; rfl))); (clear st; intro b3 w hb st; clear hb))
        | ((with_reducible refine wl_buildSlice ?_ (fun K hK => ?_)); rfl; refine owp_buildSlice (o := ⟨some 21, _, _, _, _, _⟩) rfl st ?_; apply Exists.intro; apply Exists.intro; apply Exists.intro; apply Exists.intro; refine ⟨?_, ?_⟩; (focus (go_simp; (first | done | exact ⟨⟨rfl, rfl⟩, rfl⟩ | rfl))); (clear st; intro b21 w hb st; clear hb))
        | ((with_reducible refine wl_alloc ?_ (fun K hK => ?_)); rfl; refine owp_alloc (o := ⟨some 4, _, _, _, _, _⟩) rfl st ?_; apply Exists.intro; apply Exists.intro; refine ⟨?_, ?_⟩; (focus (first | (go_simp; done) | (go_simp; rfl))); (clear st; intro b4 w hb st; clear hb))
        | ((with_reducible refine wl_alloc ?_ (fun K hK => ?_)); rfl; refine owp_alloc (o := ⟨some 6, _, _, _, _, _⟩) rfl st ?_; apply Exists.intro; apply Exists.intro; refine ⟨?_, ?_⟩; (focus (first | (go_simp; done) | (go_simp; rfl))); (clear st; intro b6 w hb st; clear hb))
        | ((with_reducible refine wl_alloc ?_ (fun K hK => ?_)); rfl; refine owp_alloc (o := ⟨some 8, _, _, _, _, _⟩) rfl st ?_; apply Exists.intro; apply Exists.intro; refine ⟨?_, ?_⟩; (focus (first | (go_simp; done) | (go_simp; rfl))); (clear st; intro b8 w hb st; clear hb))
        | ((with_reducible refine wl_buildSlice ?_ (fun K hK => ?_)); rfl; refine owp_buildSlice (o := ⟨some 63, _, _, _, _, _⟩) rfl st ?_; apply Exists.intro; apply Exists.intro; apply Exists.intro; apply Exists.intro; refine ⟨?_, ?_⟩; (focus (go_simp; (first | done | exact ⟨⟨rfl, rfl⟩, rfl⟩ | rfl))); (clear st; intro b63 w hb st; clear hb))); (try simp only [nsl, Value.cells, unB] at st); (try clear hc); have hc := st.facts; (try simp only [nfl, nft, Nat.reduceAdd] at hc))
  have HI1 := Lib.hid (fun W' (h : FmOk W' tm) => (show isF tm.strip = true by rw [HTS.out]; exact isT) ▸ normIs_any tm W' h (by rw [HTS.out, foT_n]; decide) (by rw [HTS.out]; exact foT_L))
  rw [HTV.out] at HI1
  refine (HI1.out _ (st.fm (i := 3) get3)).mono ?_
  rintro en w ⟨rfl, hx⟩
  replace st := st.ext hx
  clear hx
  (try clear hc); have hc := st.facts; (try simp only [nfl, nft, Nat.reduceAdd] at hc)
  go_wp2_with ((first
        | ((with_reducible refine wl_alloc ?_ (fun K hK => ?_)); rfl; refine owp_alloc (o := ⟨some 1, _, _, _, _, _⟩) rfl st ?_; apply Exists.intro; apply Exists.intro; refine ⟨?_, ?_⟩; (focus (first | (go_simp; done) | (go_simp; rfl))); (clear st; intro b1 w hb st; clear hb))
        | ((with_reducible refine wl_alloc ?_ (fun K hK => ?_)); rfl; refine owp_alloc (o := ⟨some 2, _, _, _, _, _⟩) rfl st ?_; apply Exists.intro; apply Exists.intro; refine ⟨?_, ?_⟩; (focus (first | (go_simp; done) | (go_simp; rfl))); (clear st; intro b2 w hb st; clear hb))
        | ((with_reducible refine wl_store ?_ (fun K hK => ?_)); rfl; refine owp_store rfl st ?_; apply Exists.intro; apply Exists.intro; refine ⟨?_, ?_, ?_⟩; (focus (go_simp; try rfl)); (focus (go_simp; try rfl)); (first | (with_reducible refine ⟨0, _, _, _, _, get0, rfl, rfl, ?_, ?_, ?_, ?_⟩) | (with_reducible refine ⟨1, _, _, _, _, get1, rfl, rfl, ?_, ?_, ?_, ?_⟩) | (with_reducible refine ⟨2, _, _, _, _, get2, rfl, rfl, ?_, ?_, ?_, ?_⟩) | (with_reducible refine ⟨3, _, _, _, _, get3, rfl, rfl, ?_, ?_, ?_, ?_⟩) | (with_reducible refine ⟨4, _, _, _, _, get4, rfl, rfl, ?_, ?_, ?_, ?_⟩) | (with_reducible refine ⟨5, _, _, _, _, get5, rfl, rfl, ?_, ?_, ?_, ?_⟩) | (with_reducible refine ⟨6, _, _, _, _, get6, rfl, rfl, ?_, ?_, ?_, ?_⟩) | (with_reducible refine ⟨7, _, _, _, _, get7, rfl, rfl, ?_, ?_, ?_, ?_⟩) | (with_reducible refine ⟨8, _, _, _, _, get8, rfl, rfl, ?_, ?_, ?_, ?_⟩)); (kernel_rfl); (simp [Value.cells]); (rfl); (clear st; intro w st))
        | ((with_reducible refine wl_buildSlice ?_ (fun K hK => ?_)); rfl; refine owp_buildSlice (o := ⟨some 16, _, _, _, _, _⟩) rfl st ?_; apply Exists.intro; apply Exists.intro; apply Exists.intro; apply Exists.intro; refine ⟨?_, ?_⟩; (focus (go_simp; (first | done | exact ⟨⟨rfl, rfl⟩, rfl⟩ | rfl))); (clear st; intro b16 w hb st; clear hb))
        | ((with_reducible refine wl_alloc ?_ (fun K hK => ?_)); rfl; refine owp_alloc (o := ⟨some 3, _, _, _, _, _⟩) rfl st ?_; apply Exists.intro; apply Exists.intro; refine ⟨?_, ?_⟩; (focus (first | (go_simp; done) | (go_simp; rfl))); (clear st; intro b3 w hb st; clear hb))
        | ((with_reducible refine wl_buildSlice ?_ (fun K hK => ?_)); rfl; refine owp_buildSlice (o := ⟨some 21, _, _, _, _, _⟩) rfl st ?_; apply Exists.intro; apply Exists.intro; apply Exists.intro; apply Exists.intro; refine ⟨?_, ?_⟩; (focus (go_simp; (first | done | exact ⟨⟨rfl, rfl⟩, rfl⟩ | rfl))); (clear st; intro b21 w hb st; clear hb))
        | ((with_reducible refine wl_alloc ?_ (fun K hK => ?_)); rfl; refine owp_alloc (o := ⟨some 4, _, _, _, _, _⟩) rfl st ?_; apply Exists.intro; apply Exists.intro; refine ⟨?_, ?_⟩; (focus (first | (go_simp; done) | (go_simp; rfl))); (clear st; intro b4 w hb st; clear hb))
        | ((with_reducible refine wl_alloc ?_ (fun K hK => ?_)); rfl; refine owp_alloc (o := ⟨some 6, _, _, _, _, _⟩) rfl st ?_; apply Exists.intro; apply Exists.intro; refine ⟨?_, ?_⟩; (focus (first | (go_simp; done) | (go_simp; rfl))); (clear st; intro b6 w hb st; clear hb))
        | ((with_reducible refine wl_alloc ?_ (fun K hK => ?_)); rfl; refine owp_alloc (o := ⟨some 8, _, _, _, _, _⟩) rfl st ?_; apply Exists.intro; apply Exists.intro; refine ⟨?_, ?_⟩; (focus (first | (go_simp; done) | (go_simp; rfl))); (clear st; intro b8 w hb st; clear hb))
        | ((with_reducible refine wl_buildSlice ?_ (fun K hK => ?_)); rfl; refine owp_buildSlice (o := ⟨some 63, _, _, _, _, _⟩) rfl st ?_; apply Exists.intro; apply Exists.intro; apply Exists.intro; apply Exists.intro; refine ⟨?_, ?_⟩; (focus (go_simp; (first | done | exact ⟨⟨rfl, rfl⟩, rfl⟩ | rfl))); (clear st; intro b63 w hb st; clear hb))); (try simp only [nsl, Value.cells, unB] at st); (try clear hc); have hc := st.facts; (try simp only [nfl, nft, Nat.reduceAdd] at hc))
  have HI2 := Lib.hid (fun W' b (hb : Blk W' b (cellsL [fmA])) => (show isF (Fm.mk 2 0 ([], []) (some ⟨b, 0, none⟩) 1 1 [fmA]).strip = false from isA1) ▸ normIs_any (.mk 2 0 ([], []) (some ⟨b, 0, none⟩) 1 1 [fmA]) W' (FmIn.mk ⟨Nat.le_refl _, by simp [maxLen]⟩ (fl_lit hb [fmA] rfl) (fun _ _ _ => trivial) (fun x hx => by rw [List.mem_singleton.1 hx]; exact ok_leaf _ _ _ _)) (show (Fo.mk 2 0 ([], []) [foA]).nodes ≤ 1000000 by decide +kernel) (show FoL 100000 (Fo.mk 2 0 ([], []) [foA]) from mk_L fun x hx => by rw [List.mem_singleton.1 hx]; exact foA_L))
  refine (HI2.out _ _ (st.blk (i := 9) get9)).mono ?_
  rintro en w ⟨rfl, hx⟩
  replace st := st.ext hx
  clear hx
  (try clear hc); have hc := st.facts; (try simp only [nfl, nft, Nat.reduceAdd] at hc)
  go_wp2_with ((first
        | ((with_reducible refine wl_alloc ?_ (fun K hK => ?_)); rfl; refine owp_alloc (o := ⟨some 1, _, _, _, _, _⟩) rfl st ?_; apply Exists.intro; apply Exists.intro; refine ⟨?_, ?_⟩; (focus (first | (go_simp; done) | (go_simp; rfl))); (clear st; intro b1 w hb st; clear hb))
        | ((with_reducible refine wl_alloc ?_ (fun K hK => ?_)); rfl; refine owp_alloc (o := ⟨some 2, _, _, _, _, _⟩) rfl st ?_; apply Exists.intro; apply Exists.intro; refine ⟨?_, ?_⟩; (focus (first | (go_simp; done) | (go_simp; rfl))); (clear st; intro b2 w hb st; clear hb))
        | ((with_reducible refine wl_store ?_ (fun K hK => ?_)); rfl; refine owp_store rfl st ?_; apply Exists.intro; apply Exists.intro; refine ⟨?_, ?_, ?_⟩; (focus (go_simp; try rfl)); (focus (go_simp; try rfl)); (first | (with_reducible refine ⟨0, _, _, _, _, get0, rfl, rfl, ?_, ?_, ?_, ?_⟩) | (with_reducible refine ⟨1, _, _, _, _, get1, rfl, rfl, ?_, ?_, ?_, ?_⟩) | (with_reducible refine ⟨2, _, _, _, _, get2, rfl, rfl, ?_, ?_, ?_, ?_⟩) | (with_reducible refine ⟨3, _, _, _, _, get3, rfl, rfl, ?_, ?_, ?_, ?_⟩) | (with_reducible refine ⟨4, _, _, _, _, get4, rfl, rfl, ?_, ?_, ?_, ?_⟩) | (with_reducible refine ⟨5, _, _, _, _, get5, rfl, rfl, ?_, ?_, ?_, ?_⟩) | (with_reducible refine ⟨6, _, _, _, _, get6, rfl, rfl, ?_, ?_, ?_, ?_⟩) | (with_reducible refine ⟨7, _, _, _, _, get7, rfl, rfl, ?_, ?_, ?_, ?_⟩) | (with_reducible refine ⟨8, _, _, _, _, get8, rfl, rfl, ?_, ?_, ?_, ?_⟩)); (kernel_rfl); (simp [Value.cells]); (rfl); (clear st; intro w st))
        | ((with_reducible refine wl_buildSlice ?_ (fun K hK => ?_)); rfl; refine owp_buildSlice (o := ⟨some 16, _, _, _, _, _⟩) rfl st ?_; apply Exists.intro; apply Exists.intro; apply Exists.intro; apply Exists.intro; refine ⟨?_, ?_⟩; (focus (go_simp; (first | done | exact ⟨⟨rfl, rfl⟩, rfl⟩ | rfl))); (clear st; intro b16 w hb st; clear hb))
        | ((with_reducible refine wl_alloc ?_ (fun K hK => ?_)); rfl; refine owp_alloc (o := ⟨some 3, _, _, _, _, _⟩) rfl st ?_; apply Exists.intro; apply Exists.intro; refine ⟨?_, ?_⟩; (focus (first | (go_simp; done) | (go_simp; rfl))); (clear st; intro b3 w hb st; clear hb))
        | ((with_reducible refine wl_buildSlice ?_ (fun K hK => ?_)); rfl; refine owp_buildSlice (o := ⟨some 21, _, _, _, _, _⟩) rfl st ?_; apply Exists.intro; apply Exists.intro; apply Exists.intro; apply Exists.intro; refine ⟨?_, ?_⟩; (focus (go_simp; (first | done | exact ⟨⟨rfl, rfl⟩, rfl⟩ | rfl))); (clear st; intro b21 w hb st; clear hb))
        | ((with_reducible refine wl_alloc ?_ (fun K hK => ?_)); rfl; refine owp_alloc (o := ⟨some 4, _, _, _, _, _⟩) rfl st ?_; apply Exists.intro; apply Exists.intro; refine ⟨?_, ?_⟩; (focus (first | (go_simp; done) | (go_simp; rfl))); (clear st; intro b4 w hb st; clear hb))
        | ((with_reducible refine wl_alloc ?_ (fun K hK => ?_)); rfl; refine owp_alloc (o := ⟨some 6, _, _, _, _, _⟩) rfl st ?_; apply Exists.intro; apply Exists.intro; refine ⟨?_, ?_⟩; (focus (first | (go_simp; done) | (go_simp; rfl))); (clear st; intro b6 w hb st; clear hb))
        | ((with_reducible refine wl_alloc ?_ (fun K hK => ?_)); rfl; refine owp_alloc (o := ⟨some 8, _, _, _, _, _⟩) rfl st ?_; apply Exists.intro; apply Exists.intro; refine ⟨?_, ?_⟩; (focus (first | (go_simp; done) | (go_simp; rfl))); (clear st; intro b8 w hb st; clear hb))
        | ((with_reducible refine wl_buildSlice ?_ (fun K hK => ?_)); rfl; refine owp_buildSlice (o := ⟨some 63, _, _, _, _, _⟩) rfl st ?_; apply Exists.intro; apply Exists.intro; apply Exists.intro; apply Exists.intro; refine ⟨?_, ?_⟩; (focus (go_simp; (first | done | exact ⟨⟨rfl, rfl⟩, rfl⟩ | rfl))); (clear st; intro b63 w hb st; clear hb))); (try simp only [nsl, Value.cells, unB] at st); (try clear hc); have hc := st.facts; (try simp only [nfl, nft, Nat.reduceAdd] at hc))
  refine (normAlways_any _).mono ?_
  rintro en w ⟨rfl, hx⟩
  replace st := st.ext hx
  clear hx
  (try clear hc); have hc := st.facts; (try simp only [nfl, nft, Nat.reduceAdd] at hc)
  have HR1 := Lib.hid (fun W' => (show foR (Fm.mk 2 0 ([], []) none 0 0 []).strip = true from two_R) ▸ fmRight_any (.mk 2 0 ([], []) none 0 0 []) W' (ok_leaf _ _ _ _) (by decide +kernel) (L_fo (by decide) (by decide) (by simp [stripL])))
  rw [show fmV (Fm.mk 2 0 ([], []) none 0 0 []) = .agg #[.int .i64 2, .int .i64 0, .string ⟨#[]⟩, .string ⟨#[]⟩, .slice none 0 0] from rfl] at HR1 ⊢
  go_wp2_with ((first
        | ((with_reducible refine wl_alloc ?_ (fun K hK => ?_)); rfl; refine owp_alloc (o := ⟨some 1, _, _, _, _, _⟩) rfl st ?_; apply Exists.intro; apply Exists.intro; refine ⟨?_, ?_⟩; (focus (first | (go_simp; done) | (go_simp; rfl))); (clear st; intro b1 w hb st; clear hb))
        | ((with_reducible refine wl_alloc ?_ (fun K hK => ?_)); rfl; refine owp_alloc (o := ⟨some 2, _, _, _, _, _⟩) rfl st ?_; apply Exists.intro; apply Exists.intro; refine ⟨?_, ?_⟩; (focus (first | (go_simp; done) | (go_simp; rfl))); (clear st; intro b2 w hb st; clear hb))
        | ((with_reducible refine wl_store ?_ (fun K hK => ?_)); rfl; refine owp_store rfl st ?_; apply Exists.intro; apply Exists.intro; refine ⟨?_, ?_, ?_⟩; (focus (go_simp; try rfl)); (focus (go_simp; try rfl)); (first | (with_reducible refine ⟨0, _, _, _, _, get0, rfl, rfl, ?_, ?_, ?_, ?_⟩) | (with_reducible refine ⟨1, _, _, _, _, get1, rfl, rfl, ?_, ?_, ?_, ?_⟩) | (with_reducible refine ⟨2, _, _, _, _, get2, rfl, rfl, ?_, ?_, ?_, ?_⟩) | (with_reducible refine ⟨3, _, _, _, _, get3, rfl, rfl, ?_, ?_, ?_, ?_⟩) | (with_reducible refine ⟨4, _, _, _, _, get4, rfl, rfl, ?_, ?_, ?_, ?_⟩) | (with_reducible refine ⟨5, _, _, _, _, get5, rfl, rfl, ?_, ?_, ?_, ?_⟩) | (with_reducible refine ⟨6, _, _, _, _, get6, rfl, rfl, ?_, ?_, ?_, ?_⟩) | (with_reducible refine ⟨7, _, _, _, _, get7, rfl, rfl, ?_, ?_, ?_, ?_⟩) | (with_reducible refine ⟨8, _, _, _, _, get8, rfl, rfl, ?_, ?_, ?_, ?_⟩)); (kernel_rfl); (simp [Value.cells]); (rfl); (clear st; intro w st))
        | ((with_reducible refine wl_buildSlice ?_ (fun K hK => ?_)); rfl; refine owp_buildSlice (o := ⟨some 16, _, _, _, _, _⟩) rfl st ?_; apply Exists.intro; apply Exists.intro; apply Exists.intro; apply Exists.intro; refine ⟨?_, ?_⟩; (focus (go_simp; (first | done | exact ⟨⟨rfl, rfl⟩, rfl⟩ | rfl))); (clear st; intro b16 w hb st; clear hb))
        | ((with_reducible refine wl_alloc ?_ (fun K hK => ?_)); rfl; refine owp_alloc (o := ⟨some 3, _, _, _, _, _⟩) rfl st ?_; apply Exists.intro; apply Exists.intro; refine ⟨?_, ?_⟩; (focus (first | (go_simp; done) | (go_simp; rfl))); (clear st; intro b3 w hb st; clear hb))
        | ((with_reducible refine wl_buildSlice ?_ (fun K hK => ?_)); rfl; refine owp_buildSlice (o := ⟨some 21, _, _, _, _, _⟩) rfl st ?_; apply Exists.intro; apply Exists.intro; apply Exists.intro; apply Exists.intro; refine ⟨?_, ?_⟩; (focus (go_simp; (first | done | exact ⟨⟨rfl, rfl⟩, rfl⟩ | rfl))); (clear st; intro b21 w hb st; clear hb))
        | ((with_reducible refine wl_alloc ?_ (fun K hK => ?_)); rfl; refine owp_alloc (o := ⟨some 4, _, _, _, _, _⟩) rfl st ?_; apply Exists.intro; apply Exists.intro; refine ⟨?_, ?_⟩; (focus (first | (go_simp; done) | (go_simp; rfl))); (clear st; intro b4 w hb st; clear hb))
        | ((with_reducible refine wl_alloc ?_ (fun K hK => ?_)); rfl; refine owp_alloc (o := ⟨some 6, _, _, _, _, _⟩) rfl st ?_; apply Exists.intro; apply Exists.intro; refine ⟨?_, ?_⟩; (focus (first | (go_simp; done) | (go_simp; rfl))); (clear st; intro b6 w hb st; clear hb))
        | ((with_reducible refine wl_alloc ?_ (fun K hK => ?_)); rfl; refine owp_alloc (o := ⟨some 8, _, _, _, _, _⟩) rfl st ?_; apply Exists.intro; apply Exists.intro; refine ⟨?_, ?_⟩; (focus (first | (go_simp; done) | (go_simp; rfl))); (clear st; intro b8 w hb st; clear hb))
        | ((with_reducible refine wl_buildSlice ?_ (fun K hK => ?_)); rfl; refine owp_buildSlice (o := ⟨some 63, _, _, _, _, _⟩) rfl st ?_; apply Exists.intro; apply Exists.intro; apply Exists.intro; apply Exists.intro; refine ⟨?_, ?_⟩; (focus (go_simp; (first | done | exact ⟨⟨rfl, rfl⟩, rfl⟩ | rfl))); (clear st; intro b63 w hb st; clear hb))); (try simp only [nsl, Value.cells, unB] at st); (try clear hc); have hc := st.facts; (try simp only [nfl, nft, Nat.reduceAdd] at hc))
  refine (HR1.out _).mono ?_
  rintro en w ⟨rfl, hx⟩
  replace st := st.ext hx
  clear hx
  (try clear hc); have hc := st.facts; (try simp only [nfl, nft, Nat.reduceAdd] at hc)
  go_wp2_with ((first
        | ((with_reducible refine wl_alloc ?_ (fun K hK => ?_)); rfl; refine owp_alloc (o := ⟨some 1, _, _, _, _, _⟩) rfl st ?_; apply Exists.intro; apply Exists.intro; refine ⟨?_, ?_⟩; (focus (first | (go_simp; done) | (go_simp; rfl))); (clear st; intro b1 w hb st; clear hb))
        | ((with_reducible refine wl_alloc ?_ (fun K hK => ?_)); rfl; refine owp_alloc (o := ⟨some 2, _, _, _, _, _⟩) rfl st ?_; apply Exists.intro; apply Exists.intro; refine ⟨?_, ?_⟩; (focus (first | (go_simp; done) | (go_simp; rfl))); (clear st; intro b2 w hb st; clear hb))
        | ((with_reducible refine wl_store ?_ (fun K hK => ?_)); rfl; refine owp_store rfl st ?_; apply Exists.intro; apply Exists.intro; refine ⟨?_, ?_, ?_⟩; (focus (go_simp; try rfl)); (focus (go_simp; try rfl)); (first | (with_reducible refine ⟨0, _, _, _, _, get0, rfl, rfl, ?_, ?_, ?_, ?_⟩) | (with_reducible refine ⟨1, _, _, _, _, get1, rfl, rfl, ?_, ?_, ?_, ?_⟩) | (with_reducible refine ⟨2, _, _, _, _, get2, rfl, rfl, ?_, ?_, ?_, ?_⟩) | (with_reducible refine ⟨3, _, _, _, _, get3, rfl, rfl, ?_, ?_, ?_, ?_⟩) | (with_reducible refine ⟨4, _, _, _, _, get4, rfl, rfl, ?_, ?_, ?_, ?_⟩) | (with_reducible refine ⟨5, _, _, _, _, get5, rfl, rfl, ?_, ?_, ?_, ?_⟩) | (with_reducible refine ⟨6, _, _, _, _, get6, rfl, rfl, ?_, ?_, ?_, ?_⟩) | (with_reducible refine ⟨7, _, _, _, _, get7, rfl, rfl, ?_, ?_, ?_, ?_⟩) | (with_reducible refine ⟨8, _, _, _, _, get8, rfl, rfl, ?_, ?_, ?_, ?_⟩)); (kernel_rfl); (simp [Value.cells]); (rfl); (clear st; intro w st))
        | ((with_reducible refine wl_buildSlice ?_ (fun K hK => ?_)); rfl; refine owp_buildSlice (o := ⟨some 16, _, _, _, _, _⟩) rfl st ?_; apply Exists.intro; apply Exists.intro; apply Exists.intro; apply Exists.intro; refine ⟨?_, ?_⟩; (focus (go_simp; (first | done | exact ⟨⟨rfl, rfl⟩, rfl⟩ | rfl))); (clear st; intro b16 w hb st; clear hb))
        | ((with_reducible refine wl_alloc ?_ (fun K hK => ?_)); rfl; refine owp_alloc (o := ⟨some 3, _, _, _, _, _⟩) rfl st ?_; apply Exists.intro; apply Exists.intro; refine ⟨?_, ?_⟩; (focus (first | (go_simp; done) | (go_simp; rfl))); (clear st; intro b3 w hb st; clear hb))
        | ((with_reducible refine wl_buildSlice ?_ (fun K hK => ?_)); rfl; refine owp_buildSlice (o := ⟨some 21, _, _, _, _, _⟩) rfl st ?_; apply Exists.intro; apply Exists.intro; apply Exists.intro; apply Exists.intro; refine ⟨?_, ?_⟩; (focus (go_simp; (first | done | exact ⟨⟨rfl, rfl⟩, rfl⟩ | rfl))); (clear st; intro b21 w hb st; clear hb))
        | ((with_reducible refine wl_alloc ?_ (fun K hK => ?_)); rfl; refine owp_alloc (o := ⟨some 4, _, _, _, _, _⟩) rfl st ?_; apply Exists.intro; apply Exists.intro; refine ⟨?_, ?_⟩; (focus (first | (go_simp; done) | (go_simp; rfl))); (clear st; intro b4 w hb st; clear hb))
        | ((with_reducible refine wl_alloc ?_ (fun K hK => ?_)); rfl; refine owp_alloc (o := ⟨some 6, _, _, _, _, _⟩) rfl st ?_; apply Exists.intro; apply Exists.intro; refine ⟨?_, ?_⟩; (focus (first | (go_simp; done) | (go_simp; rfl))); (clear st; intro b6 w hb st; clear hb))
        | ((with_reducible refine wl_alloc ?_ (fun K hK => ?_)); rfl; refine owp_alloc (o := ⟨some 8, _, _, _, _, _⟩) rfl st ?_; apply Exists.intro; apply Exists.intro; refine ⟨?_, ?_⟩; (focus (first | (go_simp; done) | (go_simp; rfl))); (clear st; intro b8 w hb st; clear hb))
        | ((with_reducible refine wl_buildSlice ?_ (fun K hK => ?_)); rfl; refine owp_buildSlice (o := ⟨some 63, _, _, _, _, _⟩) rfl st ?_; apply Exists.intro; apply Exists.intro; apply Exists.intro; apply Exists.intro; refine ⟨?_, ?_⟩; (focus (go_simp; (first | done | exact ⟨⟨rfl, rfl⟩, rfl⟩ | rfl))); (clear st; intro b63 w hb st; clear hb))); (try simp only [nsl, Value.cells, unB] at st); (try clear hc); have hc := st.facts; (try simp only [nfl, nft, Nat.reduceAdd] at hc))
  refine (normNever_any _).mono ?_
  rintro en w ⟨rfl, hx⟩
  replace st := st.ext hx
  clear hx
  (try clear hc); have hc := st.facts; (try simp only [nfl, nft, Nat.reduceAdd] at hc)
  rw [show fmV (Fm.mk 3 0 ([], []) none 0 0 []) = .agg #[.int .i64 3, .int .i64 0, .string ⟨#[]⟩, .string ⟨#[]⟩, .slice none 0 0] from rfl]
  go_wp2_with ((first
        | ((with_reducible refine wl_alloc ?_ (fun K hK => ?_)); rfl; refine owp_alloc (o := ⟨some 1, _, _, _, _, _⟩) rfl st ?_; apply Exists.intro; apply Exists.intro; refine ⟨?_, ?_⟩; (focus (first | (go_simp; done) | (go_simp; rfl))); (clear st; intro b1 w hb st; clear hb))
        | ((with_reducible refine wl_alloc ?_ (fun K hK => ?_)); rfl; refine owp_alloc (o := ⟨some 2, _, _, _, _, _⟩) rfl st ?_; apply Exists.intro; apply Exists.intro; refine ⟨?_, ?_⟩; (focus (first | (go_simp; done) | (go_simp; rfl))); (clear st; intro b2 w hb st; clear hb))
        | ((with_reducible refine wl_store ?_ (fun K hK => ?_)); rfl; refine owp_store rfl st ?_; apply Exists.intro; apply Exists.intro; refine ⟨?_, ?_, ?_⟩; (focus (go_simp; try rfl)); (focus (go_simp; try rfl)); (first | (with_reducible refine ⟨0, _, _, _, _, get0, rfl, rfl, ?_, ?_, ?_, ?_⟩) | (with_reducible refine ⟨1, _, _, _, _, get1, rfl, rfl, ?_, ?_, ?_, ?_⟩) | (with_reducible refine ⟨2, _, _, _, _, get2, rfl, rfl, ?_, ?_, ?_, ?_⟩) | (with_reducible refine ⟨3, _, _, _, _, get3, rfl, rfl, ?_, ?_, ?_, ?_⟩) | (with_reducible refine ⟨4, _, _, _, _, get4, rfl, rfl, ?_, ?_, ?_, ?_⟩) | (with_reducible refine ⟨5, _, _, _, _, get5, rfl, rfl, ?_, ?_, ?_, ?_⟩) | (with_reducible refine ⟨6, _, _, _, _, get6, rfl, rfl, ?_, ?_, ?_, ?_⟩) | (with_reducible refine ⟨7, _, _, _, _, get7, rfl, rfl, ?_, ?_, ?_, ?_⟩) | (with_reducible refine ⟨8, _, _, _, _, get8, rfl, rfl, ?_, ?_, ?_, ?_⟩)); (kernel_rfl); (simp [Value.cells]); (rfl); (clear st; intro w st))
        | ((with_reducible refine wl_buildSlice ?_ (fun K hK => ?_)); rfl; refine owp_buildSlice (o := ⟨some 16, _, _, _, _, _⟩) rfl st ?_; apply Exists.intro; apply Exists.intro; apply Exists.intro; apply Exists.intro; refine ⟨?_, ?_⟩; (focus (go_simp; (first | done | exact ⟨⟨rfl, rfl⟩, rfl⟩ | rfl))); (clear st; intro b16 w hb st; clear hb))
        | ((with_reducible refine wl_alloc ?_ (fun K hK => ?_)); rfl; refine owp_alloc (o := ⟨some 3, _, _, _, _, _⟩) rfl st ?_; apply Exists.intro; apply Exists.intro; refine ⟨?_, ?_⟩; (focus (first | (go_simp; done) | (go_simp; rfl))); (clear st; intro b3 w hb st; clear hb))
        | ((with_reducible refine wl_buildSlice ?_ (fun K hK => ?_)); rfl; refine owp_buildSlice (o := ⟨some 21, _, _, _, _, _⟩) rfl st ?_; apply Exists.intro; apply Exists.intro; apply Exists.intro; apply Exists.intro; refine ⟨?_, ?_⟩; (focus (go_simp; (first | done | exact ⟨⟨rfl, rfl⟩, rfl⟩ | rfl))); (clear st; intro b21 w hb st; clear hb))
        | ((with_reducible refine wl_alloc ?_ (fun K hK => ?_)); rfl; refine owp_alloc (o := ⟨some 4, _, _, _, _, _⟩) rfl st ?_; apply Exists.intro; apply Exists.intro; refine ⟨?_, ?_⟩; (focus (first | (go_simp; done) | (go_simp; rfl))); (clear st; intro b4 w hb st; clear hb))
        | ((with_reducible refine wl_alloc ?_ (fun K hK => ?_)); rfl; refine owp_alloc (o := ⟨some 6, _, _, _, _, _⟩) rfl st ?_; apply Exists.intro; apply Exists.intro; refine ⟨?_, ?_⟩; (focus (first | (go_simp; done) | (go_simp; rfl))); (clear st; intro b6 w hb st; clear hb))
        | ((with_reducible refine wl_alloc ?_ (fun K hK => ?_)); rfl; refine owp_alloc (o := ⟨some 8, _, _, _, _, _⟩) rfl st ?_; apply Exists.intro; apply Exists.intro; refine ⟨?_, ?_⟩; (focus (first | (go_simp; done) | (go_simp; rfl))); (clear st; intro b8 w hb st; clear hb))
        | ((with_reducible refine wl_buildSlice ?_ (fun K hK => ?_)); rfl; refine owp_buildSlice (o := ⟨some 63, _, _, _, _, _⟩) rfl st ?_; apply Exists.intro; apply Exists.intro; apply Exists.intro; apply Exists.intro; refine ⟨?_, ?_⟩; (focus (go_simp; (first | done | exact ⟨⟨rfl, rfl⟩, rfl⟩ | rfl))); (clear st; intro b63 w hb st; clear hb))); (try simp only [nsl, Value.cells, unB] at st); (try clear hc); have hc := st.facts; (try simp only [nfl, nft, Nat.reduceAdd] at hc))
  go_ret
  exact ⟨rfl, st.ext0⟩
end Go.Proofs.Ythjaopojlhdjpaa

namespace Go.Proofs.Ythjaopojlhdjpaa
set_option linter.unusedSimpArgs false
set_option linter.unusedVariables false
open Go Go.RowKit
end Go.Proofs.Ythjaopojlhdjpaa

namespace Go.Proofs.Ythjaopojlhdjpaa
set_option linter.unusedSimpArgs false
set_option linter.unusedVariables false
open Go Go.RowKit
theorem cmG_app (u : Fm) (B : List Fm) (hB : B = [] ∨ ∃ b C, B = b :: C ∧ sE b u = false) (l : List Fm) : ∀ y : Fm, (∃ pre, y :: l = pre ++ [u]) → cmG sE y (l ++ B) = cmG sE y l ++ cmS B := by
  induction l with
  | nil =>
    rintro y ⟨pre, hp⟩
    obtain rfl : y = u := by
      cases pre with
      | nil => exact (List.cons.inj hp).1
      | cons a pre => simp at hp
    rcases hB with rfl | ⟨b, C, rfl, h⟩
    · rfl
    · show (if sE b y = true then cmG sE y C else b :: cmG sE b C) = [] ++ (b :: cmG sE b C)
      rw [h]; rfl
  | cons z l ih =>
    rintro y ⟨pre, hp⟩
    obtain ⟨p2, hp2⟩ : ∃ p2, z :: l = p2 ++ [u] := by
      cases pre with
      | nil => simp at hp
      | cons a pre => exact ⟨pre, (List.cons.inj hp).2⟩
    rw [List.cons_append, cmG, cmG]
    by_cases h : sE z y = true
    · rw [if_pos h, if_pos h]
      cases l with
      | nil =>
        obtain rfl : z = u := by
          cases p2 with
          | nil => exact (List.cons.inj hp2).1
          | cons a p2 => simp at hp2
        rcases hB with rfl | ⟨b, C, rfl, hb⟩
        · rfl
        · have e : sE b y = sE b z := by unfold sE; rw [sE_t h]
          show (if sE b y = true then cmG sE y C else b :: cmG sE b C) = [] ++ (b :: cmG sE b C)
          rw [e, hb]; rfl
      | cons v l =>
        refine ih y ?_
        cases p2 with
        | nil => simp at hp2
        | cons a p2 => exact ⟨y :: p2, by rw [(List.cons.inj hp2).2]; rfl⟩
    · rw [if_neg h, if_neg h, ih z ⟨p2, hp2⟩]; rfl
theorem cmS_app (A B : List Fm) (u : Fm) (hB : B = [] ∨ ∃ b C, B = b :: C ∧ sE b u = false) : cmS ((A ++ [u]) ++ B) = cmS (A ++ [u]) ++ cmS B := by
  cases hA : A ++ [u] with
  | nil => simp at hA
  | cons y l =>
    show y :: cmG sE y (l ++ B) = (y :: cmG sE y l) ++ cmS B
    rw [cmG_app u B hB l y ⟨A, by rw [hA]⟩]; rfl
theorem cmS_snoc (A : List Fm) (u x : Fm) : cmS ((A ++ [u]) ++ [x]) = cmS (A ++ [u]) ++ (if sE x u = true then [] else [x]) := by
  cases hA : A ++ [u] with
  | nil => simp at hA
  | cons y l =>
    show y :: cmG sE y (l ++ [x]) = (y :: cmG sE y l) ++ _
    rw [cmG_snoc x u l y ⟨A, by rw [hA]⟩]; rfl
theorem cmG_last (l : List Fm) : ∀ (y u : Fm), (∃ pre, y :: l = pre ++ [u]) → ∃ pre v, y :: cmG sE y l = pre ++ [v] ∧ v.strip = u.strip := by
  induction l with
  | nil =>
    rintro y u ⟨pre, hp⟩
    obtain rfl : y = u := by
      cases pre with
      | nil => exact (List.cons.inj hp).1
      | cons a pre => simp at hp
    exact ⟨[], y, rfl, rfl⟩
  | cons z l ih =>
    rintro y u ⟨pre, hp⟩
    obtain ⟨p2, hp2⟩ : ∃ p2, z :: l = p2 ++ [u] := by
      cases pre with
      | nil => simp at hp
      | cons a pre => exact ⟨pre, (List.cons.inj hp).2⟩
    rw [cmG]
    by_cases h : sE z y = true
    · rw [if_pos h]
      cases l with
      | nil =>
        obtain rfl : z = u := by
          cases p2 with
          | nil => exact (List.cons.inj hp2).1
          | cons a p2 => simp at hp2
        exact ⟨[], y, rfl, (sE_t h).symm⟩
      | cons v l =>
        refine ih y u ?_
        cases p2 with
        | nil => simp at hp2
        | cons a p2 => exact ⟨y :: p2, by rw [(List.cons.inj hp2).2]; rfl⟩
    · rw [if_neg h]
      obtain ⟨q, v, h1, h2⟩ := ih z u ⟨p2, hp2⟩
      exact ⟨y :: q, v, by rw [h1]; rfl, h2⟩
theorem cmS_last (A : List Fm) (u : Fm) : ∃ pre v, cmS (A ++ [u]) = pre ++ [v] ∧ v.strip = u.strip := by
  cases hA : A ++ [u] with
  | nil => simp at hA
  | cons y l => exact cmG_last l y u ⟨A, by rw [hA]⟩
theorem srt_split {S : List Fm} (hs : Srt fK S) (k : Fm) : S = S.filter (fun x => !kLt fK k x) ++ S.filter (fun x => kLt fK k x) := by
  induction S with
  | nil => rfl
  | cons x l ih =>
    obtain ⟨h1, h2⟩ := List.pairwise_cons.1 hs
    cases h : kLt fK k x with
    | true =>
      have ha : ∀ y ∈ x :: l, kLt fK k y = true := fun y hy => by
        rcases List.mem_cons.1 hy with e | e
        · rw [e]; exact h
        · exact kLt_le h (h1 y e)
      rw [List.filter_eq_nil_iff.2 fun y hy => by rw [ha y hy]; simp, List.filter_eq_self.2 ha]; rfl
    | false =>
      rw [List.filter_cons, List.filter_cons, if_pos (by rw [h]; rfl), if_neg (by rw [h]; simp), List.cons_append, ← ih h2]
theorem filt_A {k : Fm} {A B : List Fm} (ha : ∀ x ∈ A, kLt fK k x = false) (hb : ∀ x ∈ B, kLt fK k x = true) : (A ++ B).filter (fun x => !kLt fK k x) = A ∧ (A ++ B).filter (fun x => kLt fK k x) = B := by
  rw [List.filter_append, List.filter_append, List.filter_eq_self.2 fun x hx => by rw [ha x hx]; rfl, List.filter_eq_nil_iff.2 fun x hx => by rw [hb x hx]; simp, List.filter_eq_nil_iff.2 fun x hx => by rw [ha x hx]; simp, List.filter_eq_self.2 fun x hx => hb x hx]
  simp
theorem sE_gt {k b : Fm} (h : kLt fK k b = true) : sE b k = false := by
  cases q : sE b k with
  | false => rfl
  | true => exact (kLt_ne h (by unfold fK; rw [sE_t q])).elim
/-- The kept ones of a stably sorted list. -/
def OnS (l out : List Fm) : Prop := ∃ S, (SP fK l S ∧ Srt fK S) ∧ out = cmS S
theorem onS_split {l A B : List Fm} {k : Fm} (h : OnS l (A ++ B)) (ha : ∀ x ∈ A, kLt fK k x = false) (hb : ∀ x ∈ B, kLt fK k x = true) : ∃ A' B', SP fK l (A' ++ B') ∧ Srt fK (A' ++ B') ∧ A = cmS A' ∧ B = cmS B' ∧ (∀ x ∈ A', kLt fK k x = false) ∧ ∀ x ∈ B', kLt fK k x = true := by
  obtain ⟨S, ⟨h1, h2⟩, h3⟩ := h
  have e := srt_split h2 k
  have ha' : ∀ x ∈ S.filter (fun x => !kLt fK k x), kLt fK k x = false := fun x hx => by have := (List.mem_filter.1 hx).2; simpa using this
  have hb' : ∀ x ∈ S.filter (fun x => kLt fK k x), kLt fK k x = true := fun x hx => (List.mem_filter.1 hx).2
  generalize S.filter (fun x => !kLt fK k x) = A' at *
  generalize S.filter (fun x => kLt fK k x) = B' at *
  subst e
  have e2 : cmS (A' ++ B') = cmS A' ++ cmS B' := by
    rcases List.eq_nil_or_concat A' with rfl | ⟨A1, u, rfl⟩
    · rfl
    · rw [List.concat_eq_append]
      refine cmS_app A1 B' u ?_
      cases B' with
      | nil => exact .inl rfl
      | cons b C =>
        refine .inr ⟨b, C, rfl, sE_gt ?_⟩
        have h4 := ha' u (by simp)
        have h5 := hb' b (by simp)
        exact kLe_lt h4 h5
  rw [e2] at h3
  have f1 := filt_A ha hb
  have f2 := filt_A (k := k) (A := cmS A') (B := cmS B') (fun x hx => ha' x ((cmS_sub A').subset hx)) (fun x hx => hb' x ((cmS_sub B').subset hx))
  rw [h3] at f1
  exact ⟨A', B', h1, h2, f1.1.symm.trans f2.1, f1.2.symm.trans f2.2, ha', hb'⟩
theorem onS_put {l A B : List Fm} {k : Fm} (h : OnS l (A ++ B)) (ha : ∀ x ∈ A, kLt fK k x = false) (hb : ∀ x ∈ B, kLt fK k x = true) (hn : A = [] ∨ ∃ A1 u, A = A1 ++ [u] ∧ foE u.strip k.strip = false) : OnS (l ++ [k]) (A ++ k :: B) := by
  obtain ⟨A', B', h1, h2, rfl, rfl, ha', hb'⟩ := onS_split h ha hb
  refine ⟨A' ++ k :: B', ⟨(h1.app (SP.refl [k])).trans (ins_sp hb'), ins_srt h2 hb' ha'⟩, ?_⟩
  have eB : cmS ([k] ++ B') = [k] ++ cmS B' := cmS_app [] B' k (by
    cases B' with
    | nil => exact .inl rfl
    | cons b C => exact .inr ⟨b, C, rfl, sE_gt (hb' b (by simp))⟩)
  rcases List.eq_nil_or_concat A' with rfl | ⟨A1, u, rfl⟩
  · exact eB.symm
  · rw [List.concat_eq_append] at *
    have hs : sE k u = false := by
      obtain ⟨pre, v, hv, hvs⟩ := cmS_last A1 u
      rcases hn with q | ⟨A2, w, q1, q2⟩
      · rw [hv] at q; simp at q
      · rw [hv] at q1
        have e := (List.append_inj' q1 rfl).2
        have e2 : v = w := (List.cons.inj e).1
        subst e2
        cases r : sE k u with
        | false => rfl
        | true =>
          rw [hvs, sE_t r, (foE_iff _ _).2 rfl] at q2
          cases q2
    have e1 := cmS_snoc A1 u k
    rw [hs, if_neg (by simp)] at e1
    have e2 : (A1 ++ [u]) ++ k :: B' = ((A1 ++ [u]) ++ [k]) ++ B' := by simp
    rw [e2, cmS_app (A1 ++ [u]) B' k (by
      cases B' with
      | nil => exact .inl rfl
      | cons b C => exact .inr ⟨b, C, rfl, sE_gt (hb' b (by simp))⟩), e1]
    simp
theorem onS_skip {l A1 B : List Fm} {k u : Fm} (h : OnS l ((A1 ++ [u]) ++ B)) (ha : ∀ x ∈ A1 ++ [u], kLt fK k x = false) (hb : ∀ x ∈ B, kLt fK k x = true) (hn : foE u.strip k.strip = true) : OnS (l ++ [k]) ((A1 ++ [u]) ++ B) := by
  obtain ⟨A', B', h1, h2, e1, rfl, ha', hb'⟩ := onS_split h ha hb
  refine ⟨A' ++ k :: B', ⟨(h1.app (SP.refl [k])).trans (ins_sp hb'), ins_srt h2 hb' ha'⟩, ?_⟩
  rcases List.eq_nil_or_concat A' with rfl | ⟨A2, v, rfl⟩
  · have : A1 ++ [u] = [] := e1
    simp at this
  · rw [List.concat_eq_append] at *
    obtain ⟨pre, x, hx, hxs⟩ := cmS_last A2 v
    have e3 : u = x := by
      rw [hx] at e1
      have e := (List.append_inj' e1 rfl).2
      exact (List.cons.inj e).1
    subst e3
    have hs : sE k v = true := by
      have := (foE_iff _ _).1 hn
      unfold sE
      rw [← hxs, this]; exact (foE_iff _ _).2 rfl
    have e4 := cmS_snoc A2 v k
    rw [hs, if_pos rfl, List.append_nil] at e4
    have e2 : (A2 ++ [v]) ++ k :: B' = ((A2 ++ [v]) ++ [k]) ++ B' := by simp
    rw [e2, cmS_app (A2 ++ [v]) B' k (by
      cases B' with
      | nil => exact .inl rfl
      | cons b C => exact .inr ⟨b, C, rfl, sE_gt (hb' b (by simp))⟩), e4, e1]
theorem onS_nil : OnS [] [] := ⟨[], ⟨SP.refl _, List.Pairwise.nil⟩, rfl⟩
theorem onS_is {l out : List Fm} (h : OnS l out) : out.map Fm.strip = cmF (sSort wrF (l.map Fm.strip)) := by
  obtain ⟨S, h1, rfl⟩ := h
  rw [cmS_map, sorted_is h1]
/-- Sorted so far: each once, or not. -/
def OnB : Bool → List Fm → List Fm → Prop
  | true, l, out => OnS l out
  | false, l, out => SP fK l out ∧ Srt fK out
theorem OnS.srt {l out : List Fm} (h : OnS l out) : Srt fK out := by
  obtain ⟨S, ⟨_, h2⟩, rfl⟩ := h
  exact List.Pairwise.sublist (cmS_sub S) h2
theorem OnB.srt {b : Bool} {l out : List Fm} (h : OnB b l out) : Srt fK out := by
  cases b with
  | true => exact OnS.srt h
  | false => exact h.2
theorem OnB.sub {b : Bool} {l out : List Fm} (h : OnB b l out) : (∀ x ∈ out, x ∈ l) ∧ out.length ≤ l.length := by
  cases b with
  | true =>
    obtain ⟨S, ⟨h1, _⟩, rfl⟩ := h
    exact ⟨fun x hx => h1.mem.1 ((cmS_sub S).subset hx), by have := (cmS_sub S).length_le; have := h1.len; omega⟩
  | false => exact ⟨fun x hx => h.1.mem.1 hx, by have := h.1.len; omega⟩
theorem OnB.nil (b : Bool) : OnB b [] [] := by
  cases b with
  | true => exact onS_nil
  | false => exact ⟨SP.refl _, List.Pairwise.nil⟩
theorem OnB.put {b : Bool} {l A B : List Fm} {k : Fm} (h : OnB b l (A ++ B)) (ha : ∀ x ∈ A, kLt fK k x = false) (hb : ∀ x ∈ B, kLt fK k x = true) (hn : b = true → A = [] ∨ ∃ A1 u, A = A1 ++ [u] ∧ foE u.strip k.strip = false) : OnB b (l ++ [k]) (A ++ k :: B) := by
  cases b with
  | true => exact onS_put h ha hb (hn rfl)
  | false => exact ⟨(h.1.app (SP.refl [k])).trans (ins_sp hb), ins_srt h.2 hb ha⟩
theorem cmp2_pos (x y : List UInt8) : 0 < cmp2 x y ↔ strLt y x = true := by
  unfold cmp2
  split
  · rename_i h
    simp
    cases q : strLt y x with
    | false => rfl
    | true => have := strLt_tr h q; rw [strLt_irr] at this; cases this
  · rename_i h; split
    · rename_i h2; simp [h2]
    · rename_i h2; simp [h2]
end Go.Proofs.Ythjaopojlhdjpaa

namespace Go.Proofs.Ythjaopojlhdjpaa
set_option linter.unusedSimpArgs false
set_option linter.unusedVariables false
open Go Go.RowKit
/-- A set as it lies in memory. -/
structure RsT where
  a : Option Addr
  n : Nat
  c : Nat
  xs : List Role
deriving Inhabited
instance fltRs : Flt RsT := ⟨1, fun x => [.slice x.a x.n x.c], fun _ => rfl, by decide, fun x u hu => by simp at hu; subst hu; rfl⟩
def RsIn (s : Nat → Prop) (w : World) (x : RsT) : Prop := (x.n ≤ x.c ∧ x.c ≤ maxLen) ∧ Fl w x.a x.n x.xs ∧ (0 < x.n → ∀ ad, x.a = some ad → s ad.block)
theorem RsIn.agree {s : Nat → Prop} {w w' : World} {x : RsT} (h : RsIn s w x) (hag : ∀ b, s b → w'.heap[b]? = w.heap[b]?) : RsIn s w' x := ⟨h.1, h.2.1.agree fun h0 ad e => hag _ (h.2.2 h0 ad e), h.2.2⟩
theorem RsIn.to {s s' : Nat → Prop} {w : World} {x : RsT} (h : RsIn s w x) (hs : ∀ b, s b → s' b) : RsIn s' w x := ⟨h.1, h.2.1, fun h0 ad e => hs _ (h.2.2 h0 ad e)⟩
section
variable {fr al : Nat → Prop} {w0 w : World} {L : List It}
end
end Go.Proofs.Ythjaopojlhdjpaa

namespace Go.Proofs.Ythjaopojlhdjpaa
set_option linter.unusedSimpArgs false
set_option linter.unusedVariables false
open Go Go.RowKit
end Go.Proofs.Ythjaopojlhdjpaa

namespace Go.Proofs.Ythjaopojlhdjpaa
set_option linter.unusedSimpArgs false
set_option linter.unusedVariables false
open Go Go.RowKit Go.Sort Go.Lib Go.Shelf
section
variable {fr al : Nat → Prop} {w0 w : World} {L : List It}
end
end Go.Proofs.Ythjaopojlhdjpaa

namespace Go.Proofs.Ythjaopojlhdjpaa
set_option linter.unusedSimpArgs false
set_option linter.unusedVariables false
open Go Go.RowKit Go.Sort Go.Lib Go.Shelf
end Go.Proofs.Ythjaopojlhdjpaa

namespace Go.Proofs.Ythjaopojlhdjpaa
set_option linter.unusedSimpArgs false
set_option linter.unusedVariables false
open Go Go.RowKit Go.Sort Go.Lib Go.Shelf
section
variable {fr al : Nat → Prop} {w0 w : World} {L : List It}
end
end Go.Proofs.Ythjaopojlhdjpaa

namespace Go.Proofs.Ythjaopojlhdjpaa
set_option linter.unusedSimpArgs false
set_option linter.unusedVariables false
open Go Go.RowKit
end Go.Proofs.Ythjaopojlhdjpaa

namespace Go.Proofs.Ythjaopojlhdjpaa
set_option linter.unusedSimpArgs false
set_option linter.unusedVariables false
open Go Go.RowKit
end Go.Proofs.Ythjaopojlhdjpaa

namespace Go.Proofs.Ythjaopojlhdjpaa
set_option linter.unusedSimpArgs false
set_option linter.unusedVariables false
open Go Go.RowKit Go.Sort Go.Lib Go.Shelf
section
variable {f : Fo}
end
section
variable {fr al : Nat → Prop} {w0 w : World} {L : List It}
end
end Go.Proofs.Ythjaopojlhdjpaa

namespace Go.Proofs.Ythjaopojlhdjpaa
set_option linter.unusedSimpArgs false
set_option linter.unusedVariables false
open Go Go.RowKit
end Go.Proofs.Ythjaopojlhdjpaa

namespace Go.Proofs.Ythjaopojlhdjpaa
set_option linter.unusedSimpArgs false
set_option linter.unusedVariables false
open Go Go.RowKit
section
variable {fr al : Nat → Prop} {w0 w : World} {L : List It}
theorem Own.flToEl {α : Type} [Flt α] (st : Own fr al w0 L w) {i n b off : Nat} {xs : List α} (l : List (Nat × Value)) (hi : L[i]? = some (flI (some ⟨b, off, none⟩) n xs)) (hn : 0 < n) (hl : ∀ p ∈ l, ∃ q, p.1 = off + q ∧ (cellsL xs)[q]? = some p.2) : Own fr al w0 (L ++ [elI b l]) w :=
  st.share hi fun e s h1 => ⟨h1.2 hn _ rfl, fun p hp => by
    obtain ⟨q, hq, hv⟩ := hl p hp
    have hf := h1.1.flat
    obtain ⟨ad, had, hc⟩ := hf.2 (by have := (List.getElem?_eq_some_iff.1 hv).1; omega)
    cases had
    have := hc q p.2 hv
    rw [addr_add] at this
    rw [hq]; exact this⟩
theorem Fl.at {α : Type} [Flt α] {a : Option Addr} {n : Nat} {xs : List α} (h : Fl w a n xs) (h0 : 0 < n) : ∃ b off, a = some ⟨b, off, none⟩ := by
  obtain ⟨b, off, h, _⟩ := h.2 h0
  exact ⟨b, off, h⟩
end
theorem run_equalIn_func_nil {P : Program} (w : World) (d : Nat) (t : TypeId) {ps rs : Array TypeId} {v : Bool} (f : Fn) (x y : Array Value) (h : P.underlying t = some (.func ps rs v)) :
    (Op.equalIn (d + 1) t (.func f x y) .nilFunc).run P w = .ok false w := by simp [Op.equalIn, run_underlying h]
@[go_sem high] theorem eqlNilFunc (f : Fn) (x y : Array Value) (w : World) : (binOp .eql 39 (.func f x y) .nilFunc).run Try.prog w = .ok (.bool false) w := by
  simp only [binOp]
  simp [Op.equal, Op.maxDepth, run_equalIn_func_nil w 9999 39 f x y Try.underlying39]
end Go.Proofs.Ythjaopojlhdjpaa
