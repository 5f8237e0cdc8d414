/- Messages compared: msg.Same; the reference's Same. -/
import Derived.Test.YtekngjkjgmplpaaGreatMsgB
import Derived.Test.YtekngjkjgmplpaaGreatRow
import Derived.Shelf.SlSortCmp.NoneTotal
import Derived.Sort.OwnSorted
import Derived.Test.YtekngjkjgmplpaaGreatSort
import Derived.Lib.BytesEntry
import Derived.Laws.Externs
import Derived.Deep.Onto
namespace Go.Proofs.YtekngjkjgmplpaaGreat
set_option linter.unusedSimpArgs false
set_option linter.unusedVariables false
open Go Go.RowKit
/-- How long what a message holds is. -/
def MgL (x : MsgT) : Prop := x.wn ≤ 1000000 ∧ x.sn ≤ 1000000 ∧ x.nm.length ≤ 100000 ∧ (∀ r ∈ x.ws, r.1.length ≤ 100000 ∧ r.2.length ≤ 100000) ∧ ∀ y ∈ x.ss, y.n ≤ 100000 ∧ CLenS y.c
theorem sgEq_msg (a : Option Addr) (n c : Nat) (l : List SgnT) (a' : Option Addr) (n' c' : Nat) (l' : List SgnT) (W : World) (h : Fl W a n l) (h' : Fl W a' n' l') (hn : n ≤ 2000000) (hn' : n' ≤ 2000000) (ok : ∀ x ∈ l, SgOk W x ∧ x.n ≤ 100000) (ok' : ∀ x ∈ l', SgOk W x ∧ x.n ≤ 100000) :
    Calls Tryz.prog 102 #[.slice a n c, .slice a' n' c', .func (.func 103) #[] #[]] W fun e w' => e = .returned (.bool (sameSs l l')) ∧ Ext W w' :=
  sgEqualFunc_any a n c l a' n' c' l' W h h' hn hn' 103 #[] (fun _ _ _ => by kernel_rfl) (fun x hx y hy w hw => sgSame_any x y w ((ok x hx).1.ext hw) ((ok' y hy).1.ext hw) ⟨(ok x hx).2, (ok' y hy).2⟩)
set_option maxRecDepth 100000 in
set_option maxHeartbeats 4000000 in
theorem msgSame_any (x y : MsgT) (W : World) (hx : MgOk W x) (hy : MgOk W y) (lx : MgL x) (ly : MgL y) :
    Calls Tryz.prog 70 #[mgV x, mgV y] W fun e w' => e = .returned (.bool (sameMg x y)) ∧ Ext W w' := by
  have hse := fun W' (hw : Ext W W') h h' => sgEq_msg x.sa x.sn x.sc x.ss y.sa y.sn y.sc y.ss W' h h' (by have := lx.2.1; omega) (by have := ly.2.1; omega) (fun z hz => ⟨(hx.2.2 z hz).ext hw, (lx.2.2.2.2 z hz).1⟩) (fun z hz => ⟨(hy.2.2 z hz).ext hw, (ly.2.2.2.2 z hz).1⟩)
  have HSE := Lib.hid hse
  clear hse
  obtain ⟨r, hr⟩ : ∃ r, sameMg x y = r := ⟨_, rfl⟩
  rw [hr]
  have HX := Lib.hid hx
  have HY := Lib.hid hy
  have HRE := Lib.hid (fun W' h h' => roleEqual_any x.wa x.wn x.wc x.ws y.wa y.wn y.wc y.ws W' h h' (by have := lx.1; omega) (by have := ly.1; omega))
  obtain ⟨wq, hwq⟩ : ∃ b, decide (x.ws = y.ws) = b := ⟨_, rfl⟩
  rw [hwq] at HRE
  have HXO : Hid (∀ z ∈ x.ss, SgOk W z ∧ z.n ≤ 100000) := Lib.hid (fun z hz => ⟨hx.2.2 z hz, (lx.2.2.2.2 z hz).1⟩)
  have HYO : Hid (∀ z ∈ y.ss, SgOk W z ∧ z.n ≤ 100000) := Lib.hid (fun z hz => ⟨hy.2.2 z hz, (ly.2.2.2.2 z hz).1⟩)
  obtain ⟨sq, hsq⟩ : ∃ b, sameSs x.ss y.ss = b := ⟨_, rfl⟩
  have HSQ := Lib.hid hsq
  have HR : Hid (r = ((x.k == y.k) && (x.p == y.p) && (x.e == y.e) && (x.nm == y.nm) && wq && sq)) := Lib.hid (by rw [← hr, ← hwq, ← hsq]; rfl)
  have st := Own.startOld W
  have l1 := lx.2.1
  have l2 := ly.2.1
  clear hx hy lx ly hr hwq hsq
  obtain ⟨k, p, e, nm, wa, wn, wc, ws, sa, sn, sc, ss⟩ := x
  obtain ⟨k', p', e', nm', wa', wn', wc', ws', sa', sn', sc', ss'⟩ := y
  unfold MgOk at HX HY
  simp only at HRE HR HXO HYO HX HY l1 l2 HSQ
  unfold mgV S
  (try simp only [nsl, Value.cells, unB] at st)
  (try clear hc); have hc := st.facts; (try simp only [nfl, nft, Nat.reduceAdd] at hc)
  rw [HSQ.out] at HSE
  cases h1 : (k == k') with
  | false =>
    have H1 : Hid (r = false) := Lib.hid (by rw [HR.out, h1]; rfl)
    go_enter Tryz.func70, Tryz.ntmps70
    go_wp2_with ((first
          | ((with_reducible refine wl_box ?_ (fun K hK => ?_)); rfl; refine owp_box (o := ⟨some 2, _, _, _, _, _⟩) rfl st ?_; apply Exists.intro; refine ⟨?_, ?_⟩; (focus (go_simp; try rfl)); (clear st; intro b2 w hb st; clear hb))
          | ((with_reducible refine wl_box ?_ (fun K hK => ?_)); rfl; refine owp_box (o := ⟨some 3, _, _, _, _, _⟩) rfl st ?_; apply Exists.intro; refine ⟨?_, ?_⟩; (focus (go_simp; try rfl)); (clear st; intro b3 w hb st; clear hb))); (try simp only [nsl, Value.cells, unB] at st); (try clear hc); have hc := st.facts; (try simp only [nfl, nft, Nat.reduceAdd] at hc))
    go_ret
    exact ⟨by rw [H1.out]; rfl, st.ext0⟩
  | true =>
    cases h2 : (p == p') with
    | false =>
      have H1 : Hid (r = false) := Lib.hid (by rw [HR.out, h1, h2]; rfl)
      go_enter Tryz.func70, Tryz.ntmps70
      go_wp2_with ((first
            | ((with_reducible refine wl_box ?_ (fun K hK => ?_)); rfl; refine owp_box (o := ⟨some 2, _, _, _, _, _⟩) rfl st ?_; apply Exists.intro; refine ⟨?_, ?_⟩; (focus (go_simp; try rfl)); (clear st; intro b2 w hb st; clear hb))
            | ((with_reducible refine wl_box ?_ (fun K hK => ?_)); rfl; refine owp_box (o := ⟨some 3, _, _, _, _, _⟩) rfl st ?_; apply Exists.intro; refine ⟨?_, ?_⟩; (focus (go_simp; try rfl)); (clear st; intro b3 w hb st; clear hb))); (try simp only [nsl, Value.cells, unB] at st); (try clear hc); have hc := st.facts; (try simp only [nfl, nft, Nat.reduceAdd] at hc))
      go_ret
      exact ⟨by rw [H1.out]; rfl, st.ext0⟩
    | true =>
      cases h3 : (e == e') with
      | false =>
        have H1 : Hid (r = false) := Lib.hid (by rw [HR.out, h1, h2, h3]; rfl)
        go_enter Tryz.func70, Tryz.ntmps70
        go_wp2_with ((first
              | ((with_reducible refine wl_box ?_ (fun K hK => ?_)); rfl; refine owp_box (o := ⟨some 2, _, _, _, _, _⟩) rfl st ?_; apply Exists.intro; refine ⟨?_, ?_⟩; (focus (go_simp; try rfl)); (clear st; intro b2 w hb st; clear hb))
              | ((with_reducible refine wl_box ?_ (fun K hK => ?_)); rfl; refine owp_box (o := ⟨some 3, _, _, _, _, _⟩) rfl st ?_; apply Exists.intro; refine ⟨?_, ?_⟩; (focus (go_simp; try rfl)); (clear st; intro b3 w hb st; clear hb))); (try simp only [nsl, Value.cells, unB] at st); (try clear hc); have hc := st.facts; (try simp only [nfl, nft, Nat.reduceAdd] at hc))
        go_ret
        exact ⟨by rw [H1.out]; rfl, st.ext0⟩
      | true =>
        cases h4 : (nm == nm') with
        | false =>
          have H1 : Hid (r = false) := Lib.hid (by rw [HR.out, h1, h2, h3, h4]; rfl)
          go_enter Tryz.func70, Tryz.ntmps70
          go_wp2_with ((first
                | ((with_reducible refine wl_box ?_ (fun K hK => ?_)); rfl; refine owp_box (o := ⟨some 2, _, _, _, _, _⟩) rfl st ?_; apply Exists.intro; refine ⟨?_, ?_⟩; (focus (go_simp; try rfl)); (clear st; intro b2 w hb st; clear hb))
                | ((with_reducible refine wl_box ?_ (fun K hK => ?_)); rfl; refine owp_box (o := ⟨some 3, _, _, _, _, _⟩) rfl st ?_; apply Exists.intro; refine ⟨?_, ?_⟩; (focus (go_simp; try rfl)); (clear st; intro b3 w hb st; clear hb))); (try simp only [nsl, Value.cells, unB] at st); (try clear hc); have hc := st.facts; (try simp only [nfl, nft, Nat.reduceAdd] at hc))
          go_ret
          exact ⟨by rw [H1.out]; rfl, st.ext0⟩
        | true =>
          cases wq with
          | false =>
            have H1 : Hid (r = false) := Lib.hid (by rw [HR.out, h1, h2, h3, h4]; rfl)
            go_enter Tryz.func70, Tryz.ntmps70
            go_wp2_with ((first
                  | ((with_reducible refine wl_box ?_ (fun K hK => ?_)); rfl; refine owp_box (o := ⟨some 2, _, _, _, _, _⟩) rfl st ?_; apply Exists.intro; refine ⟨?_, ?_⟩; (focus (go_simp; try rfl)); (clear st; intro b2 w hb st; clear hb))
                  | ((with_reducible refine wl_box ?_ (fun K hK => ?_)); rfl; refine owp_box (o := ⟨some 3, _, _, _, _, _⟩) rfl st ?_; apply Exists.intro; refine ⟨?_, ?_⟩; (focus (go_simp; try rfl)); (clear st; intro b3 w hb st; clear hb))); (try simp only [nsl, Value.cells, unB] at st); (try clear hc); have hc := st.facts; (try simp only [nfl, nft, Nat.reduceAdd] at hc))
            refine (HRE.out _ (st.oldFl (i := 0) get0 HX.out.1.2) (st.oldFl (i := 0) get0 HY.out.1.2)).mono ?_
            rintro en w ⟨rfl, hx⟩
            replace st := st.ext hx
            clear hx
            go_wp2_with fail
            go_ret
            exact ⟨by rw [H1.out]; rfl, st.ext0⟩
          | true =>
            have H1 : Hid (r = sq) := Lib.hid (by rw [HR.out, h1, h2, h3, h4]; rfl)
            go_enter Tryz.func70, Tryz.ntmps70
            go_wp2_with ((first
                  | ((with_reducible refine wl_box ?_ (fun K hK => ?_)); rfl; refine owp_box (o := ⟨some 2, _, _, _, _, _⟩) rfl st ?_; apply Exists.intro; refine ⟨?_, ?_⟩; (focus (go_simp; try rfl)); (clear st; intro b2 w hb st; clear hb))
                  | ((with_reducible refine wl_box ?_ (fun K hK => ?_)); rfl; refine owp_box (o := ⟨some 3, _, _, _, _, _⟩) rfl st ?_; apply Exists.intro; refine ⟨?_, ?_⟩; (focus (go_simp; try rfl)); (clear st; intro b3 w hb st; clear hb))); (try simp only [nsl, Value.cells, unB] at st); (try clear hc); have hc := st.facts; (try simp only [nfl, nft, Nat.reduceAdd] at hc))
            refine (HRE.out _ (st.oldFl (i := 0) get0 HX.out.1.2) (st.oldFl (i := 0) get0 HY.out.1.2)).mono ?_
            rintro en w ⟨rfl, hx⟩
            replace st := st.ext hx
            clear hx
            (try simp only [nsl, Value.cells, unB] at st)
            (try clear hc); have hc := st.facts; (try simp only [nfl, nft, Nat.reduceAdd] at hc)
            go_wp2_with fail
            refine (HSE.out _ st.ext0 (st.oldFl (i := 0) get0 HX.out.2.1.2) (st.oldFl (i := 0) get0 HY.out.2.1.2)).mono ?_
            rintro en w ⟨rfl, hx⟩
            replace st := st.ext hx
            clear hx
            go_wp2_with fail
            go_ret
            exact ⟨by rw [H1.out]; rfl, st.ext0⟩
set_option maxRecDepth 100000 in
set_option maxHeartbeats 8000000 in
theorem refMsgSame_any (x y : MsgT) (W : World) (hx : MgOk W x) (hy : MgOk W y) (lx : MgL x) (ly : MgL y) :
    Calls Tryz.prog 14 #[mgV x, mgV y] W fun e w' => e = .returned (.bool (sameMg x y)) ∧ Ext W w' := by
  have HSE := Lib.hid hx
  obtain ⟨r, hr⟩ : ∃ r, sameMg x y = r := ⟨_, rfl⟩
  rw [hr]
  have HX := Lib.hid hx
  have HY := Lib.hid hy
  have HRE := Lib.hid (fun W' h h' => refRoleSame_any x.wa x.wn x.wc x.ws y.wa y.wn y.wc y.ws W' h h' (by have := lx.1; omega) (by have := ly.1; omega))
  obtain ⟨wq, hwq⟩ : ∃ b, decide (x.ws = y.ws) = b := ⟨_, rfl⟩
  rw [hwq] at HRE
  have HXO : Hid (∀ z ∈ x.ss, SgOk W z ∧ z.n ≤ 100000) := Lib.hid (fun z hz => ⟨hx.2.2 z hz, (lx.2.2.2.2 z hz).1⟩)
  have HYO : Hid (∀ z ∈ y.ss, SgOk W z ∧ z.n ≤ 100000) := Lib.hid (fun z hz => ⟨hy.2.2 z hz, (ly.2.2.2.2 z hz).1⟩)
  obtain ⟨sq, hsq⟩ : ∃ b, sameSs x.ss y.ss = b := ⟨_, rfl⟩
  have HSQ := Lib.hid hsq
  have HR : Hid (r = ((x.k == y.k) && (x.p == y.p) && (x.e == y.e) && (x.nm == y.nm) && wq && sq)) := Lib.hid (by rw [← hr, ← hwq, ← hsq]; rfl)
  have st := Own.startOld W
  have l1 := lx.2.1
  have l2 := ly.2.1
  clear hx hy lx ly hr hwq hsq
  obtain ⟨k, p, e, nm, wa, wn, wc, ws, sa, sn, sc, ss⟩ := x
  obtain ⟨k', p', e', nm', wa', wn', wc', ws', sa', sn', sc', ss'⟩ := y
  unfold MgOk at HX HY
  simp only at HRE HR HXO HYO HX HY l1 l2 HSQ
  unfold mgV S
  (try simp only [nsl, Value.cells, unB] at st)
  (try clear hc); have hc := st.facts; (try simp only [nfl, nft, Nat.reduceAdd] at hc)
  cases h1 : (k == k') with
  | false =>
    have h1n : (k != k') = true := by rw [bne, h1]; rfl
    have H1 : Hid (r = false) := Lib.hid (by rw [HR.out, h1]; rfl)
    go_enter Tryz.func14, Tryz.ntmps14
    go_wp2_with ((first
          | ((with_reducible refine wl_box ?_ (fun K hK => ?_)); rfl; refine owp_box (o := ⟨some 2, _, _, _, _, _⟩) rfl st ?_; apply Exists.intro; refine ⟨?_, ?_⟩; (focus (go_simp; try rfl)); (clear st; intro b2 w hb st; clear hb))
          | ((with_reducible refine wl_box ?_ (fun K hK => ?_)); rfl; refine owp_box (o := ⟨some 3, _, _, _, _, _⟩) rfl st ?_; apply Exists.intro; refine ⟨?_, ?_⟩; (focus (go_simp; try rfl)); (clear st; intro b3 w hb st; clear hb))); (try simp only [nsl, Value.cells, unB] at st); (try clear hc); have hc := st.facts; (try simp only [nfl, nft, Nat.reduceAdd] at hc))
    go_ret
    exact ⟨by rw [H1.out]; rfl, st.ext0⟩
  | true =>
    have h1n : (k != k') = false := by rw [bne, h1]; rfl
    cases h2 : (p == p') with
    | false =>
      have h2n : (p != p') = true := by rw [bne, h2]; rfl
      have H1 : Hid (r = false) := Lib.hid (by rw [HR.out, h1, h2]; rfl)
      go_enter Tryz.func14, Tryz.ntmps14
      go_wp2_with ((first
            | ((with_reducible refine wl_box ?_ (fun K hK => ?_)); rfl; refine owp_box (o := ⟨some 2, _, _, _, _, _⟩) rfl st ?_; apply Exists.intro; refine ⟨?_, ?_⟩; (focus (go_simp; try rfl)); (clear st; intro b2 w hb st; clear hb))
            | ((with_reducible refine wl_box ?_ (fun K hK => ?_)); rfl; refine owp_box (o := ⟨some 3, _, _, _, _, _⟩) rfl st ?_; apply Exists.intro; refine ⟨?_, ?_⟩; (focus (go_simp; try rfl)); (clear st; intro b3 w hb st; clear hb))); (try simp only [nsl, Value.cells, unB] at st); (try clear hc); have hc := st.facts; (try simp only [nfl, nft, Nat.reduceAdd] at hc))
      go_ret
      exact ⟨by rw [H1.out]; rfl, st.ext0⟩
    | true =>
      have h2n : (p != p') = false := by rw [bne, h2]; rfl
      cases h3 : (e == e') with
      | false =>
        have h3n : (e != e') = true := by rw [bne, h3]; rfl
        have H1 : Hid (r = false) := Lib.hid (by rw [HR.out, h1, h2, h3]; rfl)
        go_enter Tryz.func14, Tryz.ntmps14
        go_wp2_with ((first
              | ((with_reducible refine wl_box ?_ (fun K hK => ?_)); rfl; refine owp_box (o := ⟨some 2, _, _, _, _, _⟩) rfl st ?_; apply Exists.intro; refine ⟨?_, ?_⟩; (focus (go_simp; try rfl)); (clear st; intro b2 w hb st; clear hb))
              | ((with_reducible refine wl_box ?_ (fun K hK => ?_)); rfl; refine owp_box (o := ⟨some 3, _, _, _, _, _⟩) rfl st ?_; apply Exists.intro; refine ⟨?_, ?_⟩; (focus (go_simp; try rfl)); (clear st; intro b3 w hb st; clear hb))); (try simp only [nsl, Value.cells, unB] at st); (try clear hc); have hc := st.facts; (try simp only [nfl, nft, Nat.reduceAdd] at hc))
        go_ret
        exact ⟨by rw [H1.out]; rfl, st.ext0⟩
      | true =>
        have h3n : (e != e') = false := by rw [bne, h3]; rfl
        cases h4 : (nm == nm') with
        | false =>
          have H1 : Hid (r = false) := Lib.hid (by rw [HR.out, h1, h2, h3, h4]; rfl)
          go_enter Tryz.func14, Tryz.ntmps14
          go_wp2_with ((first
                | ((with_reducible refine wl_box ?_ (fun K hK => ?_)); rfl; refine owp_box (o := ⟨some 2, _, _, _, _, _⟩) rfl st ?_; apply Exists.intro; refine ⟨?_, ?_⟩; (focus (go_simp; try rfl)); (clear st; intro b2 w hb st; clear hb))
                | ((with_reducible refine wl_box ?_ (fun K hK => ?_)); rfl; refine owp_box (o := ⟨some 3, _, _, _, _, _⟩) rfl st ?_; apply Exists.intro; refine ⟨?_, ?_⟩; (focus (go_simp; try rfl)); (clear st; intro b3 w hb st; clear hb))); (try simp only [nsl, Value.cells, unB] at st); (try clear hc); have hc := st.facts; (try simp only [nfl, nft, Nat.reduceAdd] at hc))
          go_ret
          exact ⟨by rw [H1.out]; rfl, st.ext0⟩
        | true =>
          cases wq with
          | false =>
            have H1 : Hid (r = false) := Lib.hid (by rw [HR.out, h1, h2, h3, h4]; rfl)
            go_enter Tryz.func14, Tryz.ntmps14
            go_wp2_with ((first
                  | ((with_reducible refine wl_box ?_ (fun K hK => ?_)); rfl; refine owp_box (o := ⟨some 2, _, _, _, _, _⟩) rfl st ?_; apply Exists.intro; refine ⟨?_, ?_⟩; (focus (go_simp; try rfl)); (clear st; intro b2 w hb st; clear hb))
                  | ((with_reducible refine wl_box ?_ (fun K hK => ?_)); rfl; refine owp_box (o := ⟨some 3, _, _, _, _, _⟩) rfl st ?_; apply Exists.intro; refine ⟨?_, ?_⟩; (focus (go_simp; try rfl)); (clear st; intro b3 w hb st; clear hb))); (try simp only [nsl, Value.cells, unB] at st); (try clear hc); have hc := st.facts; (try simp only [nfl, nft, Nat.reduceAdd] at hc))
            refine (HRE.out _ (st.oldFl (i := 0) get0 HX.out.1.2) (st.oldFl (i := 0) get0 HY.out.1.2)).mono ?_
            rintro en w ⟨rfl, hx⟩
            replace st := st.ext hx
            clear hx
            go_wp2_with fail
            go_ret
            exact ⟨by rw [H1.out]; rfl, st.ext0⟩
          | true =>
            have H1 : Hid (r = sq) := Lib.hid (by rw [HR.out, h1, h2, h3, h4]; rfl)
            by_cases hnn : sn = sn'
            · subst hnn
              go_enter Tryz.func14, Tryz.ntmps14
              go_wp2_with ((first
                    | ((with_reducible refine wl_box ?_ (fun K hK => ?_)); rfl; refine owp_box (o := ⟨some 2, _, _, _, _, _⟩) rfl st ?_; apply Exists.intro; refine ⟨?_, ?_⟩; (focus (go_simp; try rfl)); (clear st; intro b2 w hb st; clear hb))
                    | ((with_reducible refine wl_box ?_ (fun K hK => ?_)); rfl; refine owp_box (o := ⟨some 3, _, _, _, _, _⟩) rfl st ?_; apply Exists.intro; refine ⟨?_, ?_⟩; (focus (go_simp; try rfl)); (clear st; intro b3 w hb st; clear hb))); (try simp only [nsl, Value.cells, unB] at st); (try clear hc); have hc := st.facts; (try simp only [nfl, nft, Nat.reduceAdd] at hc))
              refine (HRE.out _ (st.oldFl (i := 0) get0 HX.out.1.2) (st.oldFl (i := 0) get0 HY.out.1.2)).mono ?_
              rintro en w ⟨rfl, hx⟩
              replace st := st.ext hx
              clear hx
              (try simp only [nsl, Value.cells, unB] at st)
              (try clear hc); have hc := st.facts; (try simp only [nfl, nft, Nat.reduceAdd] at hc)
              go_wp2_with fail
              go_loopg [52] sn (fun kk i wr => ∃ (j : Nat), j ≤ sn ∧ kk = sn - j ∧ i = .int .i64 (j : Int) ∧ Hid (r = sameSs (ss.drop j) (ss'.drop j)) ∧ Own (fun _ => False) (fun _ => True) W [oldI W, blkI b2 [.int .i64 k, .int .i64 p, .int .i64 e, .string ⟨nm.toArray⟩, .slice wa wn wc, .slice sa sn sc], blkI b3 [.int .i64 k', .int .i64 p', .int .i64 e', .string ⟨nm'.toArray⟩, .slice wa' wn' wc', .slice sa' sn sc']] wr)
              case atStart => exact ⟨0, by omega, by omega, rfl, Lib.hid (by rw [List.drop_zero, List.drop_zero, HSQ.out]; exact H1.out), st⟩
              case round =>
                obtain ⟨j, hj, rfl, rfl, HT, st'⟩ := hrel
                clear st hc
                have st := st'
                clear st'
                (try simp only [nsl, Value.cells, unB] at st)
                (try clear hc); have hc := st.facts; (try simp only [nfl, nft, Nat.reduceAdd] at hc)
                by_cases hjn : j < sn
                · obtain ⟨b, off, ha, hcell⟩ := HX.out.2.1.2.sgn (by omega)
                  obtain ⟨b', off', ha', hcell'⟩ := HY.out.2.1.2.sgn (by omega)
                  have hjl : j < ss.length := by have := HX.out.2.1.2.1; omega
                  have hjl' : j < ss'.length := by have := HY.out.2.1.2.1; omega
                  have HC1 := Lib.hid (hcell j ss[j] (List.getElem?_eq_getElem hjl))
                  have HC2 := Lib.hid (hcell' j ss'[j] (List.getElem?_eq_getElem hjl'))
                  have hS := sameSs_step ss ss' j hjl hjl'
                  have HO := Lib.hid (And.intro (HXO.out ss[j] (List.getElem_mem hjl)) (HYO.out ss'[j] (List.getElem_mem hjl')))
                  have hQ := fun W' (hw : Ext W W') => refSgSame_any ss[j] ss'[j] W' (HO.out.1.1.ext hw) (HO.out.2.1.ext hw) ⟨HO.out.1.2, HO.out.2.2⟩
                  have HS := Lib.hid hS
                  have HQ := Lib.hid hQ
                  clear hcell hcell' hS hQ HO
                  generalize ss[j] = x at *
                  generalize ss'[j] = y at *
                  obtain ⟨q, hq⟩ : ∃ q, sameSg x y = q := ⟨_, rfl⟩
                  rw [hq] at HQ HS
                  clear hq hjl hjl'
                  obtain ⟨⟨k1, ⟨ho, hd⟩, nw, ⟨bo, bd⟩, ⟨co, cd⟩, we⟩, a1, n1, m1, xs⟩ := x
                  obtain ⟨⟨k2, ⟨ho', hd'⟩, nw', ⟨bo', bd'⟩, ⟨co', cd'⟩, we'⟩, a2, n2, m2, ys⟩ := y
                  subst ha ha'
                  simp only at HC1 HC2
                  unfold S at HC1 HC2
                  unfold sgV S at HQ
                  go_wp2_with fail
                  refine Rg4.wp_region4_eq #[0, 1, 0, 7, 15, 0, 32, 0, 224, 480, 1023, 2047] [10] [1, 4, 6, 9] (fun _ => True) [0, 1, 2, 3, 4, 5, 6, 7, 8, 9, 10, 11] (by kernel_rfl) (by kernel_rfl) (by kernel_rfl) (by kernel_rfl) (show Rg4.PB _ by repeat (first | with_reducible exact Rg4.pb_body | with_reducible exact Rg4.pb_bodyD rfl | with_reducible refine Rg4.pb_then ?_ | with_reducible refine Rg4.pb_inBlock ?_ | with_reducible refine Rg4.pb_noGoto ?_)) (trivial) ?_
                  replace st := st.drew
                  change Rg4.wp4 _ _ _ _ _ _ _ _ _ (World.drew _) _ _
                  generalize World.drew _ = w at st ⊢
                  (try clear hc); have hc := st.facts; (try simp only [nfl, nft, Nat.reduceAdd] at hc)
                  (refine Rg4.w4_any (Rg4.want_none rfl) rfl ?_; apply Exists.intro; refine ⟨fun w' => ?_, ?_⟩; (focus (first | (go_simp; done) | (go_simp; first | rfl | (rw [if_neg] <;> first | rfl | omega) | (rw [if_pos] <;> first | rfl | omega)))); (try simp only [Rg4.nrm]))
                  (refine Rg4.w4_read (Rg4.want_none rfl) rfl rfl ?_; apply Exists.intro; refine ⟨fun w' hw' hcl' => ?_, ?_⟩; focus (subst hw'; obtain ⟨r0, r1, r2, r3, r4, r5, r6, r7, r8, r9⟩ := HC1.out; obtain ⟨p0, p1, p2, p3, p4, p5, p6, p7, p8, p9⟩ := HC2.out; replace r0 := st.oldCell (i := 0) get0 r0; replace r1 := st.oldCell (i := 0) get0 r1; replace r2 := st.oldCell (i := 0) get0 r2; replace r3 := st.oldCell (i := 0) get0 r3; replace r4 := st.oldCell (i := 0) get0 r4; replace r5 := st.oldCell (i := 0) get0 r5; replace r6 := st.oldCell (i := 0) get0 r6; replace r7 := st.oldCell (i := 0) get0 r7; replace r8 := st.oldCell (i := 0) get0 r8; replace r9 := st.oldCell (i := 0) get0 r9; replace p0 := st.oldCell (i := 0) get0 p0; replace p1 := st.oldCell (i := 0) get0 p1; replace p2 := st.oldCell (i := 0) get0 p2; replace p3 := st.oldCell (i := 0) get0 p3; replace p4 := st.oldCell (i := 0) get0 p4; replace p5 := st.oldCell (i := 0) get0 p5; replace p6 := st.oldCell (i := 0) get0 p6; replace p7 := st.oldCell (i := 0) get0 p7; replace p8 := st.oldCell (i := 0) get0 p8; replace p9 := st.oldCell (i := 0) get0 p9; (focus (first | (go_simp; done) | (go_simp; first | rfl | (rw [if_neg] <;> first | rfl | omega) | (rw [if_pos] <;> first | rfl | omega))))); (try simp only [Rg4.nrm]))
                  iterate 2 (refine Rg4.w4_any (Rg4.want_none rfl) rfl ?_; apply Exists.intro; refine ⟨fun w' => ?_, ?_⟩; (focus (first | (go_simp; done) | (go_simp; first | rfl | (rw [if_neg] <;> first | rfl | omega) | (rw [if_pos] <;> first | rfl | omega)))); (try simp only [Rg4.nrm]))
                  (refine Rg4.w4_read (Rg4.want_none rfl) rfl rfl ?_; apply Exists.intro; refine ⟨fun w' hw' hcl' => ?_, ?_⟩; focus (subst hw'; obtain ⟨r0, r1, r2, r3, r4, r5, r6, r7, r8, r9⟩ := HC1.out; obtain ⟨p0, p1, p2, p3, p4, p5, p6, p7, p8, p9⟩ := HC2.out; replace r0 := st.oldCell (i := 0) get0 r0; replace r1 := st.oldCell (i := 0) get0 r1; replace r2 := st.oldCell (i := 0) get0 r2; replace r3 := st.oldCell (i := 0) get0 r3; replace r4 := st.oldCell (i := 0) get0 r4; replace r5 := st.oldCell (i := 0) get0 r5; replace r6 := st.oldCell (i := 0) get0 r6; replace r7 := st.oldCell (i := 0) get0 r7; replace r8 := st.oldCell (i := 0) get0 r8; replace r9 := st.oldCell (i := 0) get0 r9; replace p0 := st.oldCell (i := 0) get0 p0; replace p1 := st.oldCell (i := 0) get0 p1; replace p2 := st.oldCell (i := 0) get0 p2; replace p3 := st.oldCell (i := 0) get0 p3; replace p4 := st.oldCell (i := 0) get0 p4; replace p5 := st.oldCell (i := 0) get0 p5; replace p6 := st.oldCell (i := 0) get0 p6; replace p7 := st.oldCell (i := 0) get0 p7; replace p8 := st.oldCell (i := 0) get0 p8; replace p9 := st.oldCell (i := 0) get0 p9; (focus (first | (go_simp; done) | (go_simp; first | rfl | (rw [if_neg] <;> first | rfl | omega) | (rw [if_pos] <;> first | rfl | omega))))); (try simp only [Rg4.nrm]))
                  (refine Rg4.w4_any (Rg4.want_none rfl) rfl ?_; apply Exists.intro; refine ⟨fun w' => ?_, ?_⟩; (focus (first | (go_simp; done) | (go_simp; first | rfl | (rw [if_neg] <;> first | rfl | omega) | (rw [if_pos] <;> first | rfl | omega)))); (try simp only [Rg4.nrm]))
                  (refine Rg4.w4_read (Rg4.want_none rfl) rfl rfl ?_; apply Exists.intro; refine ⟨fun w' hw' hcl' => ?_, ?_⟩; focus (subst hw'; obtain ⟨r0, r1, r2, r3, r4, r5, r6, r7, r8, r9⟩ := HC1.out; obtain ⟨p0, p1, p2, p3, p4, p5, p6, p7, p8, p9⟩ := HC2.out; replace r0 := st.oldCell (i := 0) get0 r0; replace r1 := st.oldCell (i := 0) get0 r1; replace r2 := st.oldCell (i := 0) get0 r2; replace r3 := st.oldCell (i := 0) get0 r3; replace r4 := st.oldCell (i := 0) get0 r4; replace r5 := st.oldCell (i := 0) get0 r5; replace r6 := st.oldCell (i := 0) get0 r6; replace r7 := st.oldCell (i := 0) get0 r7; replace r8 := st.oldCell (i := 0) get0 r8; replace r9 := st.oldCell (i := 0) get0 r9; replace p0 := st.oldCell (i := 0) get0 p0; replace p1 := st.oldCell (i := 0) get0 p1; replace p2 := st.oldCell (i := 0) get0 p2; replace p3 := st.oldCell (i := 0) get0 p3; replace p4 := st.oldCell (i := 0) get0 p4; replace p5 := st.oldCell (i := 0) get0 p5; replace p6 := st.oldCell (i := 0) get0 p6; replace p7 := st.oldCell (i := 0) get0 p7; replace p8 := st.oldCell (i := 0) get0 p8; replace p9 := st.oldCell (i := 0) get0 p9; (focus (first | (go_simp; done) | (go_simp; first | rfl | (rw [if_neg] <;> first | rfl | omega) | (rw [if_pos] <;> first | rfl | omega))))); (try simp only [Rg4.nrm]))
                  iterate 2 (refine Rg4.w4_any (Rg4.want_none rfl) rfl ?_; apply Exists.intro; refine ⟨fun w' => ?_, ?_⟩; (focus (first | (go_simp; done) | (go_simp; first | rfl | (rw [if_neg] <;> first | rfl | omega) | (rw [if_pos] <;> first | rfl | omega)))); (try simp only [Rg4.nrm]))
                  (refine Rg4.w4_read (Rg4.want_none rfl) rfl rfl ?_; apply Exists.intro; refine ⟨fun w' hw' hcl' => ?_, ?_⟩; focus (subst hw'; obtain ⟨r0, r1, r2, r3, r4, r5, r6, r7, r8, r9⟩ := HC1.out; obtain ⟨p0, p1, p2, p3, p4, p5, p6, p7, p8, p9⟩ := HC2.out; replace r0 := st.oldCell (i := 0) get0 r0; replace r1 := st.oldCell (i := 0) get0 r1; replace r2 := st.oldCell (i := 0) get0 r2; replace r3 := st.oldCell (i := 0) get0 r3; replace r4 := st.oldCell (i := 0) get0 r4; replace r5 := st.oldCell (i := 0) get0 r5; replace r6 := st.oldCell (i := 0) get0 r6; replace r7 := st.oldCell (i := 0) get0 r7; replace r8 := st.oldCell (i := 0) get0 r8; replace r9 := st.oldCell (i := 0) get0 r9; replace p0 := st.oldCell (i := 0) get0 p0; replace p1 := st.oldCell (i := 0) get0 p1; replace p2 := st.oldCell (i := 0) get0 p2; replace p3 := st.oldCell (i := 0) get0 p3; replace p4 := st.oldCell (i := 0) get0 p4; replace p5 := st.oldCell (i := 0) get0 p5; replace p6 := st.oldCell (i := 0) get0 p6; replace p7 := st.oldCell (i := 0) get0 p7; replace p8 := st.oldCell (i := 0) get0 p8; replace p9 := st.oldCell (i := 0) get0 p9; (focus (first | (go_simp; done) | (go_simp; first | rfl | (rw [if_neg] <;> first | rfl | omega) | (rw [if_pos] <;> first | rfl | omega))))); (try simp only [Rg4.nrm]))
                  refine Rg4.w4_bar (Rg4.want_none rfl) rfl (fun w' hw' hcl _ K hK => ?_)
                  subst hw'
                  go_wp2_with fail
                  refine (HQ.out _ st.ext0).mono ?_
                  rintro en w ⟨rfl, hx⟩
                  replace st := st.ext hx
                  clear hx
                  (try simp only [nsl, Value.cells, unB] at st)
                  (try clear hc); have hc := st.facts; (try simp only [nfl, nft, Nat.reduceAdd] at hc)
                  refine hK _ _ ⟨trivial, ?_⟩
                  clear hK
                  (try simp only [Rg4.nrm])
                  (refine Rg4.w4_any (Rg4.want_none rfl) rfl ?_; apply Exists.intro; refine ⟨fun w' => ?_, ?_⟩; (focus (first | (go_simp; done) | (go_simp; first | rfl | (rw [if_neg] <;> first | rfl | omega) | (rw [if_pos] <;> first | rfl | omega)))); (try simp only [Rg4.nrm]))
                  refine Rg4.w4_nil (fun w' hw' hcl' _ => ?_); subst hw'; clear hcl'
                  cases q with
                  | false =>
                    have HF : Hid (r = false) := Lib.hid (by rw [HT.out, HS.out]; rfl)
                    have hb : (!false) = true := rfl
                    simp only [hb]
                    go_wp2_with fail
                    go_ret
                    exact ⟨by rw [HF.out]; rfl, st.ext0⟩
                  | true =>
                    have HF : Hid (r = sameSs (ss.drop (j + 1)) (ss'.drop (j + 1))) := Lib.hid (by rw [HT.out, HS.out]; rfl)
                    have hb : (!true) = false := rfl
                    simp only [hb]
                    go_wp2_with fail
                    go_roundg (sn - (j + 1))
                    case measure => omega
                    case rel => exact ⟨j + 1, by omega, by omega, by go_num, HF, st⟩
                · obtain rfl : j = sn := by omega
                  have HF : Hid (r = true) := Lib.hid (by rw [HT.out]; exact sameSs_end _ _ _ (by have := HX.out.2.1.2.1; omega) (by have := HY.out.2.1.2.1; omega))
                  go_wp2_with fail
                  go_ret
                  exact ⟨by rw [HF.out]; rfl, st.ext0⟩
            · have hnb : ((sn : Int) != (sn' : Int)) = true := by simpa using (by omega : (sn : Int) ≠ sn')
              have HF : Hid (r = false) := Lib.hid (by rw [H1.out, ← HSQ.out]; exact sameSs_len _ _ (by have h5 := HX.out.2.1.2.1; have h6 := HY.out.2.1.2.1; omega))
              have HNN := Lib.hid hnn
              clear hnn
              go_enter Tryz.func14, Tryz.ntmps14
              go_wp2_with ((first
                    | ((with_reducible refine wl_box ?_ (fun K hK => ?_)); rfl; refine owp_box (o := ⟨some 2, _, _, _, _, _⟩) rfl st ?_; apply Exists.intro; refine ⟨?_, ?_⟩; (focus (go_simp; try rfl)); (clear st; intro b2 w hb st; clear hb))
                    | ((with_reducible refine wl_box ?_ (fun K hK => ?_)); rfl; refine owp_box (o := ⟨some 3, _, _, _, _, _⟩) rfl st ?_; apply Exists.intro; refine ⟨?_, ?_⟩; (focus (go_simp; try rfl)); (clear st; intro b3 w hb st; clear hb))); (try simp only [nsl, Value.cells, unB] at st); (try clear hc); have hc := st.facts; (try simp only [nfl, nft, Nat.reduceAdd] at hc))
              refine (HRE.out _ (st.oldFl (i := 0) get0 HX.out.1.2) (st.oldFl (i := 0) get0 HY.out.1.2)).mono ?_
              rintro en w ⟨rfl, hx⟩
              replace st := st.ext hx
              clear hx
              (try simp only [nsl, Value.cells, unB] at st)
              (try clear hc); have hc := st.facts; (try simp only [nfl, nft, Nat.reduceAdd] at hc)
              go_wp2_with fail
              go_ret
              exact ⟨by rw [HF.out]; rfl, st.ext0⟩
end Go.Proofs.YtekngjkjgmplpaaGreat

namespace Go.Proofs.YtekngjkjgmplpaaGreat
set_option linter.unusedSimpArgs false
set_option linter.unusedVariables false
open Go Go.RowKit
theorem roleInfo : ∃ i, Tryz.prog.info? 45 = some i ∧ i.zero = some (rV ([], [])) ∧ i.size = 2 ∧ i.bytes = 32 := info_parts (by kernel_rfl)
theorem roleLen {w : World} {n : Nat} {v : Value} {E : TypeId} {xs : List Role} (h : w.ownsRow 0 E 2 v n (cellsL xs)) : n = xs.length := by
  have := h.1
  rw [cellsL_len, fltRole_k] at this
  omega
theorem role_get {xs : List Role} {j : Nat} {x : Role} (h : xs[j]? = some x) : (cellsL xs)[j * 2]? = some (S x.1) ∧ (cellsL xs)[j * 2 + 1]? = some (S x.2) :=
  ⟨cellsL_get (i := j) (j := 0) h (by decide), cellsL_get (i := j) (j := 1) h (by decide)⟩
set_option maxRecDepth 100000 in
set_option maxHeartbeats 1000000 in
theorem indexFuncRole_c {fr al : Nat → Prop} {w0 w : World} {n c : Nat} {a : Option Addr} {xs : List Role} (st : Own fr al w0 [rowI 45 2 (.slice a n c) n (cellsL xs)] w) (hn : n ≤ 2000000) (F : FuncId) (cap : Array Value) (p : Role → Bool)
    (hi : ∀ w x, (callFunc F (#[x] ++ cap)).run Tryz.prog w = .ok (.enter F (#[x] ++ cap)) w)
    (hp : ∀ x ∈ xs, ∀ w, Calls Tryz.prog F (#[rV x] ++ cap) w fun e w' => e = .returned (.bool (p x)) ∧ Ext w w') :
    Calls Tryz.prog 145 #[.slice a n c, .func (.func F) #[] cap] w fun e w' => ∃ v, e = .returned (.int .i64 v) ∧ IxIs p xs v ∧ Own fr al w0 [rowI 45 2 (.slice a n c) n (cellsL xs)] w' := by
  have HP := Lib.hid hp
  have HN : Hid (n = xs.length) := Lib.hid (roleLen (st.row (i := 0) get0))
  clear hp
  (try simp only [nsl, Value.cells, unB] at st)
  (try clear hc); have hc := st.facts; (try simp only [nfl, nft, Nat.reduceAdd] at hc)
  go_enter Tryz.func145, Tryz.ntmps145
  go_wp2_with fail
  go_loopg [8] n (fun k i wr => ∃ (j : Nat), j ≤ n ∧ k = n - j ∧ i = .int .i64 (j : Int) ∧ Hid (∀ x ∈ xs.take j, p x = false) ∧ Own fr al w0 [rowI 45 2 (.slice a n c) n (cellsL xs)] wr)
  case atStart => exact ⟨0, by omega, by omega, rfl, Lib.hid (by simp), st⟩
  case round =>
    obtain ⟨j, hj, rfl, rfl, HT, st'⟩ := hrel
    clear st hc
    have st := st'
    clear st'
    (try simp only [nsl, Value.cells, unB] at st)
    (try clear hc); have hc := st.facts; (try simp only [nfl, nft, Nat.reduceAdd] at hc)
    by_cases hjn : j < n
    · obtain ⟨g, cap', hv, hcap, hrow⟩ := st.rowAt (i := 0) get0 (by omega)
      injection hv with hv1 hv2 hv3
      subst hv1 hv3
      have hjl : j < xs.length := by have := HN.out; omega
      have r0 := hrow (j * 2) (S xs[j].1) (role_get (List.getElem?_eq_getElem hjl)).1
      have r1 := hrow (j * 2 + 1) (S xs[j].2) (role_get (List.getElem?_eq_getElem hjl)).2
      have hts : xs.take (j + 1) = xs.take j ++ [xs[j]] := (List.take_append_getElem hjl).symm
      have hx := HP.out xs[j] (List.getElem_mem hjl)
      have hge := List.getElem?_eq_getElem hjl
      clear hrow
      generalize xs[j] = x at *
      obtain ⟨o, d⟩ := x
      have HX := Lib.hid (And.intro hts (And.intro hjl hge))
      clear hts hge hjl
      simp only at r0 r1
      unfold S at r0 r1
      unfold rV S at hx
      have HQ := Lib.hid hx
      clear hx
      go_wp2_with fail
      refine (HQ.out _).mono ?_
      rintro en w ⟨rfl, hx⟩
      replace st := st.ext hx
      clear hx r0 r1
      by_cases hpx : p (o, d) = true
      · rw [hpx]
        have HF : Hid (IxIs p xs (j : Int)) := Lib.hid (.inr ⟨j, (o, d), rfl, HX.out.2.1, HX.out.2.2, hpx, HT.out⟩)
        clear hpx
        go_wp2_with fail
        go_ret
        exact ⟨_, rfl, HF.out, st⟩
      · have hpx' : p (o, d) = false := by simpa using hpx
        rw [hpx']
        have HF : Hid (∀ y ∈ xs.take (j + 1), p y = false) := Lib.hid (fun y hy => by
          rw [HX.out.1] at hy
          rcases List.mem_append.1 hy with q | q
          · exact HT.out y q
          · rw [List.mem_singleton.1 q]; exact hpx')
        clear hpx hpx'
        go_wp2_with fail
        go_roundg (n - (j + 1))
        case measure => omega
        case rel => exact ⟨j + 1, by omega, rfl, by go_num, HF, st⟩
    · obtain rfl : j = n := by omega
      have HF : Hid (IxIs p xs (-1)) := Lib.hid (.inl ⟨rfl, by have := HT.out; rwa [List.take_of_length_le (by have := HN.out; omega)] at this⟩)
      go_wp2_with fail
      go_ret
      exact ⟨_, rfl, HF.out, st⟩
set_option maxRecDepth 100000 in
set_option maxHeartbeats 2000000 in
theorem deleteFuncRole_c {fr al : Nat → Prop} {w0 w : World} {n c : Nat} {a : Option Addr} {xs : List Role} (st : Own fr al w0 [rowI 45 2 (.slice a n c) n (cellsL xs)] w) (hn : n ≤ 2000000) (F : FuncId) (cap : Array Value) (p : Role → Bool)
    (hi : ∀ w x, (callFunc F (#[x] ++ cap)).run Tryz.prog w = .ok (.enter F (#[x] ++ cap)) w)
    (hp : ∀ x ∈ xs, ∀ w, Calls Tryz.prog F (#[rV x] ++ cap) w fun e w' => e = .returned (.bool (p x)) ∧ Ext w w') :
    Calls Tryz.prog 122 #[.slice a n c, .func (.func F) #[] cap] w fun e w' => ∃ m, e = .returned (.slice a m c) ∧ Own fr al w0 [rowI 45 2 (.slice a m c) m (cellsL (xs.filter fun x => !p x))] w' := by
  have HP := Lib.hid hp
  have HN : Hid (n = xs.length) := Lib.hid (roleLen (st.row (i := 0) get0))
  clear hp
  (try simp only [nsl, Value.cells, unB] at st)
  (try clear hc); have hc := st.facts; (try simp only [nfl, nft, Nat.reduceAdd] at hc)
  go_enter Tryz.func122, Tryz.ntmps122
  go_wp2_with fail
  refine (indexFuncRole_c st hn F cap p hi HP.out).mono ?_
  clear st
  rintro en w ⟨v, rfl, hix, st⟩
  rcases hix with ⟨rfl, hall⟩ | ⟨i0, y, rfl, hil, hiy, hpy, hpre⟩
  · have HF : Hid (xs.filter (fun x => !p x) = xs) := Lib.hid (List.filter_eq_self.2 fun x hx => by simp [hall x hx])
    clear hall
    go_wp2_with fail
    go_ret
    exact ⟨n, rfl, by rw [HF.out]; exact st⟩
  · obtain ⟨g, cap', hv, hcap, hrow⟩ := st.rowAt (i := 0) get0 (by have := HN.out; omega)
    injection hv with hv1 hv2 hv3
    subst hv1 hv3
    clear hrow
    have hi0 : i0 < n := by have := HN.out; omega
    have HS : Hid (xs.take i0 = (xs.take (i0 + 1)).filter (fun x => !p x)) := Lib.hid (by
      have e1 : xs[i0] = y := by rw [List.getElem?_eq_getElem hil] at hiy; injection hiy
      rw [← List.take_append_getElem hil, List.filter_append, e1]
      simp only [List.filter_cons, hpy]
      simp
      exact (List.filter_eq_self.2 fun x hx => by simp [hpre x hx]).symm)
    have hcap2 : c ≤ 9223372036854775807 := by have := hcap.2; simpa [maxLen] using this
    have hcap1 := hcap.1
    clear hil hiy hpy hpre hcap
    have hb1 : ((i0 : Int) == -1) = false := by simp
    go_wp2_with fail
    go_loopg [5, 6] (n - (i0 + 1)) (fun k vi vj wr => ∃ (i j : Nat) (zs : List Role), j ≤ n ∧ k = n - j ∧ i < j ∧ vi = .int .i64 (i : Int) ∧ vj = .int .i64 (j : Int) ∧ Hid (zs.length = n ∧ zs.take i = (xs.take j).filter (fun x => !p x) ∧ zs.drop j = xs.drop j) ∧ Own fr al w0 [rowI 45 2 (.slice (some ⟨g, 0, none⟩) n c) n (cellsL zs)] wr)
    case atStart => exact ⟨i0, i0 + 1, xs, by omega, by omega, by omega, rfl, by go_num, Lib.hid ⟨HN.out.symm, HS.out, rfl⟩, st⟩
    case round =>
      obtain ⟨i, j, zs, hj, rfl, hij, rfl, rfl, HZ, st'⟩ := hrel
      clear st
      have st := st'
      clear st'
      (try simp only [nsl, Value.cells, unB] at st)
      (try clear hc); have hc := st.facts; (try simp only [nfl, nft, Nat.reduceAdd] at hc)
      by_cases hjn : j < n
      · obtain ⟨g', cap', hv, hcap, hrow⟩ := st.rowAt (i := 0) get0 (by omega)
        injection hv with hv1 hv2 hv3
        injection hv1 with hv1
        injection hv1 with hv1 _ _
        subst hv1 hv3
        have hjz : j < zs.length := by have := HZ.out.1; omega
        have hjx : j < xs.length := by have := HN.out; omega
        have hzx : zs[j] = xs[j] := by
          have e1 := congrArg (fun l => l[0]?) HZ.out.2.2
          simp only [List.getElem?_drop, Nat.add_zero, List.getElem?_eq_getElem hjz, List.getElem?_eq_getElem hjx] at e1
          injection e1
        have r0 := hrow (j * 2) (S xs[j].1) (by rw [← hzx]; exact (role_get (List.getElem?_eq_getElem hjz)).1)
        have r1 := hrow (j * 2 + 1) (S xs[j].2) (by rw [← hzx]; exact (role_get (List.getElem?_eq_getElem hjz)).2)
        have hts : xs.take (j + 1) = xs.take j ++ [xs[j]] := (List.take_append_getElem hjx).symm
        have hx := HP.out xs[j] (List.getElem_mem hjx)
        clear hrow hzx
        generalize xs[j] = x at *
        obtain ⟨o, d⟩ := x
        have HX := Lib.hid hts
        clear hts hjz hjx
        simp only at r0 r1
        unfold S at r0 r1
        unfold rV S at hx
        have HQ := Lib.hid hx
        clear hx
        go_wp2_with ((first
              | ((with_reducible refine wl_alloc ?_ (fun K hK => ?_)); rfl; refine owp_alloc (o := ⟨some 7, _, _, _, _, _⟩) rfl st ?_; apply Exists.intro; apply Exists.intro; refine ⟨?_, ?_⟩; (focus (first | (go_simp; done) | (go_simp; rfl))); (clear st; intro b7 w hb st; clear hb))
              | ((with_reducible refine wl_store ?_ (fun K hK => ?_)); rfl; refine owp_store rfl st ?_; apply Exists.intro; apply Exists.intro; refine ⟨?_, ?_, ?_⟩; (focus (go_simp; try rfl)); (focus (go_simp; try rfl)); (with_reducible refine ⟨1, _, _, _, _, get1, rfl, rfl, ?_, ?_, ?_, ?_⟩); (kernel_rfl); (simp [Value.cells]); (rfl); (clear st; intro w st))); (try simp only [nsl, Value.cells, unB] at st); (try clear hc); have hc := st.facts; (try simp only [nfl, nft, Nat.reduceAdd] at hc))
        clear r0 r1
        refine (HQ.out _).mono ?_
        rintro en w ⟨rfl, hx⟩
        replace st := st.ext hx
        clear hx
        (try clear hc); have hc := st.facts; (try simp only [nfl, nft, Nat.reduceAdd] at hc)
        by_cases hpx : p (o, d) = true
        · rw [hpx]
          have HF : Hid ((xs.take (j + 1)).filter (fun x => !p x) = (xs.take j).filter (fun x => !p x) ∧ zs.drop (j + 1) = xs.drop (j + 1)) := Lib.hid ⟨by rw [HX.out, List.filter_append]; simp [hpx], by
            have := congrArg (List.drop 1) HZ.out.2.2; simpa [List.drop_drop] using this⟩
          clear hpx
          go_wp2_with fail
          have st' := st.keep [0] (by decide) (by simp)
          go_roundg (n - (j + 1))
          case measure => omega
          case rel => exact ⟨i, j + 1, zs, by omega, rfl, by omega, rfl, by go_num, Lib.hid ⟨HZ.out.1, by rw [HF.out.1]; exact HZ.out.2.1, HF.out.2⟩, by simpa [pick] using st'⟩
        · have hpx' : p (o, d) = false := by simpa using hpx
          rw [hpx']
          have hiz : i < zs.length := by have := HZ.out.1; omega
          have hset := cellsL_set zs i ((o, d) : Role) hiz
          rw [fltRole_k, role_cells] at hset
          have HF : Hid ((zs.set i (o, d)).length = n ∧ (zs.set i (o, d)).take (i + 1) = (xs.take (j + 1)).filter (fun x => !p x) ∧ (zs.set i (o, d)).drop (j + 1) = xs.drop (j + 1)) := Lib.hid ⟨by simp [HZ.out.1], by
              rw [HX.out, List.filter_append, ← HZ.out.2.1]
              have : (zs.set i (o, d))[i]'(by simpa using hiz) = (o, d) := by simp
              rw [← List.take_append_getElem (l := zs.set i (o, d)) (by simpa using hiz), this]
              rw [List.take_set, List.set_eq_of_length_le (by rw [List.length_take]; omega)]; simp [hpx'], by
              rw [List.drop_set_of_lt (by omega)]
              have := congrArg (List.drop 1) HZ.out.2.2; simpa [List.drop_drop] using this⟩
          have HSET := Lib.hid hset
          clear hpx hpx' hset hiz
          go_wp2_with ((with_reducible refine wl_store ?_ (fun K hK => ?_)); (rfl); (refine owp_storeRow' rfl st ?_; apply Exists.intro; apply Exists.intro; refine ⟨?_, ?_, ?_⟩; (focus (go_simp; try rfl)); (focus (go_simp; try rfl)); refine ⟨0, _, _, _, _, _, _, _, _, get0, rfl, rfl, ?_, ?_, ?_, ?_⟩; (kernel_rfl); (simp [Value.cells]; omega); (rfl); (clear st; intro w st)))
          simp only [List.set_cons_zero] at st
          have st' := st.keep [0] (by decide) (by simp)
          go_roundg (n - (j + 1))
          case measure => omega
          case rel => exact ⟨i + 1, j + 1, zs.set i (o, d), by omega, rfl, by omega, by go_num, by go_num, HF, by rw [← HSET.out]; simpa [pick, Value.cells] using st'⟩
      · obtain rfl : j = n := by omega
        obtain ⟨inf, hinf, hz0, hz1, hz2⟩ := roleInfo
        have HF : Hid (zs.take i = xs.filter (fun x => !p x)) := Lib.hid (by rw [HZ.out.2.1, List.take_of_length_le (by have := HN.out; omega)])
        go_wp2_with ((with_reducible refine wl_clear ?_ (fun K hK => ?_)); (rfl); (refine owp_clearRow' rfl st Tryz.underlying22 ?_; apply Exists.intro; apply Exists.intro; apply Exists.intro; refine ⟨?_, ?_⟩; (focus (go_simp; exact ⟨rfl, rfl, rfl⟩)); refine ⟨0, _, _, _, _, i, _, inf, rV ([], []), get0, hinf, hz0, by decide, rfl, rfl, by omega, by simp, rfl, ?_⟩; (clear st; intro w ys hy1 hy2 st)))
        simp only [List.set_cons_zero] at st
        have st2 := st.rowCut (i := 0) (k := 2) (n := j) (c := c) (g := g) (E := 45) (xs := ys) get0 i (by omega)
        have hct := cellsL_take zs i
        rw [fltRole_k] at hct
        rw [hy1, hct, HF.out, List.set_cons_zero] at st2
        go_ret
        exact ⟨i, rfl, st2⟩
end Go.Proofs.YtekngjkjgmplpaaGreat

namespace Go.Proofs.YtekngjkjgmplpaaGreat
set_option linter.unusedSimpArgs false
set_option linter.unusedVariables false
open Go Go.RowKit
section
variable {α : Type} [Inhabited α] [DecidableEq α]
def cup (xs : List α) (m : Nat) : List α := Lib.compactUpTo xs.toArray m
theorem cup_all (xs : List α) : cup xs xs.length = Lib.compact xs := rfl
theorem cup_step {xs : List α} {j q : Nat} {x y : α} (hq : j = q + 1) (hx : xs[j]? = some x) (hy : xs[q]? = some y) : cup xs (j + 1) = cup xs j ++ if x = y then [] else [x] := by
  unfold cup
  rw [Lib.compactUpTo_succ]
  have e1 : xs.toArray[j]! = x := by
    obtain ⟨h1, h2⟩ := List.getElem?_eq_some_iff.1 hx
    simp [h1, h2]
  have e2 : xs.toArray[j - 1]! = y := by
    obtain ⟨h1, h2⟩ := List.getElem?_eq_some_iff.1 hy
    subst hq; simp [h1, h2]
  by_cases h : x = y
  · rw [if_pos h, if_neg]; simp [Lib.keeps, e1, e2, h]; omega
  · rw [if_neg h, if_pos, e1]; simp [Lib.keeps, e1, e2, h]
theorem cup_one {xs : List α} (h : 0 < xs.length) : cup xs 1 = xs.take 1 := by
  cases xs with
  | nil => simp at h
  | cons x xs => simp [cup, Lib.compactUpTo, Lib.keeps, List.range_succ]
end
theorem Own.rowC {fr al : Nat → Prop} {w0 w : World} {L : List It} (st : Own fr al w0 L w) {i n size g c : Nat} {E : TypeId} {xs : List Value} (hi : L[i]? = some (rowI E size (.slice (some ⟨g, 0, none⟩) n c) n xs)) (j : Nat) (u : Value) (hj : xs[j]? = some u) : w.cell? ⟨g, j, none⟩ = some u := by
  have := (st.row hi).cells (g := g) rfl j u hj
  rwa [addr_add, Nat.zero_add] at this
set_option maxRecDepth 100000 in
set_option maxHeartbeats 2000000 in
theorem compactRole_c {fr al : Nat → Prop} {w0 w : World} {n c : Nat} {a : Option Addr} {xs : List Role} (st : Own fr al w0 [rowI 45 2 (.slice a n c) n (cellsL xs)] w) (hn : n ≤ 2000000) :
    Calls Tryz.prog 126 #[.slice a n c] w fun e w' => ∃ m, e = .returned (.slice a m c) ∧ Own fr al w0 [rowI 45 2 (.slice a m c) m (cellsL (Lib.compact xs))] w' := by
  have HN : Hid (n = xs.length) := Lib.hid (roleLen (st.row (i := 0) get0))
  (try simp only [nsl, Value.cells, unB] at st)
  (try clear hc); have hc := st.facts; (try simp only [nfl, nft, Nat.reduceAdd] at hc)
  by_cases hn2 : n < 2
  · have HC : Hid (Lib.compact xs = xs) := Lib.hid (by
      rw [← cup_all, ← HN.out]
      match n, hn2, HN.out with
      | 0, _, h => rw [List.eq_nil_of_length_eq_zero h.symm]; rfl
      | 1, _, h => rw [cup_one (by omega), List.take_of_length_le (by omega)])
    go_enter Tryz.func126, Tryz.ntmps126
    go_wp2_with fail
    go_ret
    exact ⟨n, rfl, by rw [HC.out]; exact st⟩
  obtain ⟨g, cap', hv, hcap, hrow⟩ := st.rowAt (i := 0) get0 (by omega)
  injection hv with hv1 hv2 hv3
  subst hv1 hv3
  clear hrow
  have hcap2 : c ≤ 9223372036854775807 := by have := hcap.2; simpa [maxLen] using this
  have hcap1 := hcap.1
  clear hcap
  go_enter Tryz.func126, Tryz.ntmps126
  go_wp2_with fail
  go_loopg [3] (n - 1) (fun k vi wr => ∃ (j : Nat), 1 ≤ j ∧ j ≤ n ∧ k = n - j ∧ vi = .int .i64 (j : Int) ∧ Hid (cup xs j = xs.take j) ∧ Own fr al w0 [rowI 45 2 (.slice (some ⟨g, 0, none⟩) n c) n (cellsL xs)] wr)
  case atStart => exact ⟨1, by omega, by omega, by omega, rfl, Lib.hid (cup_one (by have := HN.out; omega)), st⟩
  case round =>
    obtain ⟨j, hj1, hj, rfl, rfl, HT, st'⟩ := hrel
    clear st hc
    have st := st'
    clear st'
    (try simp only [nsl, Value.cells, unB] at st)
    (try clear hc); have hc := st.facts; (try simp only [nfl, nft, Nat.reduceAdd] at hc)
    by_cases hjn : j < n
    · obtain ⟨q, hq⟩ : ∃ q, j = q + 1 := ⟨j - 1, by omega⟩
      have hw : IntKind.i64.wrap ((j : Int) - 1) = (q : Int) := by rw [IntWalk.i64_in _ ⟨by omega, by omega⟩]; omega
      have hjl : j < xs.length := by have := HN.out; omega
      have hql : q < xs.length := by omega
      obtain ⟨x, hx⟩ : ∃ x, xs[j]? = some x := ⟨_, List.getElem?_eq_getElem hjl⟩
      obtain ⟨y, hy⟩ : ∃ y, xs[q]? = some y := ⟨_, List.getElem?_eq_getElem hql⟩
      have HR := Lib.hid (And.intro (role_get hx) (role_get hy))
      have HST := Lib.hid (cup_step hq hx hy)
      have HTK : Hid (xs.take (j + 1) = xs.take j ++ [x]) := Lib.hid (by rw [List.take_add_one, hx]; rfl)
      clear hx hy hjl
      obtain ⟨o, d⟩ := x
      obtain ⟨o', d'⟩ := y
      simp only at HR
      unfold S at HR
      have hql2 : q < n := by omega
      have HQ := Lib.hid hq
      clear hq hql
      go_wp2_with fail
      refine Rg4.wp_region4_eq #[0, 0, 3, 7, 0, 0, 32, 112, 240, 511] [] [3, 8] (fun _ => True) [0, 1, 2, 3, 4, 5, 6, 7, 8, 9] (by kernel_rfl) (by kernel_rfl) (by kernel_rfl) (by kernel_rfl) (show Rg4.PB _ by repeat (first | with_reducible exact Rg4.pb_body | with_reducible exact Rg4.pb_bodyD rfl | with_reducible refine Rg4.pb_then ?_ | with_reducible refine Rg4.pb_inBlock ?_ | with_reducible refine Rg4.pb_noGoto ?_)) (trivial) ?_
      replace st := st.drew
      change Rg4.wp4 _ _ _ _ _ _ _ _ _ (World.drew _) _ _
      generalize World.drew _ = w at st ⊢
      (try clear hc); have hc := st.facts; (try simp only [nfl, nft, Nat.reduceAdd] at hc)
      iterate 3 (refine Rg4.w4_any (Rg4.want_none rfl) rfl ?_; apply Exists.intro; refine ⟨fun w' => ?_, ?_⟩; (focus (first | (go_simp; done) | (go_simp; first | rfl | (rw [if_neg] <;> first | rfl | omega) | (rw [if_pos] <;> first | rfl | omega)))); (try simp only [Rg4.nrm]))
      (refine Rg4.w4_read (Rg4.want_none rfl) rfl rfl ?_; apply Exists.intro; refine ⟨fun w' hw' hcl' => ?_, ?_⟩; focus (subst hw'; have r0 := st.rowC (i := 0) get0 _ _ HR.out.1.1; have r1 := st.rowC (i := 0) get0 _ _ HR.out.1.2; have r2 := st.rowC (i := 0) get0 _ _ HR.out.2.1; have r3 := st.rowC (i := 0) get0 _ _ HR.out.2.2; (focus (first | (go_simp; done) | (go_simp; first | rfl | (rw [if_neg] <;> first | rfl | omega) | (rw [if_pos] <;> first | rfl | omega))))); (try simp only [Rg4.nrm]))
      iterate 4 (refine Rg4.w4_any (Rg4.want_none rfl) rfl ?_; apply Exists.intro; refine ⟨fun w' => ?_, ?_⟩; (focus (first | (go_simp; done) | (go_simp; first | rfl | (rw [if_neg] <;> first | rfl | omega) | (rw [if_pos] <;> first | rfl | omega)))); (try simp only [Rg4.nrm]))
      (refine Rg4.w4_read (Rg4.want_none rfl) rfl rfl ?_; apply Exists.intro; refine ⟨fun w' hw' hcl' => ?_, ?_⟩; focus (subst hw'; have r0 := st.rowC (i := 0) get0 _ _ HR.out.1.1; have r1 := st.rowC (i := 0) get0 _ _ HR.out.1.2; have r2 := st.rowC (i := 0) get0 _ _ HR.out.2.1; have r3 := st.rowC (i := 0) get0 _ _ HR.out.2.2; (focus (first | (go_simp; done) | (go_simp; first | rfl | (rw [if_neg] <;> first | rfl | omega) | (rw [if_pos] <;> first | rfl | omega))))); (try simp only [Rg4.nrm]))
      (refine Rg4.w4_any (Rg4.want_none rfl) rfl ?_; apply Exists.intro; refine ⟨fun w' => ?_, ?_⟩; (focus (first | (go_simp; done) | (go_simp; first | rfl | (rw [if_neg] <;> first | rfl | omega) | (rw [if_pos] <;> first | rfl | omega)))); (try simp only [Rg4.nrm]))
      refine Rg4.w4_nil (fun w' hw' hcl' _ => ?_); subst hw'; clear hcl'
      cases hxy : roleEq (o, d) (o', d') with
      | false =>
        have HF : Hid (cup xs (j + 1) = xs.take (j + 1)) := Lib.hid (by rw [roleEq_eq, decide_eq_false_iff_not] at hxy; rw [HST.out, if_neg hxy, HT.out, HTK.out])
        clear hxy
        go_wp2_with fail
        go_roundg (n - (j + 1))
        case measure => omega
        case rel => exact ⟨j + 1, by omega, by omega, by omega, by go_num, HF, st⟩
      | true =>
        have HF : Hid (cup xs (j + 1) = xs.take j) := Lib.hid (by rw [roleEq_eq, decide_eq_true_eq] at hxy; rw [HST.out, if_pos hxy, HT.out, List.append_nil])
        clear hxy hw
        go_wp2_with fail
        go_loopg [3, 5] (n - j - 1) (fun k vi vr wr => ∃ (i r : Nat) (zs : List Role), 1 ≤ r ∧ j + r ≤ n ∧ k = n - j - r ∧ i < j + r ∧ vi = .int .i64 (i : Int) ∧ vr = .int .i64 (r : Int) ∧ Hid (zs.length = n ∧ zs.take i = cup xs (j + r) ∧ ∀ q, j + r ≤ q + 1 → zs[q]? = xs[q]?) ∧ Own fr al w0 [rowI 45 2 (.slice (some ⟨g, 0, none⟩) n c) n (cellsL zs)] wr)
        case atStart => exact ⟨j, 1, xs, by omega, by omega, by omega, by omega, rfl, rfl, Lib.hid ⟨HN.out.symm, HF.out.symm, fun _ _ => rfl⟩, st⟩
        case round =>
          obtain ⟨i, r, zs, hr1, hrj, rfl, hir, rfl, rfl, HZ, st'⟩ := hrel
          clear st hc HR HST HTK HF
          have st := st'
          clear st'
          (try simp only [nsl, Value.cells, unB] at st)
          (try clear hc); have hc := st.facts; (try simp only [nfl, nft, Nat.reduceAdd] at hc)
          by_cases hrn : r < n - j
          · obtain ⟨s, hs⟩ : ∃ s, r = s + 1 := ⟨r - 1, by omega⟩
            have hw : IntKind.i64.wrap ((r : Int) - 1) = (s : Int) := by rw [IntWalk.i64_in _ ⟨by omega, by omega⟩]; omega
            have hjl : j + r < xs.length := by have := HN.out; omega
            have hql : j + s < xs.length := by omega
            obtain ⟨x, hx⟩ : ∃ x, xs[j + r]? = some x := ⟨_, List.getElem?_eq_getElem hjl⟩
            obtain ⟨y, hy⟩ : ∃ y, xs[j + s]? = some y := ⟨_, List.getElem?_eq_getElem hql⟩
            have hzx := (HZ.out.2.2 (j + r) (by omega)).trans hx
            have hzy := (HZ.out.2.2 (j + s) (by omega)).trans hy
            have HR := Lib.hid (And.intro (role_get hzx) (role_get hzy))
            have HST := Lib.hid (cup_step (by omega : j + r = j + s + 1) hx hy)
            clear hx hy hzx hzy hjl
            obtain ⟨o, d⟩ := x
            obtain ⟨o', d'⟩ := y
            simp only [Nat.add_mul] at HR
            unfold S at HR
            have hql2 : s < n - j := by omega
            have HS := Lib.hid hs
            clear hs hql
            go_wp2_with fail
            refine Rg4.wp_region4_eq #[0, 0, 3, 7, 0, 0, 32, 112, 240, 511] [] [3, 8] (fun _ => True) [0, 1, 2, 3, 4, 5, 6, 7, 8, 9] (by kernel_rfl) (by kernel_rfl) (by kernel_rfl) (by kernel_rfl) (show Rg4.PB _ by repeat (first | with_reducible exact Rg4.pb_body | with_reducible exact Rg4.pb_bodyD rfl | with_reducible refine Rg4.pb_then ?_ | with_reducible refine Rg4.pb_inBlock ?_ | with_reducible refine Rg4.pb_noGoto ?_)) (trivial) ?_
            replace st := st.drew
            change Rg4.wp4 _ _ _ _ _ _ _ _ _ (World.drew _) _ _
            generalize World.drew _ = w at st ⊢
            (try clear hc); have hc := st.facts; (try simp only [nfl, nft, Nat.reduceAdd] at hc)
            iterate 3 (refine Rg4.w4_any (Rg4.want_none rfl) rfl ?_; apply Exists.intro; refine ⟨fun w' => ?_, ?_⟩; (focus (first | (go_simp; done) | (go_simp; first | rfl | (rw [if_neg] <;> first | rfl | omega) | (rw [if_pos] <;> first | rfl | omega)))); (try simp only [Rg4.nrm]))
            (refine Rg4.w4_read (Rg4.want_none rfl) rfl rfl ?_; apply Exists.intro; refine ⟨fun w' hw' hcl' => ?_, ?_⟩; focus (subst hw'; have r0 := st.rowC (i := 0) get0 _ _ HR.out.1.1; have r1 := st.rowC (i := 0) get0 _ _ HR.out.1.2; have r2 := st.rowC (i := 0) get0 _ _ HR.out.2.1; have r3 := st.rowC (i := 0) get0 _ _ HR.out.2.2; (focus (first | (go_simp; done) | (go_simp; first | rfl | (rw [if_neg] <;> first | rfl | omega) | (rw [if_pos] <;> first | rfl | omega))))); (try simp only [Rg4.nrm]))
            iterate 4 (refine Rg4.w4_any (Rg4.want_none rfl) rfl ?_; apply Exists.intro; refine ⟨fun w' => ?_, ?_⟩; (focus (first | (go_simp; done) | (go_simp; first | rfl | (rw [if_neg] <;> first | rfl | omega) | (rw [if_pos] <;> first | rfl | omega)))); (try simp only [Rg4.nrm]))
            (refine Rg4.w4_read (Rg4.want_none rfl) rfl rfl ?_; apply Exists.intro; refine ⟨fun w' hw' hcl' => ?_, ?_⟩; focus (subst hw'; have r0 := st.rowC (i := 0) get0 _ _ HR.out.1.1; have r1 := st.rowC (i := 0) get0 _ _ HR.out.1.2; have r2 := st.rowC (i := 0) get0 _ _ HR.out.2.1; have r3 := st.rowC (i := 0) get0 _ _ HR.out.2.2; (focus (first | (go_simp; done) | (go_simp; first | rfl | (rw [if_neg] <;> first | rfl | omega) | (rw [if_pos] <;> first | rfl | omega))))); (try simp only [Rg4.nrm]))
            (refine Rg4.w4_any (Rg4.want_none rfl) rfl ?_; apply Exists.intro; refine ⟨fun w' => ?_, ?_⟩; (focus (first | (go_simp; done) | (go_simp; first | rfl | (rw [if_neg] <;> first | rfl | omega) | (rw [if_pos] <;> first | rfl | omega)))); (try simp only [Rg4.nrm]))
            refine Rg4.w4_nil (fun w' hw' hcl' _ => ?_); subst hw'; clear hcl'
            cases hxy : roleEq (o, d) (o', d') with
            | true =>
              have hb : (!true) = false := rfl
              have HF : Hid (cup xs (j + (r + 1)) = cup xs (j + r)) := Lib.hid (by rw [roleEq_eq, decide_eq_true_eq] at hxy; rw [← Nat.add_assoc, HST.out, if_pos hxy, List.append_nil])
              clear hxy
              simp only [hb]
              go_wp2_with fail
              go_roundg (n - j - (r + 1))
              case measure => omega
              case rel => exact ⟨i, r + 1, zs, by omega, by omega, rfl, by omega, rfl, by go_num, Lib.hid ⟨HZ.out.1, by rw [HF.out]; exact HZ.out.2.1, fun q hq => HZ.out.2.2 q (by omega)⟩, st⟩
            | false =>
              have hb : (!false) = true := rfl
              have HF : Hid (cup xs (j + (r + 1)) = cup xs (j + r) ++ [(o, d)]) := Lib.hid (by rw [roleEq_eq, decide_eq_false_iff_not] at hxy; rw [← Nat.add_assoc, HST.out, if_neg hxy])
              clear hxy
              simp only [hb]
              have r0 := st.rowC (i := 0) get0 _ _ HR.out.1.1
              have r1 := st.rowC (i := 0) get0 _ _ HR.out.1.2
              have hiz : i < zs.length := by have := HZ.out.1; omega
              have hset := cellsL_set zs i ((o, d) : Role) hiz
              rw [fltRole_k, role_cells] at hset
              have HZ2 : Hid ((zs.set i (o, d)).length = n ∧ (zs.set i (o, d)).take (i + 1) = cup xs (j + (r + 1)) ∧ ∀ q, j + (r + 1) ≤ q + 1 → (zs.set i (o, d))[q]? = xs[q]?) := Lib.hid ⟨by simp [HZ.out.1], by
                  rw [HF.out, ← HZ.out.2.1]
                  have : (zs.set i (o, d))[i]'(by simpa using hiz) = (o, d) := by simp
                  rw [← List.take_append_getElem (l := zs.set i (o, d)) (by simpa using hiz), this]
                  rw [List.take_set, List.set_eq_of_length_le (by rw [List.length_take]; omega)], fun q hq => by
                  rw [List.getElem?_set_ne (by omega)]; exact HZ.out.2.2 q (by omega)⟩
              have HSET := Lib.hid hset
              clear hset hiz
              go_wp2_with ((with_reducible refine wl_store ?_ (fun K hK => ?_)); (rfl); (refine owp_storeRow' rfl st ?_; apply Exists.intro; apply Exists.intro; refine ⟨?_, ?_, ?_⟩; (focus (go_simp; try rfl)); (focus (go_simp; try rfl)); refine ⟨0, _, _, _, _, _, _, _, _, get0, rfl, rfl, ?_, ?_, ?_, ?_⟩; (kernel_rfl); (simp [Value.cells]; omega); (rfl); (clear st; intro w st)))
              simp only [List.set_cons_zero] at st
              go_roundg (n - j - (r + 1))
              case measure => omega
              case rel => exact ⟨i + 1, r + 1, zs.set i (o, d), by omega, by omega, rfl, by omega, by go_num, by go_num, HZ2, by rw [← HSET.out]; simpa [Value.cells] using st⟩
          · obtain ⟨inf, hinf, hz0, hz1, hz2⟩ := roleInfo
            have HF : Hid (zs.take i = Lib.compact xs) := Lib.hid (by rw [HZ.out.2.1, ← cup_all, ← HN.out]; congr 1; omega)
            have hin : i ≤ n := by omega
            go_wp2_with ((with_reducible refine wl_clear ?_ (fun K hK => ?_)); (rfl); (refine owp_clearRow' rfl st Tryz.underlying22 ?_; apply Exists.intro; apply Exists.intro; apply Exists.intro; refine ⟨?_, ?_⟩; (focus (go_simp; exact ⟨rfl, rfl, rfl⟩)); refine ⟨0, _, _, _, _, i, _, inf, rV ([], []), get0, hinf, hz0, by decide, rfl, rfl, by omega, by simp, rfl, ?_⟩; (clear st; intro w ys hy1 hy2 st)))
            simp only [List.set_cons_zero] at st
            have st2 := st.rowCut (i := 0) (k := 2) (n := n) (c := c) (g := g) (E := 45) (xs := ys) get0 i (by omega)
            have hct := cellsL_take zs i
            rw [fltRole_k] at hct
            rw [hy1, hct, HF.out, List.set_cons_zero] at st2
            go_ret
            exact ⟨i, rfl, st2⟩
    · obtain rfl : j = n := by omega
      have HF : Hid (Lib.compact xs = xs) := Lib.hid (by rw [← cup_all, ← HN.out, HT.out, List.take_of_length_le (by have := HN.out; omega)])
      go_wp2_with fail
      go_ret
      exact ⟨j, rfl, by rw [HF.out]; exact st⟩
end Go.Proofs.YtekngjkjgmplpaaGreat

namespace Go.Proofs.YtekngjkjgmplpaaGreat
set_option linter.unusedSimpArgs false
set_option linter.unusedVariables false
open Go Go.RowKit
@[go_sem] theorem eqNilRole (a : Option Addr) (n c : Nat) (w : World) : (binOp .eql 22 (.slice a n c) (.slice none 0 0)).run Tryz.prog w = .ok (.bool a.isNone) w := by
  have h := run_equal_slice_nil w _ _ a n c Tryz.underlying22
  simp only [binOp]
  simp [h]
set_option maxRecDepth 100000 in
set_option maxHeartbeats 1000000 in
theorem roleClone_any (a : Option Addr) (n c : Nat) (l : List Role) (W : World) (h : Fl W a n l) (hn : n ≤ 2000000) :
    Calls Tryz.prog 123 #[.slice a n c] W fun e w' => ∃ va vc, e = .returned (.slice va n vc) ∧ FreshI W w' (rowI 45 2 (.slice va n vc) n (cellsL l)) := by
  have H := Lib.hid h
  clear h
  have st := Own.startOld W
  (try simp only [nsl, Value.cells, unB] at st)
  (try clear hc); have hc := st.facts; (try simp only [nfl, nft, Nat.reduceAdd] at hc)
  cases a with
  | none =>
    have h0 : n = 0 := by
      rcases Nat.eq_zero_or_pos n with q | q
      · exact q
      · obtain ⟨b, off, e, _⟩ := H.out.2 q; cases e
    subst h0
    have hl : l = [] := List.eq_nil_of_length_eq_zero H.out.1.symm
    subst hl
    go_enter Tryz.func123, Tryz.ntmps123
    go_wp2_with fail
    go_ret
    exact ⟨none, 0, rfl, FreshI.post (FreshI.pre (FreshI.nilRow W _ _) (Ext.refl _)) st.ext0⟩
  | some ad =>
    go_enter Tryz.func123, Tryz.ntmps123
    go_wp2_with (first
        | ((with_reducible refine wl_append ?_ (fun K hK => ?_)); (rfl); (obtain ⟨inf, hinf, hz0, hz1, hz2⟩ := roleInfo); (refine owp_append rfl st 1 get1 Tryz.underlying22 hinf hz0 hz1 hz2 rfl (by decide) rfl rfl ((st.oldFl (i := 0) get0 H.out).flat) (by first | exact cellsL_all _ | simp [Value.oneCell']) (by simp only [maxLen]; omega) (by omega) ?_); (clear hinf hz0 hz1 hz2 inf); (clear st; intro v' w st); (obtain ⟨va', vc', rfl⟩ := own_slice (st.row (i := 1) get1)); (try simp only [nsl, Value.cells, unB] at st); (try simp only [Nat.zero_add] at st); (try clear hc); have hc := st.facts; (try simp only [nfl, nft, Nat.reduceAdd] at hc))
        | ((with_reducible refine wl_buildSlice ?_ (fun K hK => ?_)); (rfl); (refine owp_buildRow (o := ⟨some 5, _, _, _, _, _⟩) rfl st 45 2 ?_; refine ⟨0, #[], ?_, by simp, by simp [maxLen], ?_⟩; (focus (go_simp; (first | done | rfl))); (clear st; intro b5 w hb st; clear hb)); (try simp only [nsl, Value.cells, unB] at st); (try clear hc); have hc := st.facts; (try simp only [nfl, nft, Nat.reduceAdd] at hc))
        | ((((with_reducible refine wl_buildSlice ?_ (fun K hK => ?_)); rfl; refine owp_buildSlice (o := ⟨some 5, _, _, _, _, _⟩) rfl st ?_; apply Exists.intro; apply Exists.intro; apply Exists.intro; apply Exists.intro; refine ⟨?_, ?_⟩; (focus (go_simp; (first | done | exact ⟨⟨rfl, rfl⟩, rfl⟩ | rfl))); (clear st; intro b5 w hb st; clear hb))); (try simp only [nsl, Value.cells, unB] at st); (try clear hc); have hc := st.facts; (try simp only [nfl, nft, Nat.reduceAdd] at hc)))
    go_ret
    have hf := st.toFresh (i := 1) get1
    exact ⟨_, _, rfl, hf⟩
set_option maxRecDepth 100000 in
set_option maxHeartbeats 1000000 in
theorem roleSet1_any (x : Role) (W : World) (h1 : x.1.length ≤ 100000) (h2 : x.2.length ≤ 100000) : Calls Tryz.prog 124 #[rV x] W fun e w' => e = .returned (.bool (!roleR x)) ∧ Ext W w' := by
  have HR := Lib.hid (roleRight_any x)
  obtain ⟨o, d⟩ := x
  simp only at h1 h2
  have st := Own.startOld W
  unfold rV S at *
  (try simp only [nsl, Value.cells, unB] at st)
  (try clear hc); have hc := st.facts; (try simp only [nfl, nft, Nat.reduceAdd] at hc)
  go_enter Tryz.func124, Tryz.ntmps124
  go_wp2_with ((((with_reducible refine wl_box ?_ (fun K hK => ?_)); rfl; refine owp_box (o := ⟨some 1, _, _, _, _, _⟩) rfl st ?_; apply Exists.intro; refine ⟨?_, ?_⟩; (focus (go_simp; try rfl)); (clear st; intro b1 w hb st; clear hb))); (try simp only [nsl, Value.cells, unB] at st); (try clear hc); have hc := st.facts; (try simp only [nfl, nft, Nat.reduceAdd] at hc))
  refine (HR.out _ h1 h2).mono ?_
  rintro en w ⟨rfl, hx⟩
  replace st := st.ext hx
  clear hx
  (try clear hc); have hc := st.facts; (try simp only [nfl, nft, Nat.reduceAdd] at hc)
  go_wp2_with ((((with_reducible refine wl_box ?_ (fun K hK => ?_)); rfl; refine owp_box (o := ⟨some 1, _, _, _, _, _⟩) rfl st ?_; apply Exists.intro; refine ⟨?_, ?_⟩; (focus (go_simp; try rfl)); (clear st; intro b1 w hb st; clear hb))); (try simp only [nsl, Value.cells, unB] at st); (try clear hc); have hc := st.facts; (try simp only [nfl, nft, Nat.reduceAdd] at hc))
  go_ret
  exact ⟨rfl, st.ext0⟩
end Go.Proofs.YtekngjkjgmplpaaGreat

namespace Go.Proofs.YtekngjkjgmplpaaGreat
set_option linter.unusedSimpArgs false
set_option linter.unusedVariables false
open Go Go.RowKit Go.Sort Go.Lib Go.Shelf
theorem Ext.grow {w w' : World} (h : Ext w w') : ∃ q os, w' = grow (w.drewN q) os := by
  refine ⟨w'.drawn - w.drawn, w'.heap.extract w.heap.size w'.heap.size, ?_⟩
  have hh : w'.heap = w.heap ++ w'.heap.extract w.heap.size w'.heap.size := by
    apply Array.ext_getElem?
    intro k
    rw [Array.getElem?_append]
    split
    · exact h.bel.block k (by assumption)
    · rw [Array.getElem?_extract]
      split
      · congr 1; omega
      · rw [Array.getElem?_eq_none]; have := h.le; omega
  have hd := h.drawn
  cases w' with
  | mk a b c d e =>
    have h1 := h.bel.os; have h2 := h.bel.tape; have h3 := h.bel.output
    simp only at h1 h2 h3 hd hh
    unfold Go.Sort.grow World.drewN
    simp only [World.mk.injEq]
    exact ⟨hh, h2, by omega, h1, h3⟩
section
variable {α : Type} [Flt α] [Inhabited α]
theorem flat_eq (xs : List α) : (flatK Flt.cells (Flt.k α) xs.toArray).toList = cellsL xs := by
  have hk := Flt.pos (α := α)
  apply List.ext_getElem?
  intro t
  by_cases ht : t < xs.length * Flt.k α
  · have hi : t / Flt.k α < xs.length := (Nat.div_lt_iff_lt_mul hk).2 ht
    have hr : t % Flt.k α < Flt.k α := Nat.mod_lt _ hk
    have e : t / Flt.k α * Flt.k α + t % Flt.k α = t := by rw [Nat.mul_comm]; exact Nat.div_add_mod _ _
    have h1 := cellsL_get (List.getElem?_eq_getElem hi) hr
    rw [e] at h1
    rw [h1, Array.getElem?_toList]
    have hrl : t % Flt.k α < (Flt.cells xs[t / Flt.k α]).length := by rw [Flt.len]; exact hr
    simp [flatK, ht, hi, hrl]
  · rw [List.getElem?_eq_none (by simp; omega), List.getElem?_eq_none (by rw [cellsL_len]; omega)]
theorem flat_eq' (xs : List α) : flatK Flt.cells (Flt.k α) xs.toArray = (cellsL xs).toArray := by
  rw [← flat_eq]
theorem heap_sortedK {w : World} {g n : Nat} {os : Array Obj} {cur : Array Value} {e : TypeId} {f : Nat × Nat} (d : Array Value) (hb : w.heap[g]? = some (.cells cur e f)) :
    (grow (putRow id (Sort.ahead w n) g 0 d) os).heap[g]? = some (.cells (putCells id 0 d cur) e f) := by
  have hg : g < w.heap.size := (Array.getElem?_eq_some_iff.1 hb).1
  rw [heap_grow_old _ _ (by simpa using hg)]
  simp [putRow, mapBlock, Sort.ahead, Array.getElem?_modify, hb, onCells]
theorem grownBy_sortedK {w : World} {g n : Nat} {os : Array Obj} (d : Array Value) : w.grownBy (grow (putRow id (Sort.ahead w n) g 0 d) os) (some g) := by
  refine ⟨rfl, rfl, rfl, by simp, fun k hk hne => ?_⟩
  rw [heap_grow_old _ _ (by simpa using hk)]
  have : g ≠ k := fun e => hne (by rw [e])
  simp [putRow, mapBlock, Sort.ahead, Array.getElem?_modify, this]
theorem take_putCellsK (cur : Array Value) (ts : List Value) (h : ts.length ≤ cur.size) : (putCells id 0 ts.toArray cur).toList.take ts.length = ts := by
  apply List.ext_getElem?
  intro j
  by_cases hj : j < ts.length
  · rw [List.getElem?_take_of_lt hj, Array.getElem?_toList]
    simp [putCells, hj, show j < cur.size by omega]
  · rw [List.getElem?_take_eq_none (by omega), List.getElem?_eq_none (by omega)]
variable {fr al : Nat → Prop} {w0 w : World} {L : List It}
theorem Own.holdsK (st : Own fr al w0 L w) {i n c g : Nat} {E : TypeId} {xs : List α} (hi : L[i]? = some (rowI E (Flt.k α) (.slice (some ⟨g, 0, none⟩) n c) n (cellsL xs))) : HoldsK Flt.cells (Flt.k α) w g 0 xs.toArray ∧ g < w.heap.size := by
  have hrow := st.row hi
  rcases hrow.2 with ⟨h1, h2⟩ | ⟨g', cap, cur, h1, hb, hg, hcap, hm, hs, ht⟩
  · cases h1
  · cases h1
    refine ⟨?_, (Array.getElem?_eq_some_iff.1 hg).1⟩
    unfold HoldsK
    rw [flat_eq']
    intro j hj
    have hj' : j < (cellsL xs).length := by simpa using hj
    refine ⟨?_, by simp [World.frozen?, hg]⟩
    have hn : n * Flt.k α = (cellsL xs).length := hrow.1.symm
    have h1 : (cur.toList.take (n * Flt.k α))[j]? = (cellsL xs)[j]? := by rw [ht]
    rw [List.getElem?_take_of_lt (by omega)] at h1
    simp only [World.cell?, hg, Nat.zero_add]
    simp only [Option.isSome_none, Bool.false_eq_true, if_false]
    rw [← Array.getElem?_toList, h1]
    simp [hj']
theorem Own.sortedK (st : Own fr al w0 L w) {i n c g : Nat} {E : TypeId} {xs ys : List α} (hi : L[i]? = some (rowI E (Flt.k α) (.slice (some ⟨g, 0, none⟩) n c) n (cellsL xs))) (hl : ys.length = xs.length) (m : Nat) (os : Array Obj) :
    Own fr al w0 (L.set i (rowI E (Flt.k α) (.slice (some ⟨g, 0, none⟩) n c) n (cellsL ys))) (sortWorldK Flt.cells (Flt.k α) w g 0 m ys.toArray os) := by
  have hrow := st.row hi
  rcases hrow.2 with ⟨h1, h2⟩ | ⟨g', cap, cur, h1, hb, hg, hcap, hm, hs, ht⟩
  · cases h1
  · cases h1
    have hn : n * Flt.k α = (cellsL xs).length := hrow.1.symm
    have hy : (cellsL ys).length = n * Flt.k α := by rw [cellsL_len, hl, hn, cellsL_len]
    have hle : n * Flt.k α ≤ cur.size := by rw [hs]; exact Nat.mul_le_mul_right _ hcap
    have e : sortWorldK Flt.cells (Flt.k α) w g 0 m ys.toArray os = grow (putRow id (Sort.ahead w m) g 0 (cellsL ys).toArray) os := by unfold sortWorldK putRowK; rw [flat_eq']
    rw [e]
    refine st.upd hi fun e s ⟨q1, q2⟩ q3 q4 => ⟨e, s, ⟨?_, q2⟩, fun b hb => ⟨Nat.lt_of_lt_of_le (q3 b (.inl hb)) (grownBy_sortedK _).size, .inl hb⟩, fun b hb => ⟨Nat.lt_of_lt_of_le (q3 b (.inr hb)) (grownBy_sortedK _).size, .inr (.inl hb)⟩, q4, MutO.grown (MutO.refl _ _) ⟨grownBy_sortedK _, Nat.le_add_right _ _⟩ fun k hk _ => ?_⟩
    · exact ⟨hy, .inr ⟨g, c, _, rfl, hb, heap_sortedK _ hg, hcap, hm, by simp [putCells, hs], by rw [← hy]; exact take_putCellsK cur (cellsL ys) (by omega)⟩⟩
    · cases hk; exact q2 g rfl
end
end Go.Proofs.YtekngjkjgmplpaaGreat

namespace Go.Proofs.YtekngjkjgmplpaaGreat
set_option linter.unusedSimpArgs false
set_option linter.unusedVariables false
open Go Go.RowKit Go.Sort Go.Lib
theorem roleCmp_lt (x y : Role) : ltOf roleCmp x y = roleLt x y := by
  unfold ltOf roleCmp
  cases h : roleLt x y with
  | true => simp
  | false => cases h2 : roleLt y x <;> simp
theorem roleSwo : SWO (ltOf roleCmp) where
  irrefl x := by rw [roleCmp_lt]; exact (roleOrd (fun _ => true)).irr x
  trans x y z h1 h2 := by rw [roleCmp_lt] at *; exact (roleOrd (fun _ => true)).tr x y z h1 h2
  ntrans x y z h1 h2 := by
    rw [roleCmp_lt] at *
    have o := roleOrd (fun _ => true)
    cases h : roleLt x z with
    | false => rfl
    | true =>
      rcases o.tri x y rfl rfl with q | q | q
      · rw [q] at h1; cases h1
      · rw [q] at h; rw [h] at h2; cases h2
      · have := o.tr _ _ _ q h; rw [this] at h2; cases h2
theorem roleTot (x y : Role) (h1 : ltOf roleCmp x y = false) (h2 : ltOf roleCmp y x = false) : x = y := by
  rw [roleCmp_lt] at h1 h2
  rcases (roleOrd (fun _ => true)).tri x y rfl rfl with q | q | q
  · rw [q] at h1; cases h1
  · exact q
  · rw [q] at h2; cases h2
def roleSort (xs : List Role) : List Role := xs.mergeSort fun x y => !(ltOf roleCmp) y x
theorem roleSort_mem (xs : List Role) (x : Role) : x ∈ roleSort xs ↔ x ∈ xs := by unfold roleSort; exact List.mem_mergeSort
theorem roleSort_pw (xs : List Role) : (roleSort xs).Pairwise (fun x y => roleLt y x = false) := by
  have o := roleOrd (fun _ => true)
  have h1 := List.pairwise_mergeSort (le := fun x y : Role => !(ltOf roleCmp) y x) (fun a b c h1 h2 => by
    simp only [Bool.not_eq_true'] at *; exact roleSwo.ntrans _ _ _ h2 h1) (fun a b => by
    cases h : ltOf roleCmp b a with
    | false => rfl
    | true => cases h2 : ltOf roleCmp a b with
      | false => rfl
      | true => have := roleSwo.trans _ _ _ h h2; rw [roleSwo.irrefl] at this; cases this) xs
  refine h1.imp fun {a b} h => ?_
  simpa [roleCmp_lt] using h
/-- The set of the right roles of a list. -/
@[irreducible] def roleSet (l : List Role) : List Role := Lib.compact (roleSort (l.filter roleR))
theorem roleSet_eq (l : List Role) : roleSet l = Lib.compact (roleSort (l.filter roleR)) := by unfold roleSet; rfl
theorem roleSet_set (l : List Role) : SSet roleLt roleR l (roleSet l) := by
  rw [roleSet_eq]
  exact compact_set (roleOrd roleR) _ l (fun x => by rw [roleSort_mem, List.mem_filter]) (roleSort_pw _)
theorem roleSet_len (l : List Role) : (roleSet l).length ≤ l.length := (roleSet_set l).len (roleOrd roleR).irr
theorem role55 (args : Array Value) (w : World) : (callFunc 64 args).run Tryz.prog w = .ok (.enter 64 args) w := enters_of Tryz.func64 (by kernel_rfl) rfl args w
section
variable {fr al : Nat → Prop} {w0 w : World} {L : List It}
theorem sortRole_c (st : Own fr al w0 L w) (i : Nat) {n c : Nat} {a : Option Addr} {xs : List Role} (hi : L[i]? = some (rowI 45 2 (.slice a n c) n (cellsL xs))) (hn : n ≤ 2000000) :
    Calls Tryz.prog 125 #[.slice a n c, .func (.func 64) #[] #[]] w fun e w' => e = .returned (.tuple #[]) ∧ Own fr al w0 (L.set i (rowI 45 2 (.slice a n c) n (cellsL (roleSort xs)))) w' := by
  have hrow := st.row hi
  have hnx := roleLen hrow
  rcases Nat.eq_zero_or_pos n with h0 | h0
  · subst h0
    have hx : xs = [] := List.eq_nil_of_length_eq_zero hnx.symm
    subst hx
    refine (AnyF.slices_SortFunc_none Tryz.sortRole a c _ w).mono ?_
    rintro e w' ⟨rfl, rfl⟩
    refine ⟨rfl, ?_⟩
    have : L.set i (rowI 45 2 (.slice a 0 c) 0 (cellsL (roleSort []))) = L := by
      apply List.ext_getElem?
      intro q
      rw [List.getElem?_set]
      split
      · rename_i h; subst h; rw [hi, if_pos (get_lt hi)]; unfold roleSort; rw [List.mergeSort_nil]
      · rfl
    rw [this]; exact st
  · obtain ⟨g, cap', hv, hcap, _⟩ := st.rowAt hi h0
    injection hv with hv1 hv2 hv3
    subst hv1 hv3
    have hH := st.holdsK (α := Role) (xs := xs) hi
    have hcon := AnyQ.slices_SortFunc_total Tryz.sortRole 2 Tryz.isAgg45 Tryz.sizeOf45 (Flt.cells : Role → List Value) (fun x => Flt.len x) (fun x v hv => Flt.one x v hv) roleCmp roleSwo 64 #[] g 0 c xs.toArray w role55
      (fun m os dk _ x y => (roleCompare_any x y _).mono fun e w' h => ⟨h.1, h.2.grow⟩) hH.1 hH.2 (by simp; omega) roleTot
    change Calls Tryz.prog 125 _ _ _ at hcon
    rw [show xs.toArray.size = n by simp [hnx]] at hcon
    refine hcon.mono ?_
    rintro e w' ⟨rfl, m, os, rfl⟩
    exact ⟨rfl, st.sortedK (α := Role) hi (by unfold roleSort; simp) m os⟩
end
set_option maxRecDepth 100000 in
set_option maxHeartbeats 1000000 in
theorem roleSet_any (a : Option Addr) (n c : Nat) (l : List Role) (W : World) (h : Fl W a n l) (hn : n ≤ 2000000) (hs : ∀ x ∈ l, x.1.length ≤ 100000 ∧ x.2.length ≤ 100000) :
    Calls Tryz.prog 104 #[.slice a n c] W fun e w' => ∃ va vc, e = .returned (.slice va (roleSet l).length vc) ∧ FreshI W w' (rowI 45 2 (.slice va (roleSet l).length vc) (roleSet l).length (cellsL (roleSet l))) := by
  have H := Lib.hid (And.intro h hs)
  have st := Own.startOld W
  clear h hs
  (try simp only [nsl, Value.cells, unB] at st)
  (try clear hc); have hc := st.facts; (try simp only [nfl, nft, Nat.reduceAdd] at hc)
  go_enter Tryz.func104, Tryz.ntmps104
  go_wp2_with fail
  refine (roleClone_any a n c l _ (st.oldFl (i := 0) get0 H.out.1) hn).mono ?_
  rintro en w ⟨va, vc, rfl, hnew⟩
  replace st := st.fresh hnew
  clear hnew
  (try simp only [nsl, Value.cells, unB] at st)
  (try clear hc); have hc := st.facts; (try simp only [nfl, nft, Nat.reduceAdd] at hc)
  go_wp2_with fail
  obtain ⟨fr', al', st', back⟩ := st.sub [1] (by decide) (by simp)
  (try simp only [nsl, Value.cells, unB] at st')
  refine (deleteFuncRole_c st' hn 124 #[] (fun x => !roleR x) (fun _ _ => by kernel_rfl) (fun x hx w => roleSet1_any x w (H.out.2 x hx).1 (H.out.2 x hx).2)).mono ?_
  clear st'
  rintro en w ⟨m, rfl, st'⟩
  replace st := back _ _ (by simp) st'
  clear back st'
  (try simp only [nsl, Value.cells, unB] at st)
  (try clear hc); have hc := st.facts; (try simp only [nfl, nft, Nat.reduceAdd] at hc)
  simp only [Bool.not_not] at st
  have hm : m ≤ n := by
    have h1 := roleLen (st.row (i := 1) get1)
    have h2 := List.length_filter_le (fun x => roleR x) l
    have h3 := H.out.1.1
    omega
  go_wp2_with fail
  refine (sortRole_c st 1 get1 (by omega)).mono ?_
  rintro en w ⟨rfl, st'⟩
  clear st
  have st := st'
  clear st'
  (try simp only [nsl, Value.cells, unB] at st)
  (try clear hc); have hc := st.facts; (try simp only [nfl, nft, Nat.reduceAdd] at hc)
  go_wp2_with fail
  obtain ⟨fr', al', st', back⟩ := st.sub [1] (by decide) (by simp)
  (try simp only [nsl, Value.cells, unB] at st')
  refine (compactRole_c st' (by omega)).mono ?_
  clear st'
  rintro en w ⟨m2, rfl, st'⟩
  replace st := back _ _ (by simp) st'
  clear back st'
  (try simp only [nsl, Value.cells, unB] at st)
  (try clear hc); have hc := st.facts; (try simp only [nfl, nft, Nat.reduceAdd] at hc)
  rw [← roleSet_eq l] at st
  have hm2 := roleLen (st.row (i := 1) get1)
  subst hm2
  have hfin := st.toFresh (i := 1) get1
  have HF := Lib.hid hfin
  clear hfin st
  go_wp2_with fail
  go_ret
  exact ⟨va, vc, rfl, HF.out⟩
end Go.Proofs.YtekngjkjgmplpaaGreat

namespace Go.Proofs.YtekngjkjgmplpaaGreat
set_option linter.unusedSimpArgs false
set_option linter.unusedVariables false
open Go Go.RowKit
def credCmp (a b : CredT) : Int := cmp2 (credBy a) (credBy b)
set_option maxRecDepth 100000 in
set_option maxHeartbeats 1000000 in
theorem refCredCompare_any (x y : CredT) (W : World) (hx : CredL 100000 x) (hy : CredL 100000 y) :
    Calls Tryz.prog 32 #[cV x, cV y] W fun e w' => e = .returned (.int .i64 (credCmp x y)) ∧ Ext W w' := by
  have HX := Lib.hid (fun W => refCredBy_any x W hx)
  have HY := Lib.hid (fun W => refCredBy_any y W hy)
  have HC : Hid (credCmp x y = cmp2 (credBy x) (credBy y)) := Lib.hid rfl
  clear hx hy
  generalize credBy x = p at *
  generalize credBy y = q at *
  generalize credCmp x y = r at *
  obtain ⟨k, ⟨ho, hd⟩, nw, ⟨bo, bd⟩, ⟨co, cd⟩, we⟩ := x
  obtain ⟨k', ⟨ho', hd'⟩, nw', ⟨bo', bd'⟩, ⟨co', cd'⟩, we'⟩ := y
  have st := Own.startOld W
  unfold cV S at *
  simp only at HX HY
  (try simp only [nsl, Value.cells, unB] at st)
  (try clear hc); have hc := st.facts; (try simp only [nfl, nft, Nat.reduceAdd] at hc)
  go_enter Tryz.func32, Tryz.ntmps32
  go_wp2_with ((first
        | ((with_reducible refine wl_box ?_ (fun K hK => ?_)); rfl; refine owp_box (o := ⟨some 2, _, _, _, _, _⟩) rfl st ?_; apply Exists.intro; refine ⟨?_, ?_⟩; (focus (go_simp; try rfl)); (clear st; intro b2 w hb st; clear hb))
        | ((with_reducible refine wl_box ?_ (fun K hK => ?_)); rfl; refine owp_box (o := ⟨some 3, _, _, _, _, _⟩) rfl st ?_; apply Exists.intro; refine ⟨?_, ?_⟩; (focus (go_simp; try rfl)); (clear st; intro b3 w hb st; clear hb))); (try simp only [nsl, Value.cells, unB] at st); (try clear hc); have hc := st.facts; (try simp only [nfl, nft, Nat.reduceAdd] at hc))
  refine (HX.out _).mono ?_
  rintro en w ⟨rfl, hx⟩
  replace st := st.ext hx
  clear hx
  (try clear hc); have hc := st.facts; (try simp only [nfl, nft, Nat.reduceAdd] at hc)
  go_wp2_with fail
  refine (HY.out _).mono ?_
  rintro en w ⟨rfl, hx⟩
  replace st := st.ext hx
  clear hx
  (try clear hc); have hc := st.facts; (try simp only [nfl, nft, Nat.reduceAdd] at hc)
  cases h1 : strLt p q with
  | true =>
    have H1 := Lib.hid h1
    have hb : Op.bytesLess p q = true := h1
    clear h1
    go_wp2_with fail
    go_ret
    exact ⟨by rw [HC.out]; simp [cmp2, H1.out], st.ext0⟩
  | false =>
    have H1 := Lib.hid h1
    have hb : Op.bytesLess p q = false := h1
    clear h1
    cases h2 : strLt q p with
    | true =>
      have H2 := Lib.hid h2
      have hb2 : (!(Op.bytesLess p q || p == q)) = true := by
        rw [hb, (strLt_asymm h2).2]; rfl
      have hb3 : (p == q) = false := (strLt_asymm h2).2
      have hb4 : (!(p == q)) = true := by rw [hb3]; rfl
      clear h2
      go_wp2_with fail
      go_ret
      exact ⟨by rw [HC.out]; simp [cmp2, H1.out, H2.out], st.ext0⟩
    | false =>
      have H2 := Lib.hid h2
      have hpq : p = q := by
        rcases strLt_tri p q with h | h | h
        · rw [H1.out] at h; cases h
        · exact h
        · rw [H2.out] at h; cases h
      subst hpq
      have hb2 : (!(Op.bytesLess p p || p == p)) = false := by simp
      have hb4 : (!(p == p)) = false := by simp
      clear h2
      go_wp2_with fail
      go_ret
      exact ⟨by rw [HC.out]; simp [cmp2, H1.out, H2.out], st.ext0⟩
end Go.Proofs.YtekngjkjgmplpaaGreat

namespace Go.Proofs.YtekngjkjgmplpaaGreat
set_option linter.unusedSimpArgs false
set_option linter.unusedVariables false
open Go Go.RowKit
theorem bytesOf_by {P : Program} {w : World} {a : Option Addr} {n c : Nat} {xs : List UInt8} (h : By w a n xs) : (Extern.Bytes.bytesOf (.slice a n c)).run P w = .ok ⟨xs.toArray⟩ w := by
  have hn := h.1
  rcases Nat.eq_zero_or_pos n with h0 | h0
  · have hx : xs = [] := List.eq_nil_of_length_eq_zero (by omega)
    subst hx
    subst h0
    cases a with
    | none => rfl
    | some ad => rfl
  · obtain ⟨b, off, rfl, hc, _⟩ := h.at h0
    have hl := Lib.run_loadBytesX (P := P) w (xs.map fun x => (x.toNat : Int)) ⟨b, off, none⟩ .empty (fun j x hj => by
      rw [List.getElem?_map] at hj
      cases hq : xs[j]? with
      | none => rw [hq] at hj; cases hj
      | some y => rw [hq] at hj; simp at hj; subst hj; rw [addr_add]; exact hc j y hq)
    rw [List.length_map, ← hn] at hl
    change (Extern.Bytes.loadBytes ⟨b, off, none⟩ n .empty).run P w = _
    rw [hl]
    congr 1
    apply ByteArray.ext
    simp [Lib.bytesOf]
    rw [show ((fun n : Int => UInt8.ofNat n.toNat) ∘ fun x : UInt8 => (x.toNat : Int)) = id from by funext x; simp, List.map_id]
theorem cmpExt {P : Program} {w : World} {a a' : Option Addr} {n n' c c' : Nat} {xs ys : List UInt8} (h : By w a n xs) (h' : By w a' n' ys) :
    (Extern.BytealgCompare.compare #[.slice a n c, .slice a' n' c']).run P w = .ok (.int .i64 (cmp2 xs ys)) w := by
  change Sem.run P (do pure (goInt (Extern.BytealgCompare.cmp (← Extern.Bytes.bytesOf (.slice a n c)) (← Extern.Bytes.bytesOf (.slice a' n' c'))))) w = _
  simp only [Sem.run_bind, Sem.run_pure, bytesOf_by h, bytesOf_by h', Result.andThen]
  rw [Lib.cmp_eq, cmpBytes_eq]
  rfl
set_option maxRecDepth 100000 in
set_option maxHeartbeats 1000000 in
theorem bytesCompare_any {W : World} {a a' : Option Addr} {n n' c c' : Nat} {xs ys : List UInt8} (h : By W a n xs) (h' : By W a' n' ys) :
    Calls Tryz.prog 112 #[.slice a n c, .slice a' n' c'] W fun e w' => e = .returned (.int .i64 (cmp2 xs ys)) ∧ Ext W w' := by
  have H := Lib.hid (cmpExt (P := Tryz.prog) (c := c) (c' := c') h h')
  clear h h'
  have st := Own.startOld W
  (try simp only [nsl, Value.cells, unB] at st)
  (try clear hc); have hc := st.facts; (try simp only [nfl, nft, Nat.reduceAdd] at hc)
  go_enter Tryz.func112, Tryz.ntmps112
  go_wp2_with fail
  rw [run_callFunc_extern Tryz.func138 (by kernel_rfl) (by kernel_rfl) (by kernel_rfl) (e := Extern.BytealgCompare.compare) (by kernel_rfl), H.out]
  simp only [Result.andThen]
  rw [Oper.upon_value]
  go_wp2_with fail
  go_ret
  exact ⟨rfl, st.ext0⟩
set_option maxRecDepth 100000 in
set_option maxHeartbeats 1000000 in
theorem credCompare_any (x y : CredT) (W : World) (hx : CredL 100000 x) (hy : CredL 100000 y) :
    Calls Tryz.prog 91 #[cV x, cV y] W fun e w' => e = .returned (.int .i64 (credCmp x y)) ∧ Ext W w' := by
  have HX := Lib.hid (fun W => credBytes_any x W hx)
  have HY := Lib.hid (fun W => credBytes_any y W hy)
  have HC : Hid (credCmp x y = cmp2 (credBy x) (credBy y)) := Lib.hid rfl
  clear hx hy
  generalize credBy x = p at *
  generalize credBy y = q at *
  generalize credCmp x y = r at *
  obtain ⟨k, ⟨ho, hd⟩, nw, ⟨bo, bd⟩, ⟨co, cd⟩, we⟩ := x
  obtain ⟨k', ⟨ho', hd'⟩, nw', ⟨bo', bd'⟩, ⟨co', cd'⟩, we'⟩ := y
  have st := Own.startOld W
  unfold cV S at *
  simp only at HX HY
  (try simp only [nsl, Value.cells, unB] at st)
  (try clear hc); have hc := st.facts; (try simp only [nfl, nft, Nat.reduceAdd] at hc)
  go_enter Tryz.func91, Tryz.ntmps91
  go_wp2_with ((first
        | ((with_reducible refine wl_box ?_ (fun K hK => ?_)); rfl; refine owp_box (o := ⟨some 2, _, _, _, _, _⟩) rfl st ?_; apply Exists.intro; refine ⟨?_, ?_⟩; (focus (go_simp; try rfl)); (clear st; intro b2 w hb st; clear hb))
        | ((with_reducible refine wl_box ?_ (fun K hK => ?_)); rfl; refine owp_box (o := ⟨some 3, _, _, _, _, _⟩) rfl st ?_; apply Exists.intro; refine ⟨?_, ?_⟩; (focus (go_simp; try rfl)); (clear st; intro b3 w hb st; clear hb))); (try simp only [nsl, Value.cells, unB] at st); (try clear hc); have hc := st.facts; (try simp only [nfl, nft, Nat.reduceAdd] at hc))
  refine Rg4.wp_region4_eq #[0, 1, 0, 7, 15, 31] [1, 3, 4] [0] (fun W' => Blk W' b3 [.int .i64 k', .string ⟨ho'.toArray⟩, .string ⟨hd'.toArray⟩, .string ⟨nw'.toArray⟩, .string ⟨bo'.toArray⟩, .string ⟨bd'.toArray⟩, .string ⟨co'.toArray⟩, .string ⟨cd'.toArray⟩, .string ⟨we'.toArray⟩]) [0, 2, 1, 3, 4, 5] (by kernel_rfl) (by kernel_rfl) (by kernel_rfl) (by kernel_rfl) (show Rg4.PB _ by repeat (first | with_reducible exact Rg4.pb_body | with_reducible exact Rg4.pb_bodyD rfl | with_reducible refine Rg4.pb_then ?_ | with_reducible refine Rg4.pb_inBlock ?_ | with_reducible refine Rg4.pb_noGoto ?_)) (st.drew.blk (i := 2) get2) ?_
  replace st := st.drew
  change Rg4.wp4 _ _ _ _ _ _ _ _ _ (World.drew _) _ _
  generalize World.drew _ = w at st ⊢
  (try clear hc); have hc := st.facts; (try simp only [nfl, nft, Nat.reduceAdd] at hc)
  (refine Rg4.w4_read (Rg4.want_none rfl) rfl rfl ?_; apply Exists.intro; refine ⟨fun w' hw' hcl' => ?_, ?_⟩; focus (subst hw'; (focus (first | (go_simp; done) | (go_simp; first | rfl | (rw [if_neg] <;> first | rfl | omega) | (rw [if_pos] <;> first | rfl | omega))))); (try simp only [Rg4.nrm]))
  (refine Rg4.w4_cl (Rg4.want_none rfl) rfl ?_; apply Exists.intro; refine ⟨fun w' hcl => ?_, ?_⟩; (focus (have q0 := Blk.cell hcl 0; have q1 := Blk.cell hcl 1; have q2 := Blk.cell hcl 2; have q3 := Blk.cell hcl 3; have q4 := Blk.cell hcl 4; have q5 := Blk.cell hcl 5; have q6 := Blk.cell hcl 6; have q7 := Blk.cell hcl 7; have q8 := Blk.cell hcl 8; (try simp at q0 q1 q2 q3 q4 q5 q6 q7 q8); (focus (first | (go_simp; done) | (go_simp; first | rfl | (rw [if_neg] <;> first | rfl | omega) | (rw [if_pos] <;> first | rfl | omega)))))); (try simp only [Rg4.nrm]))
  refine Rg4.w4_bar (Rg4.want_none rfl) rfl (fun w' hw' hcl _ K hK => ?_)
  subst hw'
  go_wp2_with fail
  refine (HX.out _).mono ?_
  rintro en w ⟨pa, pn, pc, rfl, hpc, hby, hx⟩
  replace st := st.ext hx
  clear hx
  (try simp only [nsl, Value.cells, unB] at st)
  (try clear hc); have hc := st.facts; (try simp only [nfl, nft, Nat.reduceAdd] at hc)
  refine hK _ _ ⟨st.blk (i := 2) get2, ?_⟩
  clear hK
  (try simp only [Rg4.nrm])

  refine Rg4.w4_bar (Rg4.want_none rfl) rfl (fun w' hw' hcl _ K hK => ?_)
  subst hw'
  go_wp2_with fail
  refine (HY.out _).mono ?_
  rintro en w ⟨qa, qn, qc, rfl, hqc, hqy, hx⟩
  have hby2 := hby.ext hx
  replace st := st.ext hx
  clear hx
  (try simp only [nsl, Value.cells, unB] at st)
  (try clear hc); have hc := st.facts; (try simp only [nfl, nft, Nat.reduceAdd] at hc)
  refine hK _ _ ⟨st.blk (i := 2) get2, ?_⟩
  clear hK
  (try simp only [Rg4.nrm])

  refine Rg4.w4_bar (Rg4.want_none rfl) rfl (fun w' hw' hcl _ K hK => ?_)
  subst hw'
  go_wp2_with fail
  refine (bytesCompare_any hby2 hqy).mono ?_
  rintro en w ⟨rfl, hx⟩
  replace st := st.ext hx
  clear hx
  (try simp only [nsl, Value.cells, unB] at st)
  (try clear hc); have hc := st.facts; (try simp only [nfl, nft, Nat.reduceAdd] at hc)
  refine hK _ _ ⟨st.blk (i := 2) get2, ?_⟩
  clear hK
  (try simp only [Rg4.nrm])
  (refine Rg4.w4_any (Rg4.want_none rfl) rfl ?_; apply Exists.intro; refine ⟨fun w' => ?_, ?_⟩; (focus (first | (go_simp; done) | (go_simp; first | rfl | (rw [if_neg] <;> first | rfl | omega) | (rw [if_pos] <;> first | rfl | omega)))); (try simp only [Rg4.nrm]))
  refine Rg4.w4_nil (fun w' hw' hcl' _ => ?_); subst hw'; clear hcl'
  go_wp2_with fail
  go_ret
  exact ⟨by rw [HC.out]; rfl, st.ext0⟩
end Go.Proofs.YtekngjkjgmplpaaGreat

namespace Go.Proofs.YtekngjkjgmplpaaGreat
set_option linter.unusedSimpArgs false
set_option linter.unusedVariables false
open Go Go.RowKit
def bareMg (x : MsgT) : MsgT :=
  if x.k = 1 then ⟨x.k, x.p, 0, x.nm, none, 0, 0, [], none, 0, 0, []⟩
  else if x.k = 2 then ⟨x.k, 0, 0, [], x.wa, x.wn, x.wc, x.ws, x.sa, x.sn, x.sc, x.ss⟩
  else if x.k = 5 then ⟨x.k, 0, x.e, [], none, 0, 0, [], none, 0, 0, []⟩
  else ⟨x.k, 0, 0, [], none, 0, 0, [], none, 0, 0, []⟩
theorem bareMg_ok {W : World} {x : MsgT} (h : MgOk W x) : MgOk W (bareMg x) := by
  have z : ∀ k p e nm, MgOk W ⟨k, p, e, nm, none, 0, 0, [], none, 0, 0, []⟩ := fun k p e nm => ⟨⟨⟨Nat.le_refl _, by simp [maxLen]⟩, Fl.nil _ _⟩, ⟨⟨Nat.le_refl _, by simp [maxLen]⟩, Fl.nil _ _⟩, by simp⟩
  unfold bareMg
  split
  · exact z _ _ _ _
  · split
    · exact h
    · split
      · exact z _ _ _ _
      · exact z _ _ _ _
theorem bareMg_L {x : MsgT} (h : MgL x) : MgL (bareMg x) := by
  have z : ∀ k p e nm, nm.length ≤ 100000 → MgL ⟨k, p, e, nm, none, 0, 0, [], none, 0, 0, []⟩ := fun k p e nm hn => ⟨by simp, by simp, hn, by simp, by simp⟩
  unfold bareMg
  split
  · exact z _ _ _ _ h.2.2.1
  · split
    · exact ⟨h.1, h.2.1, by simp, h.2.2.2.1, h.2.2.2.2⟩
    · split
      · exact z _ _ _ _ (by simp)
      · exact z _ _ _ _ (by simp)
set_option maxRecDepth 100000 in
set_option maxHeartbeats 4000000 in
theorem bare_any (x : MsgT) (W : World) : Calls Tryz.prog 71 #[mgV x] W fun e w' => e = .returned (mgV (bareMg x)) ∧ Ext W w' := by
  have HB : Hid (mgV (bareMg x) = mgV (if x.k = 1 then ⟨x.k, x.p, 0, x.nm, none, 0, 0, [], none, 0, 0, []⟩
  else if x.k = 2 then ⟨x.k, 0, 0, [], x.wa, x.wn, x.wc, x.ws, x.sa, x.sn, x.sc, x.ss⟩
  else if x.k = 5 then ⟨x.k, 0, x.e, [], none, 0, 0, [], none, 0, 0, []⟩
  else ⟨x.k, 0, 0, [], none, 0, 0, [], none, 0, 0, []⟩)) := Lib.hid rfl
  obtain ⟨bv, hbv⟩ : ∃ b, mgV (bareMg x) = b := ⟨_, rfl⟩
  rw [hbv] at HB ⊢
  clear hbv
  obtain ⟨k, p, e, nm, wa, wn, wc, ws, sa, sn, sc, ss⟩ := x
  simp only at HB
  have st := Own.startOld W
  unfold mgV S
  (try simp only [nsl, Value.cells, unB] at st)
  (try clear hc); have hc := st.facts; (try simp only [nfl, nft, Nat.reduceAdd] at hc)
  by_cases k1 : k = 1
  · subst k1
    have H1 : Hid (bv = .agg #[.int .i64 1, .int .i64 p, .int .i64 0, .string ⟨nm.toArray⟩, .slice none 0 0, .slice none 0 0]) := Lib.hid (by rw [HB.out, if_pos rfl]; rfl)
    go_enter Tryz.func71, Tryz.ntmps71
    go_wp2_with ((first
          | ((with_reducible refine wl_box ?_ (fun K hK => ?_)); rfl; refine owp_box (o := ⟨some 1, _, _, _, _, _⟩) rfl st ?_; apply Exists.intro; refine ⟨?_, ?_⟩; (focus (go_simp; try rfl)); (clear st; intro b1 w hb st; clear hb))
          | ((with_reducible refine wl_alloc ?_ (fun K hK => ?_)); rfl; refine owp_alloc (o := ⟨some 2, _, _, _, _, _⟩) rfl st ?_; apply Exists.intro; apply Exists.intro; refine ⟨?_, ?_⟩; (focus (first | (go_simp; done) | (go_simp; rfl))); (clear st; intro b2 w hb st; clear hb))
          | ((with_reducible refine wl_alloc ?_ (fun K hK => ?_)); rfl; refine owp_alloc (o := ⟨some 3, _, _, _, _, _⟩) rfl st ?_; apply Exists.intro; apply Exists.intro; refine ⟨?_, ?_⟩; (focus (first | (go_simp; done) | (go_simp; rfl))); (clear st; intro b3 w hb st; clear hb))
          | ((with_reducible refine wl_store ?_ (fun K hK => ?_)); rfl; refine owp_store rfl st ?_; apply Exists.intro; apply Exists.intro; refine ⟨?_, ?_, ?_⟩; (focus (go_simp; try rfl)); (focus (go_simp; try rfl)); (with_reducible refine ⟨3, _, _, _, _, get3, rfl, rfl, ?_, ?_, ?_, ?_⟩); (kernel_rfl); (simp [Value.cells]); (rfl); (clear st; intro w st))); (try simp only [nsl, Value.cells, unB] at st); (try clear hc); have hc := st.facts; (try simp only [nfl, nft, Nat.reduceAdd] at hc))
    refine Rg4.wp_region4_eq #[0, 1, 0, 4, 3, 19, 63, 127] [5, 7] [] (fun W' => Blk W' b1 [.int .i64 1, .int .i64 p, .int .i64 e, .string ⟨nm.toArray⟩, .slice wa wn wc, .slice sa sn sc]) [0, 1, 2, 3, 4, 5, 6, 7] (by kernel_rfl) (by kernel_rfl) (by kernel_rfl) (by kernel_rfl) (show Rg4.PB _ by repeat (first | with_reducible exact Rg4.pb_body | with_reducible exact Rg4.pb_bodyD rfl | with_reducible refine Rg4.pb_then ?_ | with_reducible refine Rg4.pb_inBlock ?_ | with_reducible refine Rg4.pb_noGoto ?_)) (st.drew.blk (i := 1) get1) ?_
    replace st := st.drew
    change Rg4.wp4 _ _ _ _ _ _ _ _ _ (World.drew _) _ _
    generalize World.drew _ = w at st ⊢
    (try clear hc); have hc := st.facts; (try simp only [nfl, nft, Nat.reduceAdd] at hc)
    (refine Rg4.w4_any (Rg4.want_none rfl) rfl ?_; apply Exists.intro; refine ⟨fun w' => ?_, ?_⟩; (focus (first | (go_simp; done) | (go_simp; first | rfl | (rw [if_neg] <;> first | rfl | omega) | (rw [if_pos] <;> first | rfl | omega)))); (try simp only [Rg4.nrm]))
    (refine Rg4.w4_cl (Rg4.want_none rfl) rfl ?_; apply Exists.intro; refine ⟨fun w' hcl => ?_, ?_⟩; (focus (have q0 := Blk.cell hcl 0; have q1 := Blk.cell hcl 1; have q2 := Blk.cell hcl 2; have q3 := Blk.cell hcl 3; have q4 := Blk.cell hcl 4; have q5 := Blk.cell hcl 5; (try simp at q0 q1 q2 q3 q4 q5); (focus (first | (go_simp; done) | (go_simp; first | rfl | (rw [if_neg] <;> first | rfl | omega) | (rw [if_pos] <;> first | rfl | omega)))))); (try simp only [Rg4.nrm]))
    (refine Rg4.w4_any (Rg4.want_none rfl) rfl ?_; apply Exists.intro; refine ⟨fun w' => ?_, ?_⟩; (focus (first | (go_simp; done) | (go_simp; first | rfl | (rw [if_neg] <;> first | rfl | omega) | (rw [if_pos] <;> first | rfl | omega)))); (try simp only [Rg4.nrm]))
    (refine Rg4.w4_cl (Rg4.want_none rfl) rfl ?_; apply Exists.intro; refine ⟨fun w' hcl => ?_, ?_⟩; (focus (have q0 := Blk.cell hcl 0; have q1 := Blk.cell hcl 1; have q2 := Blk.cell hcl 2; have q3 := Blk.cell hcl 3; have q4 := Blk.cell hcl 4; have q5 := Blk.cell hcl 5; (try simp at q0 q1 q2 q3 q4 q5); (focus (first | (go_simp; done) | (go_simp; first | rfl | (rw [if_neg] <;> first | rfl | omega) | (rw [if_pos] <;> first | rfl | omega)))))); (try simp only [Rg4.nrm]))
    (refine Rg4.w4_any (Rg4.want_none rfl) rfl ?_; apply Exists.intro; refine ⟨fun w' => ?_, ?_⟩; (focus (first | (go_simp; done) | (go_simp; first | rfl | (rw [if_neg] <;> first | rfl | omega) | (rw [if_pos] <;> first | rfl | omega)))); (try simp only [Rg4.nrm]))
    (refine Rg4.w4_bar (Rg4.want_none rfl) rfl (fun w' hw' hcl' _ K hK => ?_); subst hw'; (refine owp_store rfl st ?_; apply Exists.intro; apply Exists.intro; refine ⟨?_, ?_, ?_⟩; (focus (go_simp; try rfl)); (focus (go_simp; try rfl)); (with_reducible refine ⟨3, _, _, _, _, get3, rfl, rfl, ?_, ?_, ?_, ?_⟩); (kernel_rfl); (simp [Value.cells]); (rfl); (clear st; intro w st); (try simp only [nsl, Value.cells, unB] at st); (try clear hc); have hc := st.facts; (try simp only [nfl, nft, Nat.reduceAdd] at hc)); refine hK _ _ ⟨st.blk (i := 1) get1, ?_⟩; (try simp only [Rg4.nrm]))
    (refine Rg4.w4_any (Rg4.want_none rfl) rfl ?_; apply Exists.intro; refine ⟨fun w' => ?_, ?_⟩; (focus (first | (go_simp; done) | (go_simp; first | rfl | (rw [if_neg] <;> first | rfl | omega) | (rw [if_pos] <;> first | rfl | omega)))); (try simp only [Rg4.nrm]))
    (refine Rg4.w4_bar (Rg4.want_none rfl) rfl (fun w' hw' hcl' _ K hK => ?_); subst hw'; (refine owp_store rfl st ?_; apply Exists.intro; apply Exists.intro; refine ⟨?_, ?_, ?_⟩; (focus (go_simp; try rfl)); (focus (go_simp; try rfl)); (with_reducible refine ⟨3, _, _, _, _, get3, rfl, rfl, ?_, ?_, ?_, ?_⟩); (kernel_rfl); (simp [Value.cells]); (rfl); (clear st; intro w st); (try simp only [nsl, Value.cells, unB] at st); (try clear hc); have hc := st.facts; (try simp only [nfl, nft, Nat.reduceAdd] at hc)); refine hK _ _ ⟨st.blk (i := 1) get1, ?_⟩; (try simp only [Rg4.nrm]))
    refine Rg4.w4_nil (fun w' hw' hcl' _ => ?_); subst hw'; clear hcl'
    go_wp2_with ((((with_reducible refine wl_store ?_ (fun K hK => ?_)); rfl; refine owp_store rfl st ?_; apply Exists.intro; apply Exists.intro; refine ⟨?_, ?_, ?_⟩; (focus (go_simp; try rfl)); (focus (go_simp; try rfl)); (with_reducible refine ⟨2, _, _, _, _, get2, rfl, rfl, ?_, ?_, ?_, ?_⟩); (kernel_rfl); (simp [Value.cells]); (rfl); (clear st; intro w st))); (try simp only [nsl, Value.cells, unB] at st); (try clear hc); have hc := st.facts; (try simp only [nfl, nft, Nat.reduceAdd] at hc))
    (try simp only [Exit.inBlock, Exit.then])
    refine bodyPost_cell rfl rfl (st.blk (i := 2) get2) Tryz.underlying25 rfl (by kernel_rfl) rfl ?_
    exact ⟨by rw [H1.out], st.ext0⟩
  by_cases k2 : k = 2
  · subst k2
    have H1 : Hid (bv = .agg #[.int .i64 2, .int .i64 0, .int .i64 0, .string ⟨#[]⟩, .slice wa wn wc, .slice sa sn sc]) := Lib.hid (by rw [HB.out, if_neg (by decide), if_pos rfl]; rfl)
    go_enter Tryz.func71, Tryz.ntmps71
    go_wp2_with ((first
          | ((with_reducible refine wl_box ?_ (fun K hK => ?_)); rfl; refine owp_box (o := ⟨some 1, _, _, _, _, _⟩) rfl st ?_; apply Exists.intro; refine ⟨?_, ?_⟩; (focus (go_simp; try rfl)); (clear st; intro b1 w hb st; clear hb))
          | ((with_reducible refine wl_alloc ?_ (fun K hK => ?_)); rfl; refine owp_alloc (o := ⟨some 2, _, _, _, _, _⟩) rfl st ?_; apply Exists.intro; apply Exists.intro; refine ⟨?_, ?_⟩; (focus (first | (go_simp; done) | (go_simp; rfl))); (clear st; intro b2 w hb st; clear hb))
          | ((with_reducible refine wl_alloc ?_ (fun K hK => ?_)); rfl; refine owp_alloc (o := ⟨some 3, _, _, _, _, _⟩) rfl st ?_; apply Exists.intro; apply Exists.intro; refine ⟨?_, ?_⟩; (focus (first | (go_simp; done) | (go_simp; rfl))); (clear st; intro b3 w hb st; clear hb))
          | ((with_reducible refine wl_store ?_ (fun K hK => ?_)); rfl; refine owp_store rfl st ?_; apply Exists.intro; apply Exists.intro; refine ⟨?_, ?_, ?_⟩; (focus (go_simp; try rfl)); (focus (go_simp; try rfl)); (with_reducible refine ⟨3, _, _, _, _, get3, rfl, rfl, ?_, ?_, ?_, ?_⟩); (kernel_rfl); (simp [Value.cells]); (rfl); (clear st; intro w st))); (try simp only [nsl, Value.cells, unB] at st); (try clear hc); have hc := st.facts; (try simp only [nfl, nft, Nat.reduceAdd] at hc))
    refine Rg4.wp_region4_eq #[0, 1, 0, 4, 3, 19, 63, 127] [5, 7] [] (fun W' => Blk W' b1 [.int .i64 2, .int .i64 p, .int .i64 e, .string ⟨nm.toArray⟩, .slice wa wn wc, .slice sa sn sc]) [0, 1, 2, 3, 4, 5, 6, 7] (by kernel_rfl) (by kernel_rfl) (by kernel_rfl) (by kernel_rfl) (show Rg4.PB _ by repeat (first | with_reducible exact Rg4.pb_body | with_reducible exact Rg4.pb_bodyD rfl | with_reducible refine Rg4.pb_then ?_ | with_reducible refine Rg4.pb_inBlock ?_ | with_reducible refine Rg4.pb_noGoto ?_)) (st.drew.blk (i := 1) get1) ?_
    replace st := st.drew
    change Rg4.wp4 _ _ _ _ _ _ _ _ _ (World.drew _) _ _
    generalize World.drew _ = w at st ⊢
    (try clear hc); have hc := st.facts; (try simp only [nfl, nft, Nat.reduceAdd] at hc)
    (refine Rg4.w4_any (Rg4.want_none rfl) rfl ?_; apply Exists.intro; refine ⟨fun w' => ?_, ?_⟩; (focus (first | (go_simp; done) | (go_simp; first | rfl | (rw [if_neg] <;> first | rfl | omega) | (rw [if_pos] <;> first | rfl | omega)))); (try simp only [Rg4.nrm]))
    (refine Rg4.w4_cl (Rg4.want_none rfl) rfl ?_; apply Exists.intro; refine ⟨fun w' hcl => ?_, ?_⟩; (focus (have q0 := Blk.cell hcl 0; have q1 := Blk.cell hcl 1; have q2 := Blk.cell hcl 2; have q3 := Blk.cell hcl 3; have q4 := Blk.cell hcl 4; have q5 := Blk.cell hcl 5; (try simp at q0 q1 q2 q3 q4 q5); (focus (first | (go_simp; done) | (go_simp; first | rfl | (rw [if_neg] <;> first | rfl | omega) | (rw [if_pos] <;> first | rfl | omega)))))); (try simp only [Rg4.nrm]))
    (refine Rg4.w4_any (Rg4.want_none rfl) rfl ?_; apply Exists.intro; refine ⟨fun w' => ?_, ?_⟩; (focus (first | (go_simp; done) | (go_simp; first | rfl | (rw [if_neg] <;> first | rfl | omega) | (rw [if_pos] <;> first | rfl | omega)))); (try simp only [Rg4.nrm]))
    (refine Rg4.w4_cl (Rg4.want_none rfl) rfl ?_; apply Exists.intro; refine ⟨fun w' hcl => ?_, ?_⟩; (focus (have q0 := Blk.cell hcl 0; have q1 := Blk.cell hcl 1; have q2 := Blk.cell hcl 2; have q3 := Blk.cell hcl 3; have q4 := Blk.cell hcl 4; have q5 := Blk.cell hcl 5; (try simp at q0 q1 q2 q3 q4 q5); (focus (first | (go_simp; done) | (go_simp; first | rfl | (rw [if_neg] <;> first | rfl | omega) | (rw [if_pos] <;> first | rfl | omega)))))); (try simp only [Rg4.nrm]))
    (refine Rg4.w4_any (Rg4.want_none rfl) rfl ?_; apply Exists.intro; refine ⟨fun w' => ?_, ?_⟩; (focus (first | (go_simp; done) | (go_simp; first | rfl | (rw [if_neg] <;> first | rfl | omega) | (rw [if_pos] <;> first | rfl | omega)))); (try simp only [Rg4.nrm]))
    (refine Rg4.w4_bar (Rg4.want_none rfl) rfl (fun w' hw' hcl' _ K hK => ?_); subst hw'; (refine owp_store rfl st ?_; apply Exists.intro; apply Exists.intro; refine ⟨?_, ?_, ?_⟩; (focus (go_simp; try rfl)); (focus (go_simp; try rfl)); (with_reducible refine ⟨3, _, _, _, _, get3, rfl, rfl, ?_, ?_, ?_, ?_⟩); (kernel_rfl); (simp [Value.cells]); (rfl); (clear st; intro w st); (try simp only [nsl, Value.cells, unB] at st); (try clear hc); have hc := st.facts; (try simp only [nfl, nft, Nat.reduceAdd] at hc)); refine hK _ _ ⟨st.blk (i := 1) get1, ?_⟩; (try simp only [Rg4.nrm]))
    (refine Rg4.w4_any (Rg4.want_none rfl) rfl ?_; apply Exists.intro; refine ⟨fun w' => ?_, ?_⟩; (focus (first | (go_simp; done) | (go_simp; first | rfl | (rw [if_neg] <;> first | rfl | omega) | (rw [if_pos] <;> first | rfl | omega)))); (try simp only [Rg4.nrm]))
    (refine Rg4.w4_bar (Rg4.want_none rfl) rfl (fun w' hw' hcl' _ K hK => ?_); subst hw'; (refine owp_store rfl st ?_; apply Exists.intro; apply Exists.intro; refine ⟨?_, ?_, ?_⟩; (focus (go_simp; try rfl)); (focus (go_simp; try rfl)); (with_reducible refine ⟨3, _, _, _, _, get3, rfl, rfl, ?_, ?_, ?_, ?_⟩); (kernel_rfl); (simp [Value.cells]); (rfl); (clear st; intro w st); (try simp only [nsl, Value.cells, unB] at st); (try clear hc); have hc := st.facts; (try simp only [nfl, nft, Nat.reduceAdd] at hc)); refine hK _ _ ⟨st.blk (i := 1) get1, ?_⟩; (try simp only [Rg4.nrm]))
    refine Rg4.w4_nil (fun w' hw' hcl' _ => ?_); subst hw'; clear hcl'
    go_wp2_with ((((with_reducible refine wl_store ?_ (fun K hK => ?_)); rfl; refine owp_store rfl st ?_; apply Exists.intro; apply Exists.intro; refine ⟨?_, ?_, ?_⟩; (focus (go_simp; try rfl)); (focus (go_simp; try rfl)); (with_reducible refine ⟨2, _, _, _, _, get2, rfl, rfl, ?_, ?_, ?_, ?_⟩); (kernel_rfl); (simp [Value.cells]); (rfl); (clear st; intro w st))); (try simp only [nsl, Value.cells, unB] at st); (try clear hc); have hc := st.facts; (try simp only [nfl, nft, Nat.reduceAdd] at hc))
    (try simp only [Exit.inBlock, Exit.then])
    refine bodyPost_cell rfl rfl (st.blk (i := 2) get2) Tryz.underlying25 rfl (by kernel_rfl) rfl ?_
    exact ⟨by rw [H1.out], st.ext0⟩
  by_cases k5 : k = 5
  · subst k5
    have H1 : Hid (bv = .agg #[.int .i64 5, .int .i64 0, .int .i64 e, .string ⟨#[]⟩, .slice none 0 0, .slice none 0 0]) := Lib.hid (by rw [HB.out, if_neg (by decide), if_neg (by decide), if_pos rfl]; rfl)
    go_enter Tryz.func71, Tryz.ntmps71
    go_wp2_with ((first
          | ((with_reducible refine wl_box ?_ (fun K hK => ?_)); rfl; refine owp_box (o := ⟨some 1, _, _, _, _, _⟩) rfl st ?_; apply Exists.intro; refine ⟨?_, ?_⟩; (focus (go_simp; try rfl)); (clear st; intro b1 w hb st; clear hb))
          | ((with_reducible refine wl_alloc ?_ (fun K hK => ?_)); rfl; refine owp_alloc (o := ⟨some 2, _, _, _, _, _⟩) rfl st ?_; apply Exists.intro; apply Exists.intro; refine ⟨?_, ?_⟩; (focus (first | (go_simp; done) | (go_simp; rfl))); (clear st; intro b2 w hb st; clear hb))
          | ((with_reducible refine wl_alloc ?_ (fun K hK => ?_)); rfl; refine owp_alloc (o := ⟨some 3, _, _, _, _, _⟩) rfl st ?_; apply Exists.intro; apply Exists.intro; refine ⟨?_, ?_⟩; (focus (first | (go_simp; done) | (go_simp; rfl))); (clear st; intro b3 w hb st; clear hb))
          | ((with_reducible refine wl_store ?_ (fun K hK => ?_)); rfl; refine owp_store rfl st ?_; apply Exists.intro; apply Exists.intro; refine ⟨?_, ?_, ?_⟩; (focus (go_simp; try rfl)); (focus (go_simp; try rfl)); (first | (with_reducible refine ⟨2, _, _, _, _, get2, rfl, rfl, ?_, ?_, ?_, ?_⟩) | (with_reducible refine ⟨3, _, _, _, _, get3, rfl, rfl, ?_, ?_, ?_, ?_⟩)); (kernel_rfl); (simp [Value.cells]); (rfl); (clear st; intro w st))); (try simp only [nsl, Value.cells, unB] at st); (try clear hc); have hc := st.facts; (try simp only [nfl, nft, Nat.reduceAdd] at hc))
    go_wp2_with fail
    (try simp only [Exit.inBlock, Exit.then])
    refine bodyPost_cell rfl rfl (st.blk (i := 2) get2) Tryz.underlying25 rfl (by kernel_rfl) rfl ?_
    exact ⟨by rw [H1.out], st.ext0⟩
  have H1 : Hid (bv = .agg #[.int .i64 k, .int .i64 0, .int .i64 0, .string ⟨#[]⟩, .slice none 0 0, .slice none 0 0]) := Lib.hid (by rw [HB.out, if_neg k1, if_neg k2, if_neg k5]; rfl)
  have k1b : (k == 1) = false := by simpa using k1
  have k2b : (k == 2) = false := by simpa using k2
  have k5b : (k == 5) = false := by simpa using k5
  clear k1 k2 k5
  go_enter Tryz.func71, Tryz.ntmps71
  go_wp2_with ((first
        | ((with_reducible refine wl_box ?_ (fun K hK => ?_)); rfl; refine owp_box (o := ⟨some 1, _, _, _, _, _⟩) rfl st ?_; apply Exists.intro; refine ⟨?_, ?_⟩; (focus (go_simp; try rfl)); (clear st; intro b1 w hb st; clear hb))
        | ((with_reducible refine wl_alloc ?_ (fun K hK => ?_)); rfl; refine owp_alloc (o := ⟨some 2, _, _, _, _, _⟩) rfl st ?_; apply Exists.intro; apply Exists.intro; refine ⟨?_, ?_⟩; (focus (first | (go_simp; done) | (go_simp; rfl))); (clear st; intro b2 w hb st; clear hb))
        | ((with_reducible refine wl_alloc ?_ (fun K hK => ?_)); rfl; refine owp_alloc (o := ⟨some 3, _, _, _, _, _⟩) rfl st ?_; apply Exists.intro; apply Exists.intro; refine ⟨?_, ?_⟩; (focus (first | (go_simp; done) | (go_simp; rfl))); (clear st; intro b3 w hb st; clear hb))
        | ((with_reducible refine wl_store ?_ (fun K hK => ?_)); rfl; refine owp_store rfl st ?_; apply Exists.intro; apply Exists.intro; refine ⟨?_, ?_, ?_⟩; (focus (go_simp; try rfl)); (focus (go_simp; try rfl)); (first | (with_reducible refine ⟨2, _, _, _, _, get2, rfl, rfl, ?_, ?_, ?_, ?_⟩) | (with_reducible refine ⟨3, _, _, _, _, get3, rfl, rfl, ?_, ?_, ?_, ?_⟩)); (kernel_rfl); (simp [Value.cells]); (rfl); (clear st; intro w st))); (try simp only [nsl, Value.cells, unB] at st); (try clear hc); have hc := st.facts; (try simp only [nfl, nft, Nat.reduceAdd] at hc))
  go_wp2_with fail
  (try simp only [Exit.inBlock, Exit.then])
  refine bodyPost_cell rfl rfl (st.blk (i := 2) get2) Tryz.underlying25 rfl (by kernel_rfl) rfl ?_
  exact ⟨by rw [H1.out], st.ext0⟩
/-- Which wants may be. -/
def wantsR (l : List Role) : Bool := decide (l.length ≤ 16) && decide (roleSet l = l)
set_option maxRecDepth 100000 in
set_option maxHeartbeats 1000000 in
theorem wants_any (a : Option Addr) (n c : Nat) (l : List Role) (W : World) (h : Fl W a n l) (hn : n ≤ 1000000) (hs : ∀ x ∈ l, x.1.length ≤ 100000 ∧ x.2.length ≤ 100000) :
    Calls Tryz.prog 72 #[.slice a n c] W fun e w' => e = .returned (.bool (wantsR l)) ∧ Ext W w' := by
  have H := Lib.hid h
  have HRS := Lib.hid (fun W' h => roleSet_any a n c l W' h (by omega) hs)
  have hsl := roleSet_len l
  have HNL : Hid (n = l.length) := Lib.hid h.1
  obtain ⟨r, hr⟩ : ∃ r, wantsR l = r := ⟨_, rfl⟩
  have HR : Hid (r = (decide (l.length ≤ 16) && decide (roleSet l = l))) := Lib.hid (by rw [← hr]; rfl)
  rw [hr]
  have HEQ := Lib.hid (fun va vc W' h1 h2 => roleEqual_any va (roleSet l).length vc (roleSet l) a n c l W' h1 h2 (by have := HNL.out; omega) (by omega))
  obtain ⟨q, hq⟩ : ∃ q, decide (roleSet l = l) = q := ⟨_, rfl⟩
  rw [hq] at HEQ HR
  obtain ⟨m, hm⟩ : ∃ m, (roleSet l).length = m := ⟨_, rfl⟩
  rw [hm] at HRS HEQ hsl
  have hmn : m ≤ n := by have := HNL.out; omega
  clear h hs hr hq hm hsl
  have st := Own.startOld W
  (try simp only [nsl, Value.cells, unB] at st)
  (try clear hc); have hc := st.facts; (try simp only [nfl, nft, Nat.reduceAdd] at hc)
  by_cases h16 : n ≤ 16
  · have H1 : Hid (r = q) := Lib.hid (by rw [HR.out, decide_eq_true (by have := HNL.out; omega)]; rfl)
    go_enter Tryz.func72, Tryz.ntmps72
    go_wp2_with fail
    refine (HRS.out _ (st.oldFl (i := 0) get0 H.out)).mono ?_
    rintro en w ⟨va, vc, rfl, hfr⟩
    replace st := st.fresh hfr
    clear hfr
    (try simp only [nsl, Value.cells, unB] at st)
    (try clear hc); have hc := st.facts; (try simp only [nfl, nft, Nat.reduceAdd] at hc)
    go_wp2_with fail
    refine (HEQ.out _ _ _ (rowFl' (α := Role) st (i := 1) get1).2 (st.oldFl (i := 0) get0 H.out)).mono ?_
    rintro en w ⟨rfl, hx⟩
    replace st := st.ext hx
    clear hx
    (try clear hc); have hc := st.facts; (try simp only [nfl, nft, Nat.reduceAdd] at hc)
    go_wp2_with fail
    go_ret
    exact ⟨by rw [H1.out]; rfl, st.ext0⟩
  · have H1 : Hid (r = false) := Lib.hid (by rw [HR.out, decide_eq_false (by have := HNL.out; omega)]; rfl)
    go_enter Tryz.func72, Tryz.ntmps72
    go_wp2_with fail
    go_ret
    exact ⟨by rw [H1.out]; rfl, st.ext0⟩
/-- Which shows may be. -/
def shAt (l : List SgnT) (j : Nat) : Bool := match l[j]? with
  | some x => credR x.c && (x.n == 8) && (if j = 0 then true else match l[j - 1]? with | some y => decide (credCmp y.c x.c < 0) | none => true)
  | none => true
def showsR (l : List SgnT) : Bool := (List.range l.length).all (shAt l) && decide (l.length ≤ 8)
theorem showsR_bad {l : List SgnT} {j : Nat} (hj : j < l.length) (h : shAt l j = false) : showsR l = false := by
  unfold showsR
  rw [show (List.range l.length).all (shAt l) = false from by rw [List.all_eq_false]; exact ⟨j, by simpa using hj, by rw [h]; decide⟩]
  rfl
theorem showsR_all {l : List SgnT} (h : ∀ i, i < l.length → shAt l i = true) : showsR l = decide (l.length ≤ 8) := by
  unfold showsR
  rw [show (List.range l.length).all (shAt l) = true from List.all_eq_true.2 fun i hi => h i (by simpa using hi)]
  rfl
theorem shAt_0 {l : List SgnT} (h : 0 < l.length) : shAt l 0 = (credR l[0].c && (l[0].n == 8)) := by
  unfold shAt; rw [List.getElem?_eq_getElem h]; simp
theorem shAt_s {l : List SgnT} {j : Nat} (h : j + 1 < l.length) : shAt l (j + 1) = (credR l[j + 1].c && (l[j + 1].n == 8) && decide (credCmp l[j].c l[j + 1].c < 0)) := by
  unfold shAt
  rw [List.getElem?_eq_getElem h]
  simp only [Nat.add_one_sub_one]
  rw [List.getElem?_eq_getElem (by omega : j < l.length)]
  simp
def SgL (x : SgnT) : Prop := x.n ≤ 100000 ∧ CLenS x.c
set_option maxRecDepth 100000 in
set_option maxHeartbeats 8000000 in
theorem shows_any (a : Option Addr) (n c : Nat) (l : List SgnT) (W : World) (h : Fl W a n l) (hn : n ≤ 1000000) (hs : ∀ x ∈ l, SgL x) :
    Calls Tryz.prog 73 #[.slice a n c] W fun e w' => e = .returned (.bool (showsR l)) ∧ Ext W w' := by
  have H := Lib.hid h
  have HL := Lib.hid hs
  have HNL : Hid (n = l.length) := Lib.hid h.1
  obtain ⟨r, hr⟩ : ∃ r, showsR l = r := ⟨_, rfl⟩
  have HR := Lib.hid hr
  rw [hr]
  clear h hs hr
  have st := Own.startOld W
  (try simp only [nsl, Value.cells, unB] at st)
  (try clear hc); have hc := st.facts; (try simp only [nfl, nft, Nat.reduceAdd] at hc)
  go_enter Tryz.func73, Tryz.ntmps73
  go_wp2_with fail
  go_loopg [7] n (fun kk i wr => ∃ (j : Nat), j ≤ n ∧ kk = n - j ∧ i = .int .i64 (j : Int) ∧ Hid (∀ i, i < j → shAt l i = true) ∧ Own (fun _ => False) (fun _ => True) W [oldI W] wr)
  case atStart => exact ⟨0, by omega, by omega, rfl, Lib.hid (fun i hi => by omega), st⟩
  case round =>
    obtain ⟨j, hj, rfl, rfl, HT, st'⟩ := hrel
    clear st hc
    have st := st'
    clear st'
    (try simp only [nsl, Value.cells, unB] at st)
    (try clear hc); have hc := st.facts; (try simp only [nfl, nft, Nat.reduceAdd] at hc)
    by_cases hjn : j < n
    · obtain ⟨b, off, ha, hcell⟩ := H.out.sgn (by omega)
      have hjl : j < l.length := by have := HNL.out; omega
      have HBD : Hid (shAt l j = false → r = false) := Lib.hid (fun q => by rw [← HR.out]; exact showsR_bad hjl q)
      have hcx := hcell j l[j] (List.getElem?_eq_getElem hjl)
      have hlx := HL.out l[j] (List.getElem_mem hjl)
      cases j with
      | zero =>
        have HSA : Hid (shAt l 0 = (credR l[0].c && (l[0].n == 8))) := Lib.hid (shAt_0 hjl)
        clear hcell
        generalize l[0] = x at *
        have HCR := Lib.hid (fun W => credRight_any x.c W hlx.2)
        obtain ⟨⟨ck, ⟨ho, hd⟩, cw, ⟨bo, bd⟩, ⟨co, cd⟩, we⟩, a1, n1, m1, xs⟩ := x
        simp only [Nat.zero_mul, Nat.add_zero, Nat.zero_add] at hcx
        obtain ⟨r0, r1, r2, r3, r4, r5, r6, r7, r8, r9⟩ := hcx
        replace r0 := st.oldCell (i := 0) get0 r0
        replace r1 := st.oldCell (i := 0) get0 r1
        replace r2 := st.oldCell (i := 0) get0 r2
        replace r3 := st.oldCell (i := 0) get0 r3
        replace r4 := st.oldCell (i := 0) get0 r4
        replace r5 := st.oldCell (i := 0) get0 r5
        replace r6 := st.oldCell (i := 0) get0 r6
        replace r7 := st.oldCell (i := 0) get0 r7
        replace r8 := st.oldCell (i := 0) get0 r8
        replace r9 := st.oldCell (i := 0) get0 r9
        subst ha
        simp only at HSA
        unfold S at r1 r2 r3 r4 r5 r6 r7 r8
        unfold cV S at HCR
        simp only at HCR
        obtain ⟨cr, hcr⟩ : ∃ q, credR ⟨ck, (ho, hd), cw, (bo, bd), (co, cd), we⟩ = q := ⟨_, rfl⟩
        rw [hcr] at HCR HSA
        clear hcr hlx hjl
        go_wp2_with ((first
              | ((with_reducible refine wl_alloc ?_ (fun K hK => ?_)); rfl; refine owp_alloc (o := ⟨some 4, _, _, _, _, _⟩) rfl st ?_; apply Exists.intro; apply Exists.intro; refine ⟨?_, ?_⟩; (focus (first | (go_simp; done) | (go_simp; rfl))); (clear st; intro b4 w hb st; clear hb))
              | ((with_reducible refine wl_store ?_ (fun K hK => ?_)); rfl; refine owp_store rfl st ?_; apply Exists.intro; apply Exists.intro; refine ⟨?_, ?_, ?_⟩; (focus (go_simp; try rfl)); (focus (go_simp; try rfl)); (with_reducible refine ⟨1, _, _, _, _, get1, rfl, rfl, ?_, ?_, ?_, ?_⟩); (kernel_rfl); (simp [Value.cells]); (rfl); (clear st; intro w st))); (try simp only [nsl, Value.cells, unB] at st); (try clear hc); have hc := st.facts; (try simp only [nfl, nft, Nat.reduceAdd] at hc))
        clear r0 r1 r2 r3 r4 r5 r6 r7 r8 r9
        cases cr with
        | false =>
          have HF : Hid (r = false) := Lib.hid (HBD.out (by rw [HSA.out]; simp only [Bool.false_and]; (try simp)))
          refine Rg4.wp_region4_eq #[0, 1, 3, 7, 15, 31, 63, 127, 255, 511, 1023, 2047, 4095, 8191, 16383, 16383, 49151, 131071, 262143, 524287, 16383, 1064959, 4194303, 8388607, 16777215, 33554431] [2, 22] [1, 6, 19, 21] (fun _ => True) [0, 1, 2, 3, 4, 5, 6, 7, 8, 9, 10, 11, 12, 13, 14, 15, 16, 17, 18, 19, 20, 21, 22, 23, 24, 25] (by kernel_rfl) (by kernel_rfl) (by kernel_rfl) (by kernel_rfl) (show Rg4.PB _ by repeat (first | with_reducible exact Rg4.pb_body | with_reducible exact Rg4.pb_bodyD rfl | with_reducible refine Rg4.pb_then ?_ | with_reducible refine Rg4.pb_inBlock ?_ | with_reducible refine Rg4.pb_noGoto ?_)) (trivial) ?_
          replace st := st.drew
          change Rg4.wp4 _ _ _ _ _ _ _ _ _ (World.drew _) _ _
          generalize World.drew _ = w at st ⊢
          (try clear hc); have hc := st.facts; (try simp only [nfl, nft, Nat.reduceAdd] at hc)
          (refine Rg4.w4_any (Rg4.want_none rfl) rfl ?_; apply Exists.intro; refine ⟨fun w' => ?_, ?_⟩; (focus (first | (go_simp; done) | (go_simp; first | rfl | (rw [if_neg] <;> first | rfl | omega) | (rw [if_pos] <;> first | rfl | omega)))); (try simp only [Rg4.nrm]))
          (refine Rg4.w4_read (Rg4.want_none rfl) rfl rfl ?_; apply Exists.intro; refine ⟨fun w' hw' hcl' => ?_, ?_⟩; focus (subst hw'; (focus (first | (go_simp; done) | (go_simp; first | rfl | (rw [if_neg] <;> first | rfl | omega) | (rw [if_pos] <;> first | rfl | omega))))); (try simp only [Rg4.nrm]))
          refine Rg4.w4_bar (Rg4.want_none rfl) rfl (fun w' hw' hcl _ K hK => ?_)
          subst hw'
          go_wp2_with fail
          refine (HCR.out _).mono ?_
          rintro en w ⟨rfl, hx⟩
          replace st := st.ext hx
          clear hx
          (try clear hc); have hc := st.facts; (try simp only [nfl, nft, Nat.reduceAdd] at hc)
          refine hK _ _ ⟨trivial, ?_⟩
          clear hK
          (try simp only [Rg4.nrm])
          iterate 2 (refine Rg4.w4_any (Rg4.want_none rfl) rfl ?_; apply Exists.intro; refine ⟨fun w' => ?_, ?_⟩; (focus (first | (go_simp; done) | (go_simp; first | rfl | (rw [if_neg] <;> first | rfl | omega) | (rw [if_pos] <;> first | rfl | omega)))); (try simp only [Rg4.nrm]))
          (first | (refine Rg4.w4_any (Rg4.wt rfl rfl rfl) rfl ?_; apply Exists.intro; refine ⟨fun w' => ?_, ?_⟩; (focus (first | (go_simp; done) | (go_simp; first | rfl | (rw [if_neg] <;> first | rfl | omega) | (rw [if_pos] <;> first | rfl | omega)))); (try simp only [Rg4.nrm])) | (refine Rg4.w4_skip (Rg4.uw rfl rfl rfl) ?_; (try simp only [Rg4.nrm])) | (refine Rg4.w4_skip (Rg4.un rfl rfl rfl) ?_; (try simp only [Rg4.nrm])))
          (first | (refine Rg4.w4_read (Rg4.wt rfl rfl rfl) rfl rfl ?_; apply Exists.intro; refine ⟨fun w' hw' hcl' => ?_, ?_⟩; focus (subst hw'; (focus (first | (go_simp; done) | (go_simp; first | rfl | (rw [if_neg] <;> first | rfl | omega) | (rw [if_pos] <;> first | rfl | omega))))); (try simp only [Rg4.nrm])) | (refine Rg4.w4_skip (Rg4.uw rfl rfl rfl) ?_; (try simp only [Rg4.nrm])) | (refine Rg4.w4_skip (Rg4.un rfl rfl rfl) ?_; (try simp only [Rg4.nrm])))
          iterate 2 (first | (refine Rg4.w4_any (Rg4.wt rfl rfl rfl) rfl ?_; apply Exists.intro; refine ⟨fun w' => ?_, ?_⟩; (focus (first | (go_simp; done) | (go_simp; first | rfl | (rw [if_neg] <;> first | rfl | omega) | (rw [if_pos] <;> first | rfl | omega)))); (try simp only [Rg4.nrm])) | (refine Rg4.w4_skip (Rg4.uw rfl rfl rfl) ?_; (try simp only [Rg4.nrm])) | (refine Rg4.w4_skip (Rg4.un rfl rfl rfl) ?_; (try simp only [Rg4.nrm])))
          iterate 2 (refine Rg4.w4_any (Rg4.want_none rfl) rfl ?_; apply Exists.intro; refine ⟨fun w' => ?_, ?_⟩; (focus (first | (go_simp; done) | (go_simp; first | rfl | (rw [if_neg] <;> first | rfl | omega) | (rw [if_pos] <;> first | rfl | omega)))); (try simp only [Rg4.nrm]))
          iterate 8 (first | (refine Rg4.w4_any (Rg4.wt rfl rfl rfl) rfl ?_; apply Exists.intro; refine ⟨fun w' => ?_, ?_⟩; (focus (first | (go_simp; done) | (go_simp; first | rfl | (rw [if_neg] <;> first | rfl | omega) | (rw [if_pos] <;> first | rfl | omega)))); (try simp only [Rg4.nrm])) | (refine Rg4.w4_skip (Rg4.uw rfl rfl rfl) ?_; (try simp only [Rg4.nrm])) | (refine Rg4.w4_skip (Rg4.un rfl rfl rfl) ?_; (try simp only [Rg4.nrm])))
          (first | (refine Rg4.w4_read (Rg4.wt rfl rfl rfl) rfl rfl ?_; apply Exists.intro; refine ⟨fun w' hw' hcl' => ?_, ?_⟩; focus (subst hw'; (focus (first | (go_simp; done) | (go_simp; first | rfl | (rw [if_neg] <;> first | rfl | omega) | (rw [if_pos] <;> first | rfl | omega))))); (try simp only [Rg4.nrm])) | (refine Rg4.w4_skip (Rg4.uw rfl rfl rfl) ?_; (try simp only [Rg4.nrm])) | (refine Rg4.w4_skip (Rg4.un rfl rfl rfl) ?_; (try simp only [Rg4.nrm])))
          (first | (refine Rg4.w4_any (Rg4.wt rfl rfl rfl) rfl ?_; apply Exists.intro; refine ⟨fun w' => ?_, ?_⟩; (focus (first | (go_simp; done) | (go_simp; first | rfl | (rw [if_neg] <;> first | rfl | omega) | (rw [if_pos] <;> first | rfl | omega)))); (try simp only [Rg4.nrm])) | (refine Rg4.w4_skip (Rg4.uw rfl rfl rfl) ?_; (try simp only [Rg4.nrm])) | (refine Rg4.w4_skip (Rg4.un rfl rfl rfl) ?_; (try simp only [Rg4.nrm])))
          (first | (refine Rg4.w4_read (Rg4.wt rfl rfl rfl) rfl rfl ?_; apply Exists.intro; refine ⟨fun w' hw' hcl' => ?_, ?_⟩; focus (subst hw'; (focus (first | (go_simp; done) | (go_simp; first | rfl | (rw [if_neg] <;> first | rfl | omega) | (rw [if_pos] <;> first | rfl | omega))))); (try simp only [Rg4.nrm])) | (refine Rg4.w4_skip (Rg4.uw rfl rfl rfl) ?_; (try simp only [Rg4.nrm])) | (refine Rg4.w4_skip (Rg4.un rfl rfl rfl) ?_; (try simp only [Rg4.nrm])))
          first | refine Rg4.w4_skip (Rg4.uw rfl rfl rfl) ?_ | refine Rg4.w4_skip (Rg4.un rfl rfl rfl) ?_
          (try simp only [Rg4.nrm])
          iterate 2 (first | (refine Rg4.w4_any (Rg4.wt rfl rfl rfl) rfl ?_; apply Exists.intro; refine ⟨fun w' => ?_, ?_⟩; (focus (first | (go_simp; done) | (go_simp; first | rfl | (rw [if_neg] <;> first | rfl | omega) | (rw [if_pos] <;> first | rfl | omega)))); (try simp only [Rg4.nrm])) | (refine Rg4.w4_skip (Rg4.uw rfl rfl rfl) ?_; (try simp only [Rg4.nrm])) | (refine Rg4.w4_skip (Rg4.un rfl rfl rfl) ?_; (try simp only [Rg4.nrm])))
          (refine Rg4.w4_any (Rg4.want_none rfl) rfl ?_; apply Exists.intro; refine ⟨fun w' => ?_, ?_⟩; (focus (first | (go_simp; done) | (go_simp; first | rfl | (rw [if_neg] <;> first | rfl | omega) | (rw [if_pos] <;> first | rfl | omega)))); (try simp only [Rg4.nrm]))
          refine Rg4.w4_nil (fun w' hw' hcl' _ => ?_); subst hw'; clear hcl'
          go_wp2_with fail
          go_ret
          exact ⟨by rw [HF.out]; rfl, st.ext0⟩
        | true =>
          by_cases h8 : n1 = 8
          · subst h8
            refine Rg4.wp_region4_eq #[0, 1, 3, 7, 15, 31, 63, 127, 255, 511, 1023, 2047, 4095, 8191, 16383, 16383, 49151, 131071, 262143, 524287, 16383, 1064959, 4194303, 8388607, 16777215, 33554431] [2, 22] [1, 6, 19, 21] (fun _ => True) [0, 1, 2, 3, 4, 5, 6, 7, 8, 9, 10, 11, 12, 13, 14, 15, 16, 17, 18, 19, 20, 21, 22, 23, 24, 25] (by kernel_rfl) (by kernel_rfl) (by kernel_rfl) (by kernel_rfl) (show Rg4.PB _ by repeat (first | with_reducible exact Rg4.pb_body | with_reducible exact Rg4.pb_bodyD rfl | with_reducible refine Rg4.pb_then ?_ | with_reducible refine Rg4.pb_inBlock ?_ | with_reducible refine Rg4.pb_noGoto ?_)) (trivial) ?_
            replace st := st.drew
            change Rg4.wp4 _ _ _ _ _ _ _ _ _ (World.drew _) _ _
            generalize World.drew _ = w at st ⊢
            (try clear hc); have hc := st.facts; (try simp only [nfl, nft, Nat.reduceAdd] at hc)
            (refine Rg4.w4_any (Rg4.want_none rfl) rfl ?_; apply Exists.intro; refine ⟨fun w' => ?_, ?_⟩; (focus (first | (go_simp; done) | (go_simp; first | rfl | (rw [if_neg] <;> first | rfl | omega) | (rw [if_pos] <;> first | rfl | omega)))); (try simp only [Rg4.nrm]))
            (refine Rg4.w4_read (Rg4.want_none rfl) rfl rfl ?_; apply Exists.intro; refine ⟨fun w' hw' hcl' => ?_, ?_⟩; focus (subst hw'; (focus (first | (go_simp; done) | (go_simp; first | rfl | (rw [if_neg] <;> first | rfl | omega) | (rw [if_pos] <;> first | rfl | omega))))); (try simp only [Rg4.nrm]))
            refine Rg4.w4_bar (Rg4.want_none rfl) rfl (fun w' hw' hcl _ K hK => ?_)
            subst hw'
            go_wp2_with fail
            refine (HCR.out _).mono ?_
            rintro en w ⟨rfl, hx⟩
            replace st := st.ext hx
            clear hx
            (try clear hc); have hc := st.facts; (try simp only [nfl, nft, Nat.reduceAdd] at hc)
            refine hK _ _ ⟨trivial, ?_⟩
            clear hK
            (try simp only [Rg4.nrm])
            iterate 2 (refine Rg4.w4_any (Rg4.want_none rfl) rfl ?_; apply Exists.intro; refine ⟨fun w' => ?_, ?_⟩; (focus (first | (go_simp; done) | (go_simp; first | rfl | (rw [if_neg] <;> first | rfl | omega) | (rw [if_pos] <;> first | rfl | omega)))); (try simp only [Rg4.nrm]))
            (first | (refine Rg4.w4_any (Rg4.wt rfl rfl rfl) rfl ?_; apply Exists.intro; refine ⟨fun w' => ?_, ?_⟩; (focus (first | (go_simp; done) | (go_simp; first | rfl | (rw [if_neg] <;> first | rfl | omega) | (rw [if_pos] <;> first | rfl | omega)))); (try simp only [Rg4.nrm])) | (refine Rg4.w4_skip (Rg4.uw rfl rfl rfl) ?_; (try simp only [Rg4.nrm])) | (refine Rg4.w4_skip (Rg4.un rfl rfl rfl) ?_; (try simp only [Rg4.nrm])))
            (first | (refine Rg4.w4_read (Rg4.wt rfl rfl rfl) rfl rfl ?_; apply Exists.intro; refine ⟨fun w' hw' hcl' => ?_, ?_⟩; focus (subst hw'; (focus (first | (go_simp; done) | (go_simp; first | rfl | (rw [if_neg] <;> first | rfl | omega) | (rw [if_pos] <;> first | rfl | omega))))); (try simp only [Rg4.nrm])) | (refine Rg4.w4_skip (Rg4.uw rfl rfl rfl) ?_; (try simp only [Rg4.nrm])) | (refine Rg4.w4_skip (Rg4.un rfl rfl rfl) ?_; (try simp only [Rg4.nrm])))
            iterate 2 (first | (refine Rg4.w4_any (Rg4.wt rfl rfl rfl) rfl ?_; apply Exists.intro; refine ⟨fun w' => ?_, ?_⟩; (focus (first | (go_simp; done) | (go_simp; first | rfl | (rw [if_neg] <;> first | rfl | omega) | (rw [if_pos] <;> first | rfl | omega)))); (try simp only [Rg4.nrm])) | (refine Rg4.w4_skip (Rg4.uw rfl rfl rfl) ?_; (try simp only [Rg4.nrm])) | (refine Rg4.w4_skip (Rg4.un rfl rfl rfl) ?_; (try simp only [Rg4.nrm])))
            iterate 2 (refine Rg4.w4_any (Rg4.want_none rfl) rfl ?_; apply Exists.intro; refine ⟨fun w' => ?_, ?_⟩; (focus (first | (go_simp; done) | (go_simp; first | rfl | (rw [if_neg] <;> first | rfl | omega) | (rw [if_pos] <;> first | rfl | omega)))); (try simp only [Rg4.nrm]))
            iterate 8 (first | (refine Rg4.w4_any (Rg4.wt rfl rfl rfl) rfl ?_; apply Exists.intro; refine ⟨fun w' => ?_, ?_⟩; (focus (first | (go_simp; done) | (go_simp; first | rfl | (rw [if_neg] <;> first | rfl | omega) | (rw [if_pos] <;> first | rfl | omega)))); (try simp only [Rg4.nrm])) | (refine Rg4.w4_skip (Rg4.uw rfl rfl rfl) ?_; (try simp only [Rg4.nrm])) | (refine Rg4.w4_skip (Rg4.un rfl rfl rfl) ?_; (try simp only [Rg4.nrm])))
            (first | (refine Rg4.w4_read (Rg4.wt rfl rfl rfl) rfl rfl ?_; apply Exists.intro; refine ⟨fun w' hw' hcl' => ?_, ?_⟩; focus (subst hw'; (focus (first | (go_simp; done) | (go_simp; first | rfl | (rw [if_neg] <;> first | rfl | omega) | (rw [if_pos] <;> first | rfl | omega))))); (try simp only [Rg4.nrm])) | (refine Rg4.w4_skip (Rg4.uw rfl rfl rfl) ?_; (try simp only [Rg4.nrm])) | (refine Rg4.w4_skip (Rg4.un rfl rfl rfl) ?_; (try simp only [Rg4.nrm])))
            (first | (refine Rg4.w4_any (Rg4.wt rfl rfl rfl) rfl ?_; apply Exists.intro; refine ⟨fun w' => ?_, ?_⟩; (focus (first | (go_simp; done) | (go_simp; first | rfl | (rw [if_neg] <;> first | rfl | omega) | (rw [if_pos] <;> first | rfl | omega)))); (try simp only [Rg4.nrm])) | (refine Rg4.w4_skip (Rg4.uw rfl rfl rfl) ?_; (try simp only [Rg4.nrm])) | (refine Rg4.w4_skip (Rg4.un rfl rfl rfl) ?_; (try simp only [Rg4.nrm])))
            (first | (refine Rg4.w4_read (Rg4.wt rfl rfl rfl) rfl rfl ?_; apply Exists.intro; refine ⟨fun w' hw' hcl' => ?_, ?_⟩; focus (subst hw'; (focus (first | (go_simp; done) | (go_simp; first | rfl | (rw [if_neg] <;> first | rfl | omega) | (rw [if_pos] <;> first | rfl | omega))))); (try simp only [Rg4.nrm])) | (refine Rg4.w4_skip (Rg4.uw rfl rfl rfl) ?_; (try simp only [Rg4.nrm])) | (refine Rg4.w4_skip (Rg4.un rfl rfl rfl) ?_; (try simp only [Rg4.nrm])))
            first | refine Rg4.w4_skip (Rg4.uw rfl rfl rfl) ?_ | refine Rg4.w4_skip (Rg4.un rfl rfl rfl) ?_
            (try simp only [Rg4.nrm])
            iterate 2 (first | (refine Rg4.w4_any (Rg4.wt rfl rfl rfl) rfl ?_; apply Exists.intro; refine ⟨fun w' => ?_, ?_⟩; (focus (first | (go_simp; done) | (go_simp; first | rfl | (rw [if_neg] <;> first | rfl | omega) | (rw [if_pos] <;> first | rfl | omega)))); (try simp only [Rg4.nrm])) | (refine Rg4.w4_skip (Rg4.uw rfl rfl rfl) ?_; (try simp only [Rg4.nrm])) | (refine Rg4.w4_skip (Rg4.un rfl rfl rfl) ?_; (try simp only [Rg4.nrm])))
            (refine Rg4.w4_any (Rg4.want_none rfl) rfl ?_; apply Exists.intro; refine ⟨fun w' => ?_, ?_⟩; (focus (first | (go_simp; done) | (go_simp; first | rfl | (rw [if_neg] <;> first | rfl | omega) | (rw [if_pos] <;> first | rfl | omega)))); (try simp only [Rg4.nrm]))
            refine Rg4.w4_nil (fun w' hw' hcl' _ => ?_); subst hw'; clear hcl'
            have HF : Hid (∀ i, i < 0 + 1 → shAt l i = true) := Lib.hid (fun i hi => by
              rcases Nat.lt_succ_iff_lt_or_eq.1 hi with z | z
              · exact HT.out i z
              · rw [z, HSA.out]; (try simp only []); (try simp))
            go_wp2_with fail
            have st' := st.keep [0] (by decide) (by simp)
            go_roundg (n - (0 + 1))
            case measure => omega
            case rel => exact ⟨0 + 1, by omega, by omega, by go_num, HF, by simpa [pick] using st'⟩
          · have h8b : ((n1 : Int) != 8) = true := by simpa using (by omega : (n1 : Int) ≠ 8)
            have h8c : (n1 == 8) = false := by simpa using h8
            have H8 := Lib.hid h8c
            clear h8 h8c
            have HF : Hid (r = false) := Lib.hid (HBD.out (by rw [HSA.out]; simp only [H8.out]; (try simp)))
            refine Rg4.wp_region4_eq #[0, 1, 3, 7, 15, 31, 63, 127, 255, 511, 1023, 2047, 4095, 8191, 16383, 16383, 49151, 131071, 262143, 524287, 16383, 1064959, 4194303, 8388607, 16777215, 33554431] [2, 22] [1, 6, 19, 21] (fun _ => True) [0, 1, 2, 3, 4, 5, 6, 7, 8, 9, 10, 11, 12, 13, 14, 15, 16, 17, 18, 19, 20, 21, 22, 23, 24, 25] (by kernel_rfl) (by kernel_rfl) (by kernel_rfl) (by kernel_rfl) (show Rg4.PB _ by repeat (first | with_reducible exact Rg4.pb_body | with_reducible exact Rg4.pb_bodyD rfl | with_reducible refine Rg4.pb_then ?_ | with_reducible refine Rg4.pb_inBlock ?_ | with_reducible refine Rg4.pb_noGoto ?_)) (trivial) ?_
            replace st := st.drew
            change Rg4.wp4 _ _ _ _ _ _ _ _ _ (World.drew _) _ _
            generalize World.drew _ = w at st ⊢
            (try clear hc); have hc := st.facts; (try simp only [nfl, nft, Nat.reduceAdd] at hc)
            (refine Rg4.w4_any (Rg4.want_none rfl) rfl ?_; apply Exists.intro; refine ⟨fun w' => ?_, ?_⟩; (focus (first | (go_simp; done) | (go_simp; first | rfl | (rw [if_neg] <;> first | rfl | omega) | (rw [if_pos] <;> first | rfl | omega)))); (try simp only [Rg4.nrm]))
            (refine Rg4.w4_read (Rg4.want_none rfl) rfl rfl ?_; apply Exists.intro; refine ⟨fun w' hw' hcl' => ?_, ?_⟩; focus (subst hw'; (focus (first | (go_simp; done) | (go_simp; first | rfl | (rw [if_neg] <;> first | rfl | omega) | (rw [if_pos] <;> first | rfl | omega))))); (try simp only [Rg4.nrm]))
            refine Rg4.w4_bar (Rg4.want_none rfl) rfl (fun w' hw' hcl _ K hK => ?_)
            subst hw'
            go_wp2_with fail
            refine (HCR.out _).mono ?_
            rintro en w ⟨rfl, hx⟩
            replace st := st.ext hx
            clear hx
            (try clear hc); have hc := st.facts; (try simp only [nfl, nft, Nat.reduceAdd] at hc)
            refine hK _ _ ⟨trivial, ?_⟩
            clear hK
            (try simp only [Rg4.nrm])
            iterate 2 (refine Rg4.w4_any (Rg4.want_none rfl) rfl ?_; apply Exists.intro; refine ⟨fun w' => ?_, ?_⟩; (focus (first | (go_simp; done) | (go_simp; first | rfl | (rw [if_neg] <;> first | rfl | omega) | (rw [if_pos] <;> first | rfl | omega)))); (try simp only [Rg4.nrm]))
            (first | (refine Rg4.w4_any (Rg4.wt rfl rfl rfl) rfl ?_; apply Exists.intro; refine ⟨fun w' => ?_, ?_⟩; (focus (first | (go_simp; done) | (go_simp; first | rfl | (rw [if_neg] <;> first | rfl | omega) | (rw [if_pos] <;> first | rfl | omega)))); (try simp only [Rg4.nrm])) | (refine Rg4.w4_skip (Rg4.uw rfl rfl rfl) ?_; (try simp only [Rg4.nrm])) | (refine Rg4.w4_skip (Rg4.un rfl rfl rfl) ?_; (try simp only [Rg4.nrm])))
            (first | (refine Rg4.w4_read (Rg4.wt rfl rfl rfl) rfl rfl ?_; apply Exists.intro; refine ⟨fun w' hw' hcl' => ?_, ?_⟩; focus (subst hw'; (focus (first | (go_simp; done) | (go_simp; first | rfl | (rw [if_neg] <;> first | rfl | omega) | (rw [if_pos] <;> first | rfl | omega))))); (try simp only [Rg4.nrm])) | (refine Rg4.w4_skip (Rg4.uw rfl rfl rfl) ?_; (try simp only [Rg4.nrm])) | (refine Rg4.w4_skip (Rg4.un rfl rfl rfl) ?_; (try simp only [Rg4.nrm])))
            iterate 2 (first | (refine Rg4.w4_any (Rg4.wt rfl rfl rfl) rfl ?_; apply Exists.intro; refine ⟨fun w' => ?_, ?_⟩; (focus (first | (go_simp; done) | (go_simp; first | rfl | (rw [if_neg] <;> first | rfl | omega) | (rw [if_pos] <;> first | rfl | omega)))); (try simp only [Rg4.nrm])) | (refine Rg4.w4_skip (Rg4.uw rfl rfl rfl) ?_; (try simp only [Rg4.nrm])) | (refine Rg4.w4_skip (Rg4.un rfl rfl rfl) ?_; (try simp only [Rg4.nrm])))
            iterate 2 (refine Rg4.w4_any (Rg4.want_none rfl) rfl ?_; apply Exists.intro; refine ⟨fun w' => ?_, ?_⟩; (focus (first | (go_simp; done) | (go_simp; first | rfl | (rw [if_neg] <;> first | rfl | omega) | (rw [if_pos] <;> first | rfl | omega)))); (try simp only [Rg4.nrm]))
            iterate 8 (first | (refine Rg4.w4_any (Rg4.wt rfl rfl rfl) rfl ?_; apply Exists.intro; refine ⟨fun w' => ?_, ?_⟩; (focus (first | (go_simp; done) | (go_simp; first | rfl | (rw [if_neg] <;> first | rfl | omega) | (rw [if_pos] <;> first | rfl | omega)))); (try simp only [Rg4.nrm])) | (refine Rg4.w4_skip (Rg4.uw rfl rfl rfl) ?_; (try simp only [Rg4.nrm])) | (refine Rg4.w4_skip (Rg4.un rfl rfl rfl) ?_; (try simp only [Rg4.nrm])))
            (first | (refine Rg4.w4_read (Rg4.wt rfl rfl rfl) rfl rfl ?_; apply Exists.intro; refine ⟨fun w' hw' hcl' => ?_, ?_⟩; focus (subst hw'; (focus (first | (go_simp; done) | (go_simp; first | rfl | (rw [if_neg] <;> first | rfl | omega) | (rw [if_pos] <;> first | rfl | omega))))); (try simp only [Rg4.nrm])) | (refine Rg4.w4_skip (Rg4.uw rfl rfl rfl) ?_; (try simp only [Rg4.nrm])) | (refine Rg4.w4_skip (Rg4.un rfl rfl rfl) ?_; (try simp only [Rg4.nrm])))
            (first | (refine Rg4.w4_any (Rg4.wt rfl rfl rfl) rfl ?_; apply Exists.intro; refine ⟨fun w' => ?_, ?_⟩; (focus (first | (go_simp; done) | (go_simp; first | rfl | (rw [if_neg] <;> first | rfl | omega) | (rw [if_pos] <;> first | rfl | omega)))); (try simp only [Rg4.nrm])) | (refine Rg4.w4_skip (Rg4.uw rfl rfl rfl) ?_; (try simp only [Rg4.nrm])) | (refine Rg4.w4_skip (Rg4.un rfl rfl rfl) ?_; (try simp only [Rg4.nrm])))
            (first | (refine Rg4.w4_read (Rg4.wt rfl rfl rfl) rfl rfl ?_; apply Exists.intro; refine ⟨fun w' hw' hcl' => ?_, ?_⟩; focus (subst hw'; (focus (first | (go_simp; done) | (go_simp; first | rfl | (rw [if_neg] <;> first | rfl | omega) | (rw [if_pos] <;> first | rfl | omega))))); (try simp only [Rg4.nrm])) | (refine Rg4.w4_skip (Rg4.uw rfl rfl rfl) ?_; (try simp only [Rg4.nrm])) | (refine Rg4.w4_skip (Rg4.un rfl rfl rfl) ?_; (try simp only [Rg4.nrm])))
            first | refine Rg4.w4_skip (Rg4.uw rfl rfl rfl) ?_ | refine Rg4.w4_skip (Rg4.un rfl rfl rfl) ?_
            (try simp only [Rg4.nrm])
            iterate 2 (first | (refine Rg4.w4_any (Rg4.wt rfl rfl rfl) rfl ?_; apply Exists.intro; refine ⟨fun w' => ?_, ?_⟩; (focus (first | (go_simp; done) | (go_simp; first | rfl | (rw [if_neg] <;> first | rfl | omega) | (rw [if_pos] <;> first | rfl | omega)))); (try simp only [Rg4.nrm])) | (refine Rg4.w4_skip (Rg4.uw rfl rfl rfl) ?_; (try simp only [Rg4.nrm])) | (refine Rg4.w4_skip (Rg4.un rfl rfl rfl) ?_; (try simp only [Rg4.nrm])))
            (refine Rg4.w4_any (Rg4.want_none rfl) rfl ?_; apply Exists.intro; refine ⟨fun w' => ?_, ?_⟩; (focus (first | (go_simp; done) | (go_simp; first | rfl | (rw [if_neg] <;> first | rfl | omega) | (rw [if_pos] <;> first | rfl | omega)))); (try simp only [Rg4.nrm]))
            refine Rg4.w4_nil (fun w' hw' hcl' _ => ?_); subst hw'; clear hcl'
            go_wp2_with fail
            go_ret
            exact ⟨by rw [HF.out]; rfl, st.ext0⟩
      | succ j =>
        have HSA : Hid (shAt l (j + 1) = (credR l[j + 1].c && (l[j + 1].n == 8) && decide (credCmp l[j].c l[j + 1].c < 0))) := Lib.hid (shAt_s hjl)
        have hcy := hcell j l[j] (List.getElem?_eq_getElem (by omega))
        have hly := HL.out l[j] (List.getElem_mem (by omega))
        clear hcell
        generalize l[j + 1] = x at *
        generalize l[j]'(by omega) = y at *
        have HCR := Lib.hid (fun W => credRight_any x.c W hlx.2)
        have HCC := Lib.hid (fun W => credCompare_any y.c x.c W hly.2.L hlx.2.L)
        obtain ⟨⟨ck, ⟨ho, hd⟩, cw, ⟨bo, bd⟩, ⟨co, cd⟩, we⟩, a1, n1, m1, xs⟩ := x
        obtain ⟨⟨ck', ⟨ho', hd'⟩, cw', ⟨bo', bd'⟩, ⟨co', cd'⟩, we'⟩, a2, n2, m2, ys⟩ := y
        obtain ⟨r0, r1, r2, r3, r4, r5, r6, r7, r8, r9⟩ := hcx
        replace r0 := st.oldCell (i := 0) get0 r0
        replace r1 := st.oldCell (i := 0) get0 r1
        replace r2 := st.oldCell (i := 0) get0 r2
        replace r3 := st.oldCell (i := 0) get0 r3
        replace r4 := st.oldCell (i := 0) get0 r4
        replace r5 := st.oldCell (i := 0) get0 r5
        replace r6 := st.oldCell (i := 0) get0 r6
        replace r7 := st.oldCell (i := 0) get0 r7
        replace r8 := st.oldCell (i := 0) get0 r8
        replace r9 := st.oldCell (i := 0) get0 r9
        subst ha
        simp only at r0 r1 r2 r3 r4 r5 r6 r7 r8 r9 HSA hcy
        unfold S at r1 r2 r3 r4 r5 r6 r7 r8 hcy
        unfold cV S at HCR HCC
        simp only at HCR HCC
        obtain ⟨cr, hcr⟩ : ∃ q, credR ⟨ck, (ho, hd), cw, (bo, bd), (co, cd), we⟩ = q := ⟨_, rfl⟩
        rw [hcr] at HCR HSA
        obtain ⟨cc, hcc⟩ : ∃ q, credCmp ⟨ck', (ho', hd'), cw', (bo', bd'), (co', cd'), we'⟩ ⟨ck, (ho, hd), cw, (bo, bd), (co, cd), we⟩ = q := ⟨_, rfl⟩
        rw [hcc] at HCC HSA
        have HCY := Lib.hid hcy
        clear hcr hlx hly hjl hcc hcy
        have hwj : IntKind.i64.wrap (j : Int) = (j : Int) := IntWalk.i64_in _ ⟨by omega, by omega⟩
        go_wp2_with ((first
              | ((with_reducible refine wl_alloc ?_ (fun K hK => ?_)); rfl; refine owp_alloc (o := ⟨some 4, _, _, _, _, _⟩) rfl st ?_; apply Exists.intro; apply Exists.intro; refine ⟨?_, ?_⟩; (focus (first | (go_simp; done) | (go_simp; rfl))); (clear st; intro b4 w hb st; clear hb))
              | ((with_reducible refine wl_store ?_ (fun K hK => ?_)); rfl; refine owp_store rfl st ?_; apply Exists.intro; apply Exists.intro; refine ⟨?_, ?_, ?_⟩; (focus (go_simp; try rfl)); (focus (go_simp; try rfl)); (with_reducible refine ⟨1, _, _, _, _, get1, rfl, rfl, ?_, ?_, ?_, ?_⟩); (kernel_rfl); (simp [Value.cells]); (rfl); (clear st; intro w st))); (try simp only [nsl, Value.cells, unB] at st); (try clear hc); have hc := st.facts; (try simp only [nfl, nft, Nat.reduceAdd] at hc))
        clear r0 r1 r2 r3 r4 r5 r6 r7 r8 r9
        cases cr with
        | false =>
          have HF : Hid (r = false) := Lib.hid (HBD.out (by rw [HSA.out]; simp only [Bool.false_and]; (try simp)))
          refine Rg4.wp_region4_eq #[0, 1, 3, 7, 15, 31, 63, 127, 255, 511, 1023, 2047, 4095, 8191, 16383, 16383, 49151, 131071, 262143, 524287, 16383, 1064959, 4194303, 8388607, 16777215, 33554431] [2, 22] [1, 6, 19, 21] (fun _ => True) [0, 1, 2, 3, 4, 5, 6, 7, 8, 9, 10, 11, 12, 13, 14, 15, 16, 17, 18, 19, 20, 21, 22, 23, 24, 25] (by kernel_rfl) (by kernel_rfl) (by kernel_rfl) (by kernel_rfl) (show Rg4.PB _ by repeat (first | with_reducible exact Rg4.pb_body | with_reducible exact Rg4.pb_bodyD rfl | with_reducible refine Rg4.pb_then ?_ | with_reducible refine Rg4.pb_inBlock ?_ | with_reducible refine Rg4.pb_noGoto ?_)) (trivial) ?_
          replace st := st.drew
          change Rg4.wp4 _ _ _ _ _ _ _ _ _ (World.drew _) _ _
          generalize World.drew _ = w at st ⊢
          (try clear hc); have hc := st.facts; (try simp only [nfl, nft, Nat.reduceAdd] at hc)
          (refine Rg4.w4_any (Rg4.want_none rfl) rfl ?_; apply Exists.intro; refine ⟨fun w' => ?_, ?_⟩; (focus (first | (go_simp; done) | (go_simp; first | rfl | (rw [if_neg] <;> first | rfl | omega) | (rw [if_pos] <;> first | rfl | omega)))); (try simp only [Rg4.nrm]))
          (refine Rg4.w4_read (Rg4.want_none rfl) rfl rfl ?_; apply Exists.intro; refine ⟨fun w' hw' hcl' => ?_, ?_⟩; focus (subst hw'; (focus (first | (go_simp; done) | (go_simp; first | rfl | (rw [if_neg] <;> first | rfl | omega) | (rw [if_pos] <;> first | rfl | omega))))); (try simp only [Rg4.nrm]))
          refine Rg4.w4_bar (Rg4.want_none rfl) rfl (fun w' hw' hcl _ K hK => ?_)
          subst hw'
          go_wp2_with fail
          refine (HCR.out _).mono ?_
          rintro en w ⟨rfl, hx⟩
          replace st := st.ext hx
          clear hx
          (try clear hc); have hc := st.facts; (try simp only [nfl, nft, Nat.reduceAdd] at hc)
          refine hK _ _ ⟨trivial, ?_⟩
          clear hK
          (try simp only [Rg4.nrm])
          iterate 2 (refine Rg4.w4_any (Rg4.want_none rfl) rfl ?_; apply Exists.intro; refine ⟨fun w' => ?_, ?_⟩; (focus (first | (go_simp; done) | (go_simp; first | rfl | (rw [if_neg] <;> first | rfl | omega) | (rw [if_pos] <;> first | rfl | omega)))); (try simp only [Rg4.nrm]))
          (first | (refine Rg4.w4_any (Rg4.wt rfl rfl rfl) rfl ?_; apply Exists.intro; refine ⟨fun w' => ?_, ?_⟩; (focus (first | (go_simp; done) | (go_simp; first | rfl | (rw [if_neg] <;> first | rfl | omega) | (rw [if_pos] <;> first | rfl | omega)))); (try simp only [Rg4.nrm])) | (refine Rg4.w4_skip (Rg4.uw rfl rfl rfl) ?_; (try simp only [Rg4.nrm])) | (refine Rg4.w4_skip (Rg4.un rfl rfl rfl) ?_; (try simp only [Rg4.nrm])))
          (first | (refine Rg4.w4_read (Rg4.wt rfl rfl rfl) rfl rfl ?_; apply Exists.intro; refine ⟨fun w' hw' hcl' => ?_, ?_⟩; focus (subst hw'; (focus (first | (go_simp; done) | (go_simp; first | rfl | (rw [if_neg] <;> first | rfl | omega) | (rw [if_pos] <;> first | rfl | omega))))); (try simp only [Rg4.nrm])) | (refine Rg4.w4_skip (Rg4.uw rfl rfl rfl) ?_; (try simp only [Rg4.nrm])) | (refine Rg4.w4_skip (Rg4.un rfl rfl rfl) ?_; (try simp only [Rg4.nrm])))
          iterate 2 (first | (refine Rg4.w4_any (Rg4.wt rfl rfl rfl) rfl ?_; apply Exists.intro; refine ⟨fun w' => ?_, ?_⟩; (focus (first | (go_simp; done) | (go_simp; first | rfl | (rw [if_neg] <;> first | rfl | omega) | (rw [if_pos] <;> first | rfl | omega)))); (try simp only [Rg4.nrm])) | (refine Rg4.w4_skip (Rg4.uw rfl rfl rfl) ?_; (try simp only [Rg4.nrm])) | (refine Rg4.w4_skip (Rg4.un rfl rfl rfl) ?_; (try simp only [Rg4.nrm])))
          iterate 2 (refine Rg4.w4_any (Rg4.want_none rfl) rfl ?_; apply Exists.intro; refine ⟨fun w' => ?_, ?_⟩; (focus (first | (go_simp; done) | (go_simp; first | rfl | (rw [if_neg] <;> first | rfl | omega) | (rw [if_pos] <;> first | rfl | omega)))); (try simp only [Rg4.nrm]))
          iterate 8 (first | (refine Rg4.w4_any (Rg4.wt rfl rfl rfl) rfl ?_; apply Exists.intro; refine ⟨fun w' => ?_, ?_⟩; (focus (first | (go_simp; done) | (go_simp; first | rfl | (rw [if_neg] <;> first | rfl | omega) | (rw [if_pos] <;> first | rfl | omega)))); (try simp only [Rg4.nrm])) | (refine Rg4.w4_skip (Rg4.uw rfl rfl rfl) ?_; (try simp only [Rg4.nrm])) | (refine Rg4.w4_skip (Rg4.un rfl rfl rfl) ?_; (try simp only [Rg4.nrm])))
          (first | (refine Rg4.w4_read (Rg4.wt rfl rfl rfl) rfl rfl ?_; apply Exists.intro; refine ⟨fun w' hw' hcl' => ?_, ?_⟩; focus (subst hw'; (focus (first | (go_simp; done) | (go_simp; first | rfl | (rw [if_neg] <;> first | rfl | omega) | (rw [if_pos] <;> first | rfl | omega))))); (try simp only [Rg4.nrm])) | (refine Rg4.w4_skip (Rg4.uw rfl rfl rfl) ?_; (try simp only [Rg4.nrm])) | (refine Rg4.w4_skip (Rg4.un rfl rfl rfl) ?_; (try simp only [Rg4.nrm])))
          (first | (refine Rg4.w4_any (Rg4.wt rfl rfl rfl) rfl ?_; apply Exists.intro; refine ⟨fun w' => ?_, ?_⟩; (focus (first | (go_simp; done) | (go_simp; first | rfl | (rw [if_neg] <;> first | rfl | omega) | (rw [if_pos] <;> first | rfl | omega)))); (try simp only [Rg4.nrm])) | (refine Rg4.w4_skip (Rg4.uw rfl rfl rfl) ?_; (try simp only [Rg4.nrm])) | (refine Rg4.w4_skip (Rg4.un rfl rfl rfl) ?_; (try simp only [Rg4.nrm])))
          (first | (refine Rg4.w4_read (Rg4.wt rfl rfl rfl) rfl rfl ?_; apply Exists.intro; refine ⟨fun w' hw' hcl' => ?_, ?_⟩; focus (subst hw'; (focus (first | (go_simp; done) | (go_simp; first | rfl | (rw [if_neg] <;> first | rfl | omega) | (rw [if_pos] <;> first | rfl | omega))))); (try simp only [Rg4.nrm])) | (refine Rg4.w4_skip (Rg4.uw rfl rfl rfl) ?_; (try simp only [Rg4.nrm])) | (refine Rg4.w4_skip (Rg4.un rfl rfl rfl) ?_; (try simp only [Rg4.nrm])))
          first | refine Rg4.w4_skip (Rg4.uw rfl rfl rfl) ?_ | refine Rg4.w4_skip (Rg4.un rfl rfl rfl) ?_
          (try simp only [Rg4.nrm])
          iterate 2 (first | (refine Rg4.w4_any (Rg4.wt rfl rfl rfl) rfl ?_; apply Exists.intro; refine ⟨fun w' => ?_, ?_⟩; (focus (first | (go_simp; done) | (go_simp; first | rfl | (rw [if_neg] <;> first | rfl | omega) | (rw [if_pos] <;> first | rfl | omega)))); (try simp only [Rg4.nrm])) | (refine Rg4.w4_skip (Rg4.uw rfl rfl rfl) ?_; (try simp only [Rg4.nrm])) | (refine Rg4.w4_skip (Rg4.un rfl rfl rfl) ?_; (try simp only [Rg4.nrm])))
          (refine Rg4.w4_any (Rg4.want_none rfl) rfl ?_; apply Exists.intro; refine ⟨fun w' => ?_, ?_⟩; (focus (first | (go_simp; done) | (go_simp; first | rfl | (rw [if_neg] <;> first | rfl | omega) | (rw [if_pos] <;> first | rfl | omega)))); (try simp only [Rg4.nrm]))
          refine Rg4.w4_nil (fun w' hw' hcl' _ => ?_); subst hw'; clear hcl'
          go_wp2_with fail
          go_ret
          exact ⟨by rw [HF.out]; rfl, st.ext0⟩
        | true =>
          by_cases h8 : n1 = 8
          · subst h8
            by_cases hlt : cc < 0
            · have HCL := Lib.hid hlt
              have hge : decide (cc ≥ 0) = false := by simpa using hlt
              clear hlt
              refine Rg4.wp_region4_eq #[0, 1, 3, 7, 15, 31, 63, 127, 255, 511, 1023, 2047, 4095, 8191, 16383, 16383, 49151, 131071, 262143, 524287, 16383, 1064959, 4194303, 8388607, 16777215, 33554431] [2, 22] [1, 6, 19, 21] (fun _ => True) [0, 1, 2, 3, 4, 5, 6, 7, 8, 9, 10, 11, 12, 13, 14, 15, 16, 17, 18, 19, 20, 21, 22, 23, 24, 25] (by kernel_rfl) (by kernel_rfl) (by kernel_rfl) (by kernel_rfl) (show Rg4.PB _ by repeat (first | with_reducible exact Rg4.pb_body | with_reducible exact Rg4.pb_bodyD rfl | with_reducible refine Rg4.pb_then ?_ | with_reducible refine Rg4.pb_inBlock ?_ | with_reducible refine Rg4.pb_noGoto ?_)) (trivial) ?_
              replace st := st.drew
              change Rg4.wp4 _ _ _ _ _ _ _ _ _ (World.drew _) _ _
              generalize World.drew _ = w at st ⊢
              (try clear hc); have hc := st.facts; (try simp only [nfl, nft, Nat.reduceAdd] at hc)
              (refine Rg4.w4_any (Rg4.want_none rfl) rfl ?_; apply Exists.intro; refine ⟨fun w' => ?_, ?_⟩; (focus (first | (go_simp; done) | (go_simp; first | rfl | (rw [if_neg] <;> first | rfl | omega) | (rw [if_pos] <;> first | rfl | omega)))); (try simp only [Rg4.nrm]))
              (refine Rg4.w4_read (Rg4.want_none rfl) rfl rfl ?_; apply Exists.intro; refine ⟨fun w' hw' hcl' => ?_, ?_⟩; focus (subst hw'; obtain ⟨p0, p1, p2, p3, p4, p5, p6, p7, p8, p9⟩ := HCY.out; replace p0 := st.oldCell (i := 0) get0 p0; replace p1 := st.oldCell (i := 0) get0 p1; replace p2 := st.oldCell (i := 0) get0 p2; replace p3 := st.oldCell (i := 0) get0 p3; replace p4 := st.oldCell (i := 0) get0 p4; replace p5 := st.oldCell (i := 0) get0 p5; replace p6 := st.oldCell (i := 0) get0 p6; replace p7 := st.oldCell (i := 0) get0 p7; replace p8 := st.oldCell (i := 0) get0 p8; (focus (first | (go_simp; done) | (go_simp; first | rfl | (rw [if_neg] <;> first | rfl | omega) | (rw [if_pos] <;> first | rfl | omega))))); (try simp only [Rg4.nrm]))
              refine Rg4.w4_bar (Rg4.want_none rfl) rfl (fun w' hw' hcl _ K hK => ?_)
              subst hw'
              go_wp2_with fail
              refine (HCR.out _).mono ?_
              rintro en w ⟨rfl, hx⟩
              replace st := st.ext hx
              clear hx
              (try clear hc); have hc := st.facts; (try simp only [nfl, nft, Nat.reduceAdd] at hc)
              refine hK _ _ ⟨trivial, ?_⟩
              clear hK
              (try simp only [Rg4.nrm])
              iterate 2 (refine Rg4.w4_any (Rg4.want_none rfl) rfl ?_; apply Exists.intro; refine ⟨fun w' => ?_, ?_⟩; (focus (first | (go_simp; done) | (go_simp; first | rfl | (rw [if_neg] <;> first | rfl | omega) | (rw [if_pos] <;> first | rfl | omega)))); (try simp only [Rg4.nrm]))
              (first | (refine Rg4.w4_any (Rg4.wt rfl rfl rfl) rfl ?_; apply Exists.intro; refine ⟨fun w' => ?_, ?_⟩; (focus (first | (go_simp; done) | (go_simp; first | rfl | (rw [if_neg] <;> first | rfl | omega) | (rw [if_pos] <;> first | rfl | omega)))); (try simp only [Rg4.nrm])) | (refine Rg4.w4_skip (Rg4.uw rfl rfl rfl) ?_; (try simp only [Rg4.nrm])) | (refine Rg4.w4_skip (Rg4.un rfl rfl rfl) ?_; (try simp only [Rg4.nrm])))
              (first | (refine Rg4.w4_read (Rg4.wt rfl rfl rfl) rfl rfl ?_; apply Exists.intro; refine ⟨fun w' hw' hcl' => ?_, ?_⟩; focus (subst hw'; obtain ⟨p0, p1, p2, p3, p4, p5, p6, p7, p8, p9⟩ := HCY.out; replace p0 := st.oldCell (i := 0) get0 p0; replace p1 := st.oldCell (i := 0) get0 p1; replace p2 := st.oldCell (i := 0) get0 p2; replace p3 := st.oldCell (i := 0) get0 p3; replace p4 := st.oldCell (i := 0) get0 p4; replace p5 := st.oldCell (i := 0) get0 p5; replace p6 := st.oldCell (i := 0) get0 p6; replace p7 := st.oldCell (i := 0) get0 p7; replace p8 := st.oldCell (i := 0) get0 p8; (focus (first | (go_simp; done) | (go_simp; first | rfl | (rw [if_neg] <;> first | rfl | omega) | (rw [if_pos] <;> first | rfl | omega))))); (try simp only [Rg4.nrm])) | (refine Rg4.w4_skip (Rg4.uw rfl rfl rfl) ?_; (try simp only [Rg4.nrm])) | (refine Rg4.w4_skip (Rg4.un rfl rfl rfl) ?_; (try simp only [Rg4.nrm])))
              iterate 2 (first | (refine Rg4.w4_any (Rg4.wt rfl rfl rfl) rfl ?_; apply Exists.intro; refine ⟨fun w' => ?_, ?_⟩; (focus (first | (go_simp; done) | (go_simp; first | rfl | (rw [if_neg] <;> first | rfl | omega) | (rw [if_pos] <;> first | rfl | omega)))); (try simp only [Rg4.nrm])) | (refine Rg4.w4_skip (Rg4.uw rfl rfl rfl) ?_; (try simp only [Rg4.nrm])) | (refine Rg4.w4_skip (Rg4.un rfl rfl rfl) ?_; (try simp only [Rg4.nrm])))
              iterate 2 (refine Rg4.w4_any (Rg4.want_none rfl) rfl ?_; apply Exists.intro; refine ⟨fun w' => ?_, ?_⟩; (focus (first | (go_simp; done) | (go_simp; first | rfl | (rw [if_neg] <;> first | rfl | omega) | (rw [if_pos] <;> first | rfl | omega)))); (try simp only [Rg4.nrm]))
              iterate 8 (first | (refine Rg4.w4_any (Rg4.wt rfl rfl rfl) rfl ?_; apply Exists.intro; refine ⟨fun w' => ?_, ?_⟩; (focus (first | (go_simp; done) | (go_simp; first | rfl | (rw [if_neg] <;> first | rfl | omega) | (rw [if_pos] <;> first | rfl | omega)))); (try simp only [Rg4.nrm])) | (refine Rg4.w4_skip (Rg4.uw rfl rfl rfl) ?_; (try simp only [Rg4.nrm])) | (refine Rg4.w4_skip (Rg4.un rfl rfl rfl) ?_; (try simp only [Rg4.nrm])))
              (first | (refine Rg4.w4_read (Rg4.wt rfl rfl rfl) rfl rfl ?_; apply Exists.intro; refine ⟨fun w' hw' hcl' => ?_, ?_⟩; focus (subst hw'; obtain ⟨p0, p1, p2, p3, p4, p5, p6, p7, p8, p9⟩ := HCY.out; replace p0 := st.oldCell (i := 0) get0 p0; replace p1 := st.oldCell (i := 0) get0 p1; replace p2 := st.oldCell (i := 0) get0 p2; replace p3 := st.oldCell (i := 0) get0 p3; replace p4 := st.oldCell (i := 0) get0 p4; replace p5 := st.oldCell (i := 0) get0 p5; replace p6 := st.oldCell (i := 0) get0 p6; replace p7 := st.oldCell (i := 0) get0 p7; replace p8 := st.oldCell (i := 0) get0 p8; (focus (first | (go_simp; done) | (go_simp; first | rfl | (rw [if_neg] <;> first | rfl | omega) | (rw [if_pos] <;> first | rfl | omega))))); (try simp only [Rg4.nrm])) | (refine Rg4.w4_skip (Rg4.uw rfl rfl rfl) ?_; (try simp only [Rg4.nrm])) | (refine Rg4.w4_skip (Rg4.un rfl rfl rfl) ?_; (try simp only [Rg4.nrm])))
              (first | (refine Rg4.w4_any (Rg4.wt rfl rfl rfl) rfl ?_; apply Exists.intro; refine ⟨fun w' => ?_, ?_⟩; (focus (first | (go_simp; done) | (go_simp; first | rfl | (rw [if_neg] <;> first | rfl | omega) | (rw [if_pos] <;> first | rfl | omega)))); (try simp only [Rg4.nrm])) | (refine Rg4.w4_skip (Rg4.uw rfl rfl rfl) ?_; (try simp only [Rg4.nrm])) | (refine Rg4.w4_skip (Rg4.un rfl rfl rfl) ?_; (try simp only [Rg4.nrm])))
              (first | (refine Rg4.w4_read (Rg4.wt rfl rfl rfl) rfl rfl ?_; apply Exists.intro; refine ⟨fun w' hw' hcl' => ?_, ?_⟩; focus (subst hw'; obtain ⟨p0, p1, p2, p3, p4, p5, p6, p7, p8, p9⟩ := HCY.out; replace p0 := st.oldCell (i := 0) get0 p0; replace p1 := st.oldCell (i := 0) get0 p1; replace p2 := st.oldCell (i := 0) get0 p2; replace p3 := st.oldCell (i := 0) get0 p3; replace p4 := st.oldCell (i := 0) get0 p4; replace p5 := st.oldCell (i := 0) get0 p5; replace p6 := st.oldCell (i := 0) get0 p6; replace p7 := st.oldCell (i := 0) get0 p7; replace p8 := st.oldCell (i := 0) get0 p8; (focus (first | (go_simp; done) | (go_simp; first | rfl | (rw [if_neg] <;> first | rfl | omega) | (rw [if_pos] <;> first | rfl | omega))))); (try simp only [Rg4.nrm])) | (refine Rg4.w4_skip (Rg4.uw rfl rfl rfl) ?_; (try simp only [Rg4.nrm])) | (refine Rg4.w4_skip (Rg4.un rfl rfl rfl) ?_; (try simp only [Rg4.nrm])))
              refine Rg4.w4_bar (Rg4.want_of 13 25 true rfl rfl rfl) rfl (fun w' hw' hcl _ K hK => ?_)
              subst hw'
              go_wp2_with fail
              refine (HCC.out _).mono ?_
              rintro en w ⟨rfl, hx⟩
              replace st := st.ext hx
              clear hx
              (try clear hc); have hc := st.facts; (try simp only [nfl, nft, Nat.reduceAdd] at hc)
              refine hK _ _ ⟨trivial, ?_⟩
              clear hK
              (try simp only [Rg4.nrm])
              iterate 2 (first | (refine Rg4.w4_any (Rg4.wt rfl rfl rfl) rfl ?_; apply Exists.intro; refine ⟨fun w' => ?_, ?_⟩; (focus (first | (go_simp; done) | (go_simp; first | rfl | (rw [if_neg] <;> first | rfl | omega) | (rw [if_pos] <;> first | rfl | omega)))); (try simp only [Rg4.nrm])) | (refine Rg4.w4_skip (Rg4.uw rfl rfl rfl) ?_; (try simp only [Rg4.nrm])) | (refine Rg4.w4_skip (Rg4.un rfl rfl rfl) ?_; (try simp only [Rg4.nrm])))
              (refine Rg4.w4_any (Rg4.want_none rfl) rfl ?_; apply Exists.intro; refine ⟨fun w' => ?_, ?_⟩; (focus (first | (go_simp; done) | (go_simp; first | rfl | (rw [if_neg] <;> first | rfl | omega) | (rw [if_pos] <;> first | rfl | omega)))); (try simp only [Rg4.nrm]))
              refine Rg4.w4_nil (fun w' hw' hcl' _ => ?_); subst hw'; clear hcl'
              have HF : Hid (∀ i, i < (j + 1) + 1 → shAt l i = true) := Lib.hid (fun i hi => by
                rcases Nat.lt_succ_iff_lt_or_eq.1 hi with z | z
                · exact HT.out i z
                · rw [z, HSA.out]; (try simp only [HCL.out]); (try simp))
              go_wp2_with fail
              have st' := st.keep [0] (by decide) (by simp)
              go_roundg (n - ((j + 1) + 1))
              case measure => omega
              case rel => exact ⟨(j + 1) + 1, by omega, by omega, by go_num, HF, by simpa [pick] using st'⟩
            · have HCL := Lib.hid hlt
              have hge : decide (cc ≥ 0) = true := by simp; omega
              clear hlt
              have HF : Hid (r = false) := Lib.hid (HBD.out (by rw [HSA.out]; simp only [HCL.out]; (try simp)))
              refine Rg4.wp_region4_eq #[0, 1, 3, 7, 15, 31, 63, 127, 255, 511, 1023, 2047, 4095, 8191, 16383, 16383, 49151, 131071, 262143, 524287, 16383, 1064959, 4194303, 8388607, 16777215, 33554431] [2, 22] [1, 6, 19, 21] (fun _ => True) [0, 1, 2, 3, 4, 5, 6, 7, 8, 9, 10, 11, 12, 13, 14, 15, 16, 17, 18, 19, 20, 21, 22, 23, 24, 25] (by kernel_rfl) (by kernel_rfl) (by kernel_rfl) (by kernel_rfl) (show Rg4.PB _ by repeat (first | with_reducible exact Rg4.pb_body | with_reducible exact Rg4.pb_bodyD rfl | with_reducible refine Rg4.pb_then ?_ | with_reducible refine Rg4.pb_inBlock ?_ | with_reducible refine Rg4.pb_noGoto ?_)) (trivial) ?_
              replace st := st.drew
              change Rg4.wp4 _ _ _ _ _ _ _ _ _ (World.drew _) _ _
              generalize World.drew _ = w at st ⊢
              (try clear hc); have hc := st.facts; (try simp only [nfl, nft, Nat.reduceAdd] at hc)
              (refine Rg4.w4_any (Rg4.want_none rfl) rfl ?_; apply Exists.intro; refine ⟨fun w' => ?_, ?_⟩; (focus (first | (go_simp; done) | (go_simp; first | rfl | (rw [if_neg] <;> first | rfl | omega) | (rw [if_pos] <;> first | rfl | omega)))); (try simp only [Rg4.nrm]))
              (refine Rg4.w4_read (Rg4.want_none rfl) rfl rfl ?_; apply Exists.intro; refine ⟨fun w' hw' hcl' => ?_, ?_⟩; focus (subst hw'; obtain ⟨p0, p1, p2, p3, p4, p5, p6, p7, p8, p9⟩ := HCY.out; replace p0 := st.oldCell (i := 0) get0 p0; replace p1 := st.oldCell (i := 0) get0 p1; replace p2 := st.oldCell (i := 0) get0 p2; replace p3 := st.oldCell (i := 0) get0 p3; replace p4 := st.oldCell (i := 0) get0 p4; replace p5 := st.oldCell (i := 0) get0 p5; replace p6 := st.oldCell (i := 0) get0 p6; replace p7 := st.oldCell (i := 0) get0 p7; replace p8 := st.oldCell (i := 0) get0 p8; (focus (first | (go_simp; done) | (go_simp; first | rfl | (rw [if_neg] <;> first | rfl | omega) | (rw [if_pos] <;> first | rfl | omega))))); (try simp only [Rg4.nrm]))
              refine Rg4.w4_bar (Rg4.want_none rfl) rfl (fun w' hw' hcl _ K hK => ?_)
              subst hw'
              go_wp2_with fail
              refine (HCR.out _).mono ?_
              rintro en w ⟨rfl, hx⟩
              replace st := st.ext hx
              clear hx
              (try clear hc); have hc := st.facts; (try simp only [nfl, nft, Nat.reduceAdd] at hc)
              refine hK _ _ ⟨trivial, ?_⟩
              clear hK
              (try simp only [Rg4.nrm])
              iterate 2 (refine Rg4.w4_any (Rg4.want_none rfl) rfl ?_; apply Exists.intro; refine ⟨fun w' => ?_, ?_⟩; (focus (first | (go_simp; done) | (go_simp; first | rfl | (rw [if_neg] <;> first | rfl | omega) | (rw [if_pos] <;> first | rfl | omega)))); (try simp only [Rg4.nrm]))
              (first | (refine Rg4.w4_any (Rg4.wt rfl rfl rfl) rfl ?_; apply Exists.intro; refine ⟨fun w' => ?_, ?_⟩; (focus (first | (go_simp; done) | (go_simp; first | rfl | (rw [if_neg] <;> first | rfl | omega) | (rw [if_pos] <;> first | rfl | omega)))); (try simp only [Rg4.nrm])) | (refine Rg4.w4_skip (Rg4.uw rfl rfl rfl) ?_; (try simp only [Rg4.nrm])) | (refine Rg4.w4_skip (Rg4.un rfl rfl rfl) ?_; (try simp only [Rg4.nrm])))
              (first | (refine Rg4.w4_read (Rg4.wt rfl rfl rfl) rfl rfl ?_; apply Exists.intro; refine ⟨fun w' hw' hcl' => ?_, ?_⟩; focus (subst hw'; obtain ⟨p0, p1, p2, p3, p4, p5, p6, p7, p8, p9⟩ := HCY.out; replace p0 := st.oldCell (i := 0) get0 p0; replace p1 := st.oldCell (i := 0) get0 p1; replace p2 := st.oldCell (i := 0) get0 p2; replace p3 := st.oldCell (i := 0) get0 p3; replace p4 := st.oldCell (i := 0) get0 p4; replace p5 := st.oldCell (i := 0) get0 p5; replace p6 := st.oldCell (i := 0) get0 p6; replace p7 := st.oldCell (i := 0) get0 p7; replace p8 := st.oldCell (i := 0) get0 p8; (focus (first | (go_simp; done) | (go_simp; first | rfl | (rw [if_neg] <;> first | rfl | omega) | (rw [if_pos] <;> first | rfl | omega))))); (try simp only [Rg4.nrm])) | (refine Rg4.w4_skip (Rg4.uw rfl rfl rfl) ?_; (try simp only [Rg4.nrm])) | (refine Rg4.w4_skip (Rg4.un rfl rfl rfl) ?_; (try simp only [Rg4.nrm])))
              iterate 2 (first | (refine Rg4.w4_any (Rg4.wt rfl rfl rfl) rfl ?_; apply Exists.intro; refine ⟨fun w' => ?_, ?_⟩; (focus (first | (go_simp; done) | (go_simp; first | rfl | (rw [if_neg] <;> first | rfl | omega) | (rw [if_pos] <;> first | rfl | omega)))); (try simp only [Rg4.nrm])) | (refine Rg4.w4_skip (Rg4.uw rfl rfl rfl) ?_; (try simp only [Rg4.nrm])) | (refine Rg4.w4_skip (Rg4.un rfl rfl rfl) ?_; (try simp only [Rg4.nrm])))
              iterate 2 (refine Rg4.w4_any (Rg4.want_none rfl) rfl ?_; apply Exists.intro; refine ⟨fun w' => ?_, ?_⟩; (focus (first | (go_simp; done) | (go_simp; first | rfl | (rw [if_neg] <;> first | rfl | omega) | (rw [if_pos] <;> first | rfl | omega)))); (try simp only [Rg4.nrm]))
              iterate 8 (first | (refine Rg4.w4_any (Rg4.wt rfl rfl rfl) rfl ?_; apply Exists.intro; refine ⟨fun w' => ?_, ?_⟩; (focus (first | (go_simp; done) | (go_simp; first | rfl | (rw [if_neg] <;> first | rfl | omega) | (rw [if_pos] <;> first | rfl | omega)))); (try simp only [Rg4.nrm])) | (refine Rg4.w4_skip (Rg4.uw rfl rfl rfl) ?_; (try simp only [Rg4.nrm])) | (refine Rg4.w4_skip (Rg4.un rfl rfl rfl) ?_; (try simp only [Rg4.nrm])))
              (first | (refine Rg4.w4_read (Rg4.wt rfl rfl rfl) rfl rfl ?_; apply Exists.intro; refine ⟨fun w' hw' hcl' => ?_, ?_⟩; focus (subst hw'; obtain ⟨p0, p1, p2, p3, p4, p5, p6, p7, p8, p9⟩ := HCY.out; replace p0 := st.oldCell (i := 0) get0 p0; replace p1 := st.oldCell (i := 0) get0 p1; replace p2 := st.oldCell (i := 0) get0 p2; replace p3 := st.oldCell (i := 0) get0 p3; replace p4 := st.oldCell (i := 0) get0 p4; replace p5 := st.oldCell (i := 0) get0 p5; replace p6 := st.oldCell (i := 0) get0 p6; replace p7 := st.oldCell (i := 0) get0 p7; replace p8 := st.oldCell (i := 0) get0 p8; (focus (first | (go_simp; done) | (go_simp; first | rfl | (rw [if_neg] <;> first | rfl | omega) | (rw [if_pos] <;> first | rfl | omega))))); (try simp only [Rg4.nrm])) | (refine Rg4.w4_skip (Rg4.uw rfl rfl rfl) ?_; (try simp only [Rg4.nrm])) | (refine Rg4.w4_skip (Rg4.un rfl rfl rfl) ?_; (try simp only [Rg4.nrm])))
              (first | (refine Rg4.w4_any (Rg4.wt rfl rfl rfl) rfl ?_; apply Exists.intro; refine ⟨fun w' => ?_, ?_⟩; (focus (first | (go_simp; done) | (go_simp; first | rfl | (rw [if_neg] <;> first | rfl | omega) | (rw [if_pos] <;> first | rfl | omega)))); (try simp only [Rg4.nrm])) | (refine Rg4.w4_skip (Rg4.uw rfl rfl rfl) ?_; (try simp only [Rg4.nrm])) | (refine Rg4.w4_skip (Rg4.un rfl rfl rfl) ?_; (try simp only [Rg4.nrm])))
              (first | (refine Rg4.w4_read (Rg4.wt rfl rfl rfl) rfl rfl ?_; apply Exists.intro; refine ⟨fun w' hw' hcl' => ?_, ?_⟩; focus (subst hw'; obtain ⟨p0, p1, p2, p3, p4, p5, p6, p7, p8, p9⟩ := HCY.out; replace p0 := st.oldCell (i := 0) get0 p0; replace p1 := st.oldCell (i := 0) get0 p1; replace p2 := st.oldCell (i := 0) get0 p2; replace p3 := st.oldCell (i := 0) get0 p3; replace p4 := st.oldCell (i := 0) get0 p4; replace p5 := st.oldCell (i := 0) get0 p5; replace p6 := st.oldCell (i := 0) get0 p6; replace p7 := st.oldCell (i := 0) get0 p7; replace p8 := st.oldCell (i := 0) get0 p8; (focus (first | (go_simp; done) | (go_simp; first | rfl | (rw [if_neg] <;> first | rfl | omega) | (rw [if_pos] <;> first | rfl | omega))))); (try simp only [Rg4.nrm])) | (refine Rg4.w4_skip (Rg4.uw rfl rfl rfl) ?_; (try simp only [Rg4.nrm])) | (refine Rg4.w4_skip (Rg4.un rfl rfl rfl) ?_; (try simp only [Rg4.nrm])))
              refine Rg4.w4_bar (Rg4.want_of 13 25 true rfl rfl rfl) rfl (fun w' hw' hcl _ K hK => ?_)
              subst hw'
              go_wp2_with fail
              refine (HCC.out _).mono ?_
              rintro en w ⟨rfl, hx⟩
              replace st := st.ext hx
              clear hx
              (try clear hc); have hc := st.facts; (try simp only [nfl, nft, Nat.reduceAdd] at hc)
              refine hK _ _ ⟨trivial, ?_⟩
              clear hK
              (try simp only [Rg4.nrm])
              iterate 2 (first | (refine Rg4.w4_any (Rg4.wt rfl rfl rfl) rfl ?_; apply Exists.intro; refine ⟨fun w' => ?_, ?_⟩; (focus (first | (go_simp; done) | (go_simp; first | rfl | (rw [if_neg] <;> first | rfl | omega) | (rw [if_pos] <;> first | rfl | omega)))); (try simp only [Rg4.nrm])) | (refine Rg4.w4_skip (Rg4.uw rfl rfl rfl) ?_; (try simp only [Rg4.nrm])) | (refine Rg4.w4_skip (Rg4.un rfl rfl rfl) ?_; (try simp only [Rg4.nrm])))
              (refine Rg4.w4_any (Rg4.want_none rfl) rfl ?_; apply Exists.intro; refine ⟨fun w' => ?_, ?_⟩; (focus (first | (go_simp; done) | (go_simp; first | rfl | (rw [if_neg] <;> first | rfl | omega) | (rw [if_pos] <;> first | rfl | omega)))); (try simp only [Rg4.nrm]))
              refine Rg4.w4_nil (fun w' hw' hcl' _ => ?_); subst hw'; clear hcl'
              go_wp2_with fail
              go_ret
              exact ⟨by rw [HF.out]; rfl, st.ext0⟩
          · have h8b : ((n1 : Int) != 8) = true := by simpa using (by omega : (n1 : Int) ≠ 8)
            have h8c : (n1 == 8) = false := by simpa using h8
            have H8 := Lib.hid h8c
            clear h8 h8c
            have HF : Hid (r = false) := Lib.hid (HBD.out (by rw [HSA.out]; simp only [H8.out]; (try simp)))
            refine Rg4.wp_region4_eq #[0, 1, 3, 7, 15, 31, 63, 127, 255, 511, 1023, 2047, 4095, 8191, 16383, 16383, 49151, 131071, 262143, 524287, 16383, 1064959, 4194303, 8388607, 16777215, 33554431] [2, 22] [1, 6, 19, 21] (fun _ => True) [0, 1, 2, 3, 4, 5, 6, 7, 8, 9, 10, 11, 12, 13, 14, 15, 16, 17, 18, 19, 20, 21, 22, 23, 24, 25] (by kernel_rfl) (by kernel_rfl) (by kernel_rfl) (by kernel_rfl) (show Rg4.PB _ by repeat (first | with_reducible exact Rg4.pb_body | with_reducible exact Rg4.pb_bodyD rfl | with_reducible refine Rg4.pb_then ?_ | with_reducible refine Rg4.pb_inBlock ?_ | with_reducible refine Rg4.pb_noGoto ?_)) (trivial) ?_
            replace st := st.drew
            change Rg4.wp4 _ _ _ _ _ _ _ _ _ (World.drew _) _ _
            generalize World.drew _ = w at st ⊢
            (try clear hc); have hc := st.facts; (try simp only [nfl, nft, Nat.reduceAdd] at hc)
            (refine Rg4.w4_any (Rg4.want_none rfl) rfl ?_; apply Exists.intro; refine ⟨fun w' => ?_, ?_⟩; (focus (first | (go_simp; done) | (go_simp; first | rfl | (rw [if_neg] <;> first | rfl | omega) | (rw [if_pos] <;> first | rfl | omega)))); (try simp only [Rg4.nrm]))
            (refine Rg4.w4_read (Rg4.want_none rfl) rfl rfl ?_; apply Exists.intro; refine ⟨fun w' hw' hcl' => ?_, ?_⟩; focus (subst hw'; (focus (first | (go_simp; done) | (go_simp; first | rfl | (rw [if_neg] <;> first | rfl | omega) | (rw [if_pos] <;> first | rfl | omega))))); (try simp only [Rg4.nrm]))
            refine Rg4.w4_bar (Rg4.want_none rfl) rfl (fun w' hw' hcl _ K hK => ?_)
            subst hw'
            go_wp2_with fail
            refine (HCR.out _).mono ?_
            rintro en w ⟨rfl, hx⟩
            replace st := st.ext hx
            clear hx
            (try clear hc); have hc := st.facts; (try simp only [nfl, nft, Nat.reduceAdd] at hc)
            refine hK _ _ ⟨trivial, ?_⟩
            clear hK
            (try simp only [Rg4.nrm])
            iterate 2 (refine Rg4.w4_any (Rg4.want_none rfl) rfl ?_; apply Exists.intro; refine ⟨fun w' => ?_, ?_⟩; (focus (first | (go_simp; done) | (go_simp; first | rfl | (rw [if_neg] <;> first | rfl | omega) | (rw [if_pos] <;> first | rfl | omega)))); (try simp only [Rg4.nrm]))
            (first | (refine Rg4.w4_any (Rg4.wt rfl rfl rfl) rfl ?_; apply Exists.intro; refine ⟨fun w' => ?_, ?_⟩; (focus (first | (go_simp; done) | (go_simp; first | rfl | (rw [if_neg] <;> first | rfl | omega) | (rw [if_pos] <;> first | rfl | omega)))); (try simp only [Rg4.nrm])) | (refine Rg4.w4_skip (Rg4.uw rfl rfl rfl) ?_; (try simp only [Rg4.nrm])) | (refine Rg4.w4_skip (Rg4.un rfl rfl rfl) ?_; (try simp only [Rg4.nrm])))
            (first | (refine Rg4.w4_read (Rg4.wt rfl rfl rfl) rfl rfl ?_; apply Exists.intro; refine ⟨fun w' hw' hcl' => ?_, ?_⟩; focus (subst hw'; (focus (first | (go_simp; done) | (go_simp; first | rfl | (rw [if_neg] <;> first | rfl | omega) | (rw [if_pos] <;> first | rfl | omega))))); (try simp only [Rg4.nrm])) | (refine Rg4.w4_skip (Rg4.uw rfl rfl rfl) ?_; (try simp only [Rg4.nrm])) | (refine Rg4.w4_skip (Rg4.un rfl rfl rfl) ?_; (try simp only [Rg4.nrm])))
            iterate 2 (first | (refine Rg4.w4_any (Rg4.wt rfl rfl rfl) rfl ?_; apply Exists.intro; refine ⟨fun w' => ?_, ?_⟩; (focus (first | (go_simp; done) | (go_simp; first | rfl | (rw [if_neg] <;> first | rfl | omega) | (rw [if_pos] <;> first | rfl | omega)))); (try simp only [Rg4.nrm])) | (refine Rg4.w4_skip (Rg4.uw rfl rfl rfl) ?_; (try simp only [Rg4.nrm])) | (refine Rg4.w4_skip (Rg4.un rfl rfl rfl) ?_; (try simp only [Rg4.nrm])))
            iterate 2 (refine Rg4.w4_any (Rg4.want_none rfl) rfl ?_; apply Exists.intro; refine ⟨fun w' => ?_, ?_⟩; (focus (first | (go_simp; done) | (go_simp; first | rfl | (rw [if_neg] <;> first | rfl | omega) | (rw [if_pos] <;> first | rfl | omega)))); (try simp only [Rg4.nrm]))
            iterate 8 (first | (refine Rg4.w4_any (Rg4.wt rfl rfl rfl) rfl ?_; apply Exists.intro; refine ⟨fun w' => ?_, ?_⟩; (focus (first | (go_simp; done) | (go_simp; first | rfl | (rw [if_neg] <;> first | rfl | omega) | (rw [if_pos] <;> first | rfl | omega)))); (try simp only [Rg4.nrm])) | (refine Rg4.w4_skip (Rg4.uw rfl rfl rfl) ?_; (try simp only [Rg4.nrm])) | (refine Rg4.w4_skip (Rg4.un rfl rfl rfl) ?_; (try simp only [Rg4.nrm])))
            (first | (refine Rg4.w4_read (Rg4.wt rfl rfl rfl) rfl rfl ?_; apply Exists.intro; refine ⟨fun w' hw' hcl' => ?_, ?_⟩; focus (subst hw'; (focus (first | (go_simp; done) | (go_simp; first | rfl | (rw [if_neg] <;> first | rfl | omega) | (rw [if_pos] <;> first | rfl | omega))))); (try simp only [Rg4.nrm])) | (refine Rg4.w4_skip (Rg4.uw rfl rfl rfl) ?_; (try simp only [Rg4.nrm])) | (refine Rg4.w4_skip (Rg4.un rfl rfl rfl) ?_; (try simp only [Rg4.nrm])))
            (first | (refine Rg4.w4_any (Rg4.wt rfl rfl rfl) rfl ?_; apply Exists.intro; refine ⟨fun w' => ?_, ?_⟩; (focus (first | (go_simp; done) | (go_simp; first | rfl | (rw [if_neg] <;> first | rfl | omega) | (rw [if_pos] <;> first | rfl | omega)))); (try simp only [Rg4.nrm])) | (refine Rg4.w4_skip (Rg4.uw rfl rfl rfl) ?_; (try simp only [Rg4.nrm])) | (refine Rg4.w4_skip (Rg4.un rfl rfl rfl) ?_; (try simp only [Rg4.nrm])))
            (first | (refine Rg4.w4_read (Rg4.wt rfl rfl rfl) rfl rfl ?_; apply Exists.intro; refine ⟨fun w' hw' hcl' => ?_, ?_⟩; focus (subst hw'; (focus (first | (go_simp; done) | (go_simp; first | rfl | (rw [if_neg] <;> first | rfl | omega) | (rw [if_pos] <;> first | rfl | omega))))); (try simp only [Rg4.nrm])) | (refine Rg4.w4_skip (Rg4.uw rfl rfl rfl) ?_; (try simp only [Rg4.nrm])) | (refine Rg4.w4_skip (Rg4.un rfl rfl rfl) ?_; (try simp only [Rg4.nrm])))
            first | refine Rg4.w4_skip (Rg4.uw rfl rfl rfl) ?_ | refine Rg4.w4_skip (Rg4.un rfl rfl rfl) ?_
            (try simp only [Rg4.nrm])
            iterate 2 (first | (refine Rg4.w4_any (Rg4.wt rfl rfl rfl) rfl ?_; apply Exists.intro; refine ⟨fun w' => ?_, ?_⟩; (focus (first | (go_simp; done) | (go_simp; first | rfl | (rw [if_neg] <;> first | rfl | omega) | (rw [if_pos] <;> first | rfl | omega)))); (try simp only [Rg4.nrm])) | (refine Rg4.w4_skip (Rg4.uw rfl rfl rfl) ?_; (try simp only [Rg4.nrm])) | (refine Rg4.w4_skip (Rg4.un rfl rfl rfl) ?_; (try simp only [Rg4.nrm])))
            (refine Rg4.w4_any (Rg4.want_none rfl) rfl ?_; apply Exists.intro; refine ⟨fun w' => ?_, ?_⟩; (focus (first | (go_simp; done) | (go_simp; first | rfl | (rw [if_neg] <;> first | rfl | omega) | (rw [if_pos] <;> first | rfl | omega)))); (try simp only [Rg4.nrm]))
            refine Rg4.w4_nil (fun w' hw' hcl' _ => ?_); subst hw'; clear hcl'
            go_wp2_with fail
            go_ret
            exact ⟨by rw [HF.out]; rfl, st.ext0⟩
    · obtain rfl : j = n := by omega
      have HF : Hid (r = decide (l.length ≤ 8)) := Lib.hid (by rw [← HR.out]; exact showsR_all fun i hi => HT.out i (by have := HNL.out; omega))
      by_cases h8 : j ≤ 8
      · have HG : Hid (r = true) := Lib.hid (by rw [HF.out]; exact decide_eq_true (by have := HNL.out; omega))
        go_wp2_with fail
        go_ret
        exact ⟨by rw [HG.out]; show Ending.returned (Value.bool (decide ((j : Int) ≤ 8))) = _; rw [decide_eq_true (by omega)], st.ext0⟩
      · have HG : Hid (r = false) := Lib.hid (by rw [HF.out]; exact decide_eq_false (by have := HNL.out; omega))
        go_wp2_with fail
        go_ret
        exact ⟨by rw [HG.out]; show Ending.returned (Value.bool (decide ((j : Int) ≤ 8))) = _; rw [decide_eq_false (by omega)], st.ext0⟩
end Go.Proofs.YtekngjkjgmplpaaGreat

namespace Go.Proofs.YtekngjkjgmplpaaGreat
set_option linter.unusedSimpArgs false
set_option linter.unusedVariables false
open Go Go.RowKit
def kindR (x : MsgT) : Bool :=
  if x.k = 1 then nameR x.nm && (decide (x.p = 1) || decide (x.p = 2))
  else if x.k = 2 then wantsR x.ws && showsR x.ss
  else if x.k = 5 then decide (1 ≤ x.e) && decide (x.e ≤ 99)
  else decide (x.k = 3) || decide (x.k = 4)
/-- Which messages are right. -/
def mgR (x : MsgT) : Bool := sameMg (bareMg x) x && kindR x
set_option maxRecDepth 100000 in
set_option maxHeartbeats 8000000 in
theorem msgRight_any (x : MsgT) (W : World) (hx : MgOk W x) (lx : MgL x) : Calls Tryz.prog 39 #[mgV x] W fun e w' => e = .returned (.bool (mgR x)) ∧ Ext W w' := by
  have HX := Lib.hid hx
  have HB := Lib.hid (fun W' => bare_any x W')
  have HS := Lib.hid (fun W' (hw : Ext W W') => msgSame_any (bareMg x) x W' (bareMg_ok (hx.ext hw)) (hx.ext hw) (bareMg_L lx) lx)
  have HN := Lib.hid (fun W' => right_any x.nm W' lx.2.2.1)
  have HW := Lib.hid (fun W' h => wants_any x.wa x.wn x.wc x.ws W' h lx.1 lx.2.2.2.1)
  have HH := Lib.hid (fun W' h => shows_any x.sa x.sn x.sc x.ss W' h lx.2.1 lx.2.2.2.2)
  obtain ⟨r, hr⟩ : ∃ r, mgR x = r := ⟨_, rfl⟩
  obtain ⟨bv, hbv⟩ : ∃ b, mgV (bareMg x) = b := ⟨_, rfl⟩
  obtain ⟨sm, hsm⟩ : ∃ b, sameMg (bareMg x) x = b := ⟨_, rfl⟩
  obtain ⟨nr, hnr⟩ : ∃ b, nameR x.nm = b := ⟨_, rfl⟩
  obtain ⟨wr, hwr⟩ : ∃ b, wantsR x.ws = b := ⟨_, rfl⟩
  obtain ⟨sr, hsr⟩ : ∃ b, showsR x.ss = b := ⟨_, rfl⟩
  have HR : Hid (r = (sm && (if x.k = 1 then nr && (decide (x.p = 1) || decide (x.p = 2)) else if x.k = 2 then wr && sr else if x.k = 5 then decide (1 ≤ x.e) && decide (x.e ≤ 99) else decide (x.k = 3) || decide (x.k = 4)))) := Lib.hid (by rw [← hr, ← hsm, ← hnr, ← hwr, ← hsr]; rfl)
  rw [hbv] at HB HS
  rw [hsm] at HS
  rw [hnr] at HN
  rw [hwr] at HW
  rw [hsr] at HH
  rw [hr]
  clear hr hbv hsm hnr hwr hsr lx hx
  obtain ⟨k, p, e, nm, wa, wn, wc, ws, sa, sn, sc, ss⟩ := x
  simp only at HR HN HW HH HX
  have st := Own.startOld W
  unfold mgV S at HS
  unfold S at HN
  unfold mgV S
  (try simp only [nsl, Value.cells, unB] at st)
  (try clear hc); have hc := st.facts; (try simp only [nfl, nft, Nat.reduceAdd] at hc)
  cases sm with
  | false =>
    have H1 : Hid (r = false) := Lib.hid (by rw [HR.out]; rfl)
    go_enter Tryz.func39, Tryz.ntmps39
    go_wp2_with ((((with_reducible refine wl_box ?_ (fun K hK => ?_)); rfl; refine owp_box (o := ⟨some 1, _, _, _, _, _⟩) rfl st ?_; apply Exists.intro; refine ⟨?_, ?_⟩; (focus (go_simp; try rfl)); (clear st; intro b1 w hb st; clear hb))); (try simp only [nsl, Value.cells, unB] at st); (try clear hc); have hc := st.facts; (try simp only [nfl, nft, Nat.reduceAdd] at hc))
    refine Rg4.wp_region4 (Rel := Ext) #[0, 1, 0, 7, 15]
      [(1, .val (bv))] [3] [0, 2] (fun _ => True) [0, 1, 2, 3, 4] (by kernel_rfl) (by kernel_rfl) (by kernel_rfl) (by kernel_rfl) Ext.refl (fun _ _ _ => Ext.trans) (show Rg4.PB _ by repeat (first | with_reducible exact Rg4.pb_body | with_reducible exact Rg4.pb_bodyD rfl | with_reducible refine Rg4.pb_then ?_ | with_reducible refine Rg4.pb_inBlock ?_ | with_reducible refine Rg4.pb_noGoto ?_)) (trivial) ?_
    replace st := st.drew
    change Rg4.wp4 _ _ _ _ _ _ _ _ _ (World.drew _) _ _
    generalize World.drew _ = w at st ⊢
    (try clear hc); have hc := st.facts; (try simp only [nfl, nft, Nat.reduceAdd] at hc)
    (refine Rg4.w4_read (Rg4.want_none rfl) rfl rfl ?_; apply Exists.intro; refine ⟨fun w' hw' hcl' => ?_, ?_⟩; focus (have st' := st.ext hw'; have hc' := st'.facts; (try simp only [nfl, nft, Nat.reduceAdd] at hc'); (focus (first | (go_simp; done) | (go_simp; first | rfl | (rw [if_neg] <;> first | rfl | omega) | (rw [if_pos] <;> first | rfl | omega))))); (try simp only [Rg4.nrm]))
    refine Rg4.w4_some (Rg4.want_none rfl) rfl (fun w' hw' hcl' _ => ?_) ?_
    · refine Rg.relAt_call (by go_simp; exact ⟨rfl, rfl⟩) ?_
      refine (HB.out _).mono ?_
      rintro en w'' ⟨rfl, hx⟩
      exact ⟨_, rfl, hx, trivial, rfl⟩
    rintro v ⟨_, _, _, rfl⟩
    (try simp only [Rg4.nrm])
    (refine Rg4.w4_read (Rg4.want_none rfl) rfl rfl ?_; apply Exists.intro; refine ⟨fun w' hw' hcl' => ?_, ?_⟩; focus (have st' := st.ext hw'; have hc' := st'.facts; (try simp only [nfl, nft, Nat.reduceAdd] at hc'); (focus (first | (go_simp; done) | (go_simp; first | rfl | (rw [if_neg] <;> first | rfl | omega) | (rw [if_pos] <;> first | rfl | omega))))); (try simp only [Rg4.nrm]))
    refine Rg4.w4_bar (Rg4.want_none rfl) rfl (fun w' hw' hcl _ K hK => ?_)
    replace st := st.ext hw'
    clear hw'
    (try clear hc); have hc := st.facts; (try simp only [nfl, nft, Nat.reduceAdd] at hc)
    go_wp2_with fail
    refine (HS.out _ st.ext0).mono ?_
    rintro en w ⟨rfl, hx⟩
    replace st := st.ext hx
    clear hx
    (try clear hc); have hc := st.facts; (try simp only [nfl, nft, Nat.reduceAdd] at hc)
    refine hK _ _ ⟨trivial, ?_⟩
    clear hK
    (try simp only [Rg4.nrm])
    (refine Rg4.w4_any (Rg4.want_none rfl) rfl ?_; apply Exists.intro; refine ⟨fun w' => ?_, ?_⟩; (focus (first | (go_simp; done) | (go_simp; first | rfl | (rw [if_neg] <;> first | rfl | omega) | (rw [if_pos] <;> first | rfl | omega)))); (try simp only [Rg4.nrm]))
    refine Rg4.w4_nil (fun w' hw' hcl' _ => ?_); replace st := st.ext hw'; clear hw' hcl'; (try clear hc); have hc := st.facts; (try simp only [nfl, nft, Nat.reduceAdd] at hc)
    go_wp2_with fail
    go_ret
    exact ⟨by rw [H1.out]; rfl, st.ext0⟩
  | true =>
    by_cases k1 : k = 1
    · subst k1
      cases nr with
      | false =>
        have H1 : Hid (r = false) := Lib.hid (by rw [HR.out]; rfl)
        go_enter Tryz.func39, Tryz.ntmps39
        go_wp2_with ((((with_reducible refine wl_box ?_ (fun K hK => ?_)); rfl; refine owp_box (o := ⟨some 1, _, _, _, _, _⟩) rfl st ?_; apply Exists.intro; refine ⟨?_, ?_⟩; (focus (go_simp; try rfl)); (clear st; intro b1 w hb st; clear hb))); (try simp only [nsl, Value.cells, unB] at st); (try clear hc); have hc := st.facts; (try simp only [nfl, nft, Nat.reduceAdd] at hc))
        refine Rg4.wp_region4 (Rel := Ext) #[0, 1, 0, 7, 15]
          [(1, .val (bv))] [3] [0, 2] (fun _ => True) [0, 1, 2, 3, 4] (by kernel_rfl) (by kernel_rfl) (by kernel_rfl) (by kernel_rfl) Ext.refl (fun _ _ _ => Ext.trans) (show Rg4.PB _ by repeat (first | with_reducible exact Rg4.pb_body | with_reducible exact Rg4.pb_bodyD rfl | with_reducible refine Rg4.pb_then ?_ | with_reducible refine Rg4.pb_inBlock ?_ | with_reducible refine Rg4.pb_noGoto ?_)) (trivial) ?_
        replace st := st.drew
        change Rg4.wp4 _ _ _ _ _ _ _ _ _ (World.drew _) _ _
        generalize World.drew _ = w at st ⊢
        (try clear hc); have hc := st.facts; (try simp only [nfl, nft, Nat.reduceAdd] at hc)
        (refine Rg4.w4_read (Rg4.want_none rfl) rfl rfl ?_; apply Exists.intro; refine ⟨fun w' hw' hcl' => ?_, ?_⟩; focus (have st' := st.ext hw'; have hc' := st'.facts; (try simp only [nfl, nft, Nat.reduceAdd] at hc'); (focus (first | (go_simp; done) | (go_simp; first | rfl | (rw [if_neg] <;> first | rfl | omega) | (rw [if_pos] <;> first | rfl | omega))))); (try simp only [Rg4.nrm]))
        refine Rg4.w4_some (Rg4.want_none rfl) rfl (fun w' hw' hcl' _ => ?_) ?_
        · refine Rg.relAt_call (by go_simp; exact ⟨rfl, rfl⟩) ?_
          refine (HB.out _).mono ?_
          rintro en w'' ⟨rfl, hx⟩
          exact ⟨_, rfl, hx, trivial, rfl⟩
        rintro v ⟨_, _, _, rfl⟩
        (try simp only [Rg4.nrm])
        (refine Rg4.w4_read (Rg4.want_none rfl) rfl rfl ?_; apply Exists.intro; refine ⟨fun w' hw' hcl' => ?_, ?_⟩; focus (have st' := st.ext hw'; have hc' := st'.facts; (try simp only [nfl, nft, Nat.reduceAdd] at hc'); (focus (first | (go_simp; done) | (go_simp; first | rfl | (rw [if_neg] <;> first | rfl | omega) | (rw [if_pos] <;> first | rfl | omega))))); (try simp only [Rg4.nrm]))
        refine Rg4.w4_bar (Rg4.want_none rfl) rfl (fun w' hw' hcl _ K hK => ?_)
        replace st := st.ext hw'
        clear hw'
        (try clear hc); have hc := st.facts; (try simp only [nfl, nft, Nat.reduceAdd] at hc)
        go_wp2_with fail
        refine (HS.out _ st.ext0).mono ?_
        rintro en w ⟨rfl, hx⟩
        replace st := st.ext hx
        clear hx
        (try clear hc); have hc := st.facts; (try simp only [nfl, nft, Nat.reduceAdd] at hc)
        refine hK _ _ ⟨trivial, ?_⟩
        clear hK
        (try simp only [Rg4.nrm])
        (refine Rg4.w4_any (Rg4.want_none rfl) rfl ?_; apply Exists.intro; refine ⟨fun w' => ?_, ?_⟩; (focus (first | (go_simp; done) | (go_simp; first | rfl | (rw [if_neg] <;> first | rfl | omega) | (rw [if_pos] <;> first | rfl | omega)))); (try simp only [Rg4.nrm]))
        refine Rg4.w4_nil (fun w' hw' hcl' _ => ?_); replace st := st.ext hw'; clear hw' hcl'; (try clear hc); have hc := st.facts; (try simp only [nfl, nft, Nat.reduceAdd] at hc)
        go_wp2_with fail
        refine (HN.out _).mono ?_
        rintro en w ⟨rfl, hx⟩
        replace st := st.ext hx
        clear hx
        (try clear hc); have hc := st.facts; (try simp only [nfl, nft, Nat.reduceAdd] at hc)
        go_wp2_with fail
        go_ret
        exact ⟨by rw [H1.out]; rfl, st.ext0⟩
      | true =>
        by_cases p1 : p = 1
        · subst p1
          have H1 : Hid (r = true) := Lib.hid (by rw [HR.out]; rfl)
          go_enter Tryz.func39, Tryz.ntmps39
          go_wp2_with ((((with_reducible refine wl_box ?_ (fun K hK => ?_)); rfl; refine owp_box (o := ⟨some 1, _, _, _, _, _⟩) rfl st ?_; apply Exists.intro; refine ⟨?_, ?_⟩; (focus (go_simp; try rfl)); (clear st; intro b1 w hb st; clear hb))); (try simp only [nsl, Value.cells, unB] at st); (try clear hc); have hc := st.facts; (try simp only [nfl, nft, Nat.reduceAdd] at hc))
          refine Rg4.wp_region4 (Rel := Ext) #[0, 1, 0, 7, 15]
            [(1, .val (bv))] [3] [0, 2] (fun _ => True) [0, 1, 2, 3, 4] (by kernel_rfl) (by kernel_rfl) (by kernel_rfl) (by kernel_rfl) Ext.refl (fun _ _ _ => Ext.trans) (show Rg4.PB _ by repeat (first | with_reducible exact Rg4.pb_body | with_reducible exact Rg4.pb_bodyD rfl | with_reducible refine Rg4.pb_then ?_ | with_reducible refine Rg4.pb_inBlock ?_ | with_reducible refine Rg4.pb_noGoto ?_)) (trivial) ?_
          replace st := st.drew
          change Rg4.wp4 _ _ _ _ _ _ _ _ _ (World.drew _) _ _
          generalize World.drew _ = w at st ⊢
          (try clear hc); have hc := st.facts; (try simp only [nfl, nft, Nat.reduceAdd] at hc)
          (refine Rg4.w4_read (Rg4.want_none rfl) rfl rfl ?_; apply Exists.intro; refine ⟨fun w' hw' hcl' => ?_, ?_⟩; focus (have st' := st.ext hw'; have hc' := st'.facts; (try simp only [nfl, nft, Nat.reduceAdd] at hc'); (focus (first | (go_simp; done) | (go_simp; first | rfl | (rw [if_neg] <;> first | rfl | omega) | (rw [if_pos] <;> first | rfl | omega))))); (try simp only [Rg4.nrm]))
          refine Rg4.w4_some (Rg4.want_none rfl) rfl (fun w' hw' hcl' _ => ?_) ?_
          · refine Rg.relAt_call (by go_simp; exact ⟨rfl, rfl⟩) ?_
            refine (HB.out _).mono ?_
            rintro en w'' ⟨rfl, hx⟩
            exact ⟨_, rfl, hx, trivial, rfl⟩
          rintro v ⟨_, _, _, rfl⟩
          (try simp only [Rg4.nrm])
          (refine Rg4.w4_read (Rg4.want_none rfl) rfl rfl ?_; apply Exists.intro; refine ⟨fun w' hw' hcl' => ?_, ?_⟩; focus (have st' := st.ext hw'; have hc' := st'.facts; (try simp only [nfl, nft, Nat.reduceAdd] at hc'); (focus (first | (go_simp; done) | (go_simp; first | rfl | (rw [if_neg] <;> first | rfl | omega) | (rw [if_pos] <;> first | rfl | omega))))); (try simp only [Rg4.nrm]))
          refine Rg4.w4_bar (Rg4.want_none rfl) rfl (fun w' hw' hcl _ K hK => ?_)
          replace st := st.ext hw'
          clear hw'
          (try clear hc); have hc := st.facts; (try simp only [nfl, nft, Nat.reduceAdd] at hc)
          go_wp2_with fail
          refine (HS.out _ st.ext0).mono ?_
          rintro en w ⟨rfl, hx⟩
          replace st := st.ext hx
          clear hx
          (try clear hc); have hc := st.facts; (try simp only [nfl, nft, Nat.reduceAdd] at hc)
          refine hK _ _ ⟨trivial, ?_⟩
          clear hK
          (try simp only [Rg4.nrm])
          (refine Rg4.w4_any (Rg4.want_none rfl) rfl ?_; apply Exists.intro; refine ⟨fun w' => ?_, ?_⟩; (focus (first | (go_simp; done) | (go_simp; first | rfl | (rw [if_neg] <;> first | rfl | omega) | (rw [if_pos] <;> first | rfl | omega)))); (try simp only [Rg4.nrm]))
          refine Rg4.w4_nil (fun w' hw' hcl' _ => ?_); replace st := st.ext hw'; clear hw' hcl'; (try clear hc); have hc := st.facts; (try simp only [nfl, nft, Nat.reduceAdd] at hc)
          go_wp2_with fail
          refine (HN.out _).mono ?_
          rintro en w ⟨rfl, hx⟩
          replace st := st.ext hx
          clear hx
          (try clear hc); have hc := st.facts; (try simp only [nfl, nft, Nat.reduceAdd] at hc)
          go_wp2_with fail
          go_ret
          exact ⟨by rw [H1.out]; rfl, st.ext0⟩
        have p1b : (p == 1) = false := by simpa using p1
        by_cases p2 : p = 2
        · subst p2
          have H1 : Hid (r = true) := Lib.hid (by rw [HR.out]; rfl)
          clear p1
          go_enter Tryz.func39, Tryz.ntmps39
          go_wp2_with ((((with_reducible refine wl_box ?_ (fun K hK => ?_)); rfl; refine owp_box (o := ⟨some 1, _, _, _, _, _⟩) rfl st ?_; apply Exists.intro; refine ⟨?_, ?_⟩; (focus (go_simp; try rfl)); (clear st; intro b1 w hb st; clear hb))); (try simp only [nsl, Value.cells, unB] at st); (try clear hc); have hc := st.facts; (try simp only [nfl, nft, Nat.reduceAdd] at hc))
          refine Rg4.wp_region4 (Rel := Ext) #[0, 1, 0, 7, 15]
            [(1, .val (bv))] [3] [0, 2] (fun _ => True) [0, 1, 2, 3, 4] (by kernel_rfl) (by kernel_rfl) (by kernel_rfl) (by kernel_rfl) Ext.refl (fun _ _ _ => Ext.trans) (show Rg4.PB _ by repeat (first | with_reducible exact Rg4.pb_body | with_reducible exact Rg4.pb_bodyD rfl | with_reducible refine Rg4.pb_then ?_ | with_reducible refine Rg4.pb_inBlock ?_ | with_reducible refine Rg4.pb_noGoto ?_)) (trivial) ?_
          replace st := st.drew
          change Rg4.wp4 _ _ _ _ _ _ _ _ _ (World.drew _) _ _
          generalize World.drew _ = w at st ⊢
          (try clear hc); have hc := st.facts; (try simp only [nfl, nft, Nat.reduceAdd] at hc)
          (refine Rg4.w4_read (Rg4.want_none rfl) rfl rfl ?_; apply Exists.intro; refine ⟨fun w' hw' hcl' => ?_, ?_⟩; focus (have st' := st.ext hw'; have hc' := st'.facts; (try simp only [nfl, nft, Nat.reduceAdd] at hc'); (focus (first | (go_simp; done) | (go_simp; first | rfl | (rw [if_neg] <;> first | rfl | omega) | (rw [if_pos] <;> first | rfl | omega))))); (try simp only [Rg4.nrm]))
          refine Rg4.w4_some (Rg4.want_none rfl) rfl (fun w' hw' hcl' _ => ?_) ?_
          · refine Rg.relAt_call (by go_simp; exact ⟨rfl, rfl⟩) ?_
            refine (HB.out _).mono ?_
            rintro en w'' ⟨rfl, hx⟩
            exact ⟨_, rfl, hx, trivial, rfl⟩
          rintro v ⟨_, _, _, rfl⟩
          (try simp only [Rg4.nrm])
          (refine Rg4.w4_read (Rg4.want_none rfl) rfl rfl ?_; apply Exists.intro; refine ⟨fun w' hw' hcl' => ?_, ?_⟩; focus (have st' := st.ext hw'; have hc' := st'.facts; (try simp only [nfl, nft, Nat.reduceAdd] at hc'); (focus (first | (go_simp; done) | (go_simp; first | rfl | (rw [if_neg] <;> first | rfl | omega) | (rw [if_pos] <;> first | rfl | omega))))); (try simp only [Rg4.nrm]))
          refine Rg4.w4_bar (Rg4.want_none rfl) rfl (fun w' hw' hcl _ K hK => ?_)
          replace st := st.ext hw'
          clear hw'
          (try clear hc); have hc := st.facts; (try simp only [nfl, nft, Nat.reduceAdd] at hc)
          go_wp2_with fail
          refine (HS.out _ st.ext0).mono ?_
          rintro en w ⟨rfl, hx⟩
          replace st := st.ext hx
          clear hx
          (try clear hc); have hc := st.facts; (try simp only [nfl, nft, Nat.reduceAdd] at hc)
          refine hK _ _ ⟨trivial, ?_⟩
          clear hK
          (try simp only [Rg4.nrm])
          (refine Rg4.w4_any (Rg4.want_none rfl) rfl ?_; apply Exists.intro; refine ⟨fun w' => ?_, ?_⟩; (focus (first | (go_simp; done) | (go_simp; first | rfl | (rw [if_neg] <;> first | rfl | omega) | (rw [if_pos] <;> first | rfl | omega)))); (try simp only [Rg4.nrm]))
          refine Rg4.w4_nil (fun w' hw' hcl' _ => ?_); replace st := st.ext hw'; clear hw' hcl'; (try clear hc); have hc := st.facts; (try simp only [nfl, nft, Nat.reduceAdd] at hc)
          go_wp2_with fail
          refine (HN.out _).mono ?_
          rintro en w ⟨rfl, hx⟩
          replace st := st.ext hx
          clear hx
          (try clear hc); have hc := st.facts; (try simp only [nfl, nft, Nat.reduceAdd] at hc)
          go_wp2_with fail
          go_ret
          exact ⟨by rw [H1.out]; rfl, st.ext0⟩
        have p2b : (p == 2) = false := by simpa using p2
        have H1 : Hid (r = false) := Lib.hid (by rw [HR.out, if_pos rfl, decide_eq_false p1, decide_eq_false p2]; rfl)
        clear p1 p2
        go_enter Tryz.func39, Tryz.ntmps39
        go_wp2_with ((((with_reducible refine wl_box ?_ (fun K hK => ?_)); rfl; refine owp_box (o := ⟨some 1, _, _, _, _, _⟩) rfl st ?_; apply Exists.intro; refine ⟨?_, ?_⟩; (focus (go_simp; try rfl)); (clear st; intro b1 w hb st; clear hb))); (try simp only [nsl, Value.cells, unB] at st); (try clear hc); have hc := st.facts; (try simp only [nfl, nft, Nat.reduceAdd] at hc))
        refine Rg4.wp_region4 (Rel := Ext) #[0, 1, 0, 7, 15]
          [(1, .val (bv))] [3] [0, 2] (fun _ => True) [0, 1, 2, 3, 4] (by kernel_rfl) (by kernel_rfl) (by kernel_rfl) (by kernel_rfl) Ext.refl (fun _ _ _ => Ext.trans) (show Rg4.PB _ by repeat (first | with_reducible exact Rg4.pb_body | with_reducible exact Rg4.pb_bodyD rfl | with_reducible refine Rg4.pb_then ?_ | with_reducible refine Rg4.pb_inBlock ?_ | with_reducible refine Rg4.pb_noGoto ?_)) (trivial) ?_
        replace st := st.drew
        change Rg4.wp4 _ _ _ _ _ _ _ _ _ (World.drew _) _ _
        generalize World.drew _ = w at st ⊢
        (try clear hc); have hc := st.facts; (try simp only [nfl, nft, Nat.reduceAdd] at hc)
        (refine Rg4.w4_read (Rg4.want_none rfl) rfl rfl ?_; apply Exists.intro; refine ⟨fun w' hw' hcl' => ?_, ?_⟩; focus (have st' := st.ext hw'; have hc' := st'.facts; (try simp only [nfl, nft, Nat.reduceAdd] at hc'); (focus (first | (go_simp; done) | (go_simp; first | rfl | (rw [if_neg] <;> first | rfl | omega) | (rw [if_pos] <;> first | rfl | omega))))); (try simp only [Rg4.nrm]))
        refine Rg4.w4_some (Rg4.want_none rfl) rfl (fun w' hw' hcl' _ => ?_) ?_
        · refine Rg.relAt_call (by go_simp; exact ⟨rfl, rfl⟩) ?_
          refine (HB.out _).mono ?_
          rintro en w'' ⟨rfl, hx⟩
          exact ⟨_, rfl, hx, trivial, rfl⟩
        rintro v ⟨_, _, _, rfl⟩
        (try simp only [Rg4.nrm])
        (refine Rg4.w4_read (Rg4.want_none rfl) rfl rfl ?_; apply Exists.intro; refine ⟨fun w' hw' hcl' => ?_, ?_⟩; focus (have st' := st.ext hw'; have hc' := st'.facts; (try simp only [nfl, nft, Nat.reduceAdd] at hc'); (focus (first | (go_simp; done) | (go_simp; first | rfl | (rw [if_neg] <;> first | rfl | omega) | (rw [if_pos] <;> first | rfl | omega))))); (try simp only [Rg4.nrm]))
        refine Rg4.w4_bar (Rg4.want_none rfl) rfl (fun w' hw' hcl _ K hK => ?_)
        replace st := st.ext hw'
        clear hw'
        (try clear hc); have hc := st.facts; (try simp only [nfl, nft, Nat.reduceAdd] at hc)
        go_wp2_with fail
        refine (HS.out _ st.ext0).mono ?_
        rintro en w ⟨rfl, hx⟩
        replace st := st.ext hx
        clear hx
        (try clear hc); have hc := st.facts; (try simp only [nfl, nft, Nat.reduceAdd] at hc)
        refine hK _ _ ⟨trivial, ?_⟩
        clear hK
        (try simp only [Rg4.nrm])
        (refine Rg4.w4_any (Rg4.want_none rfl) rfl ?_; apply Exists.intro; refine ⟨fun w' => ?_, ?_⟩; (focus (first | (go_simp; done) | (go_simp; first | rfl | (rw [if_neg] <;> first | rfl | omega) | (rw [if_pos] <;> first | rfl | omega)))); (try simp only [Rg4.nrm]))
        refine Rg4.w4_nil (fun w' hw' hcl' _ => ?_); replace st := st.ext hw'; clear hw' hcl'; (try clear hc); have hc := st.facts; (try simp only [nfl, nft, Nat.reduceAdd] at hc)
        go_wp2_with fail
        refine (HN.out _).mono ?_
        rintro en w ⟨rfl, hx⟩
        replace st := st.ext hx
        clear hx
        (try clear hc); have hc := st.facts; (try simp only [nfl, nft, Nat.reduceAdd] at hc)
        go_wp2_with fail
        go_ret
        exact ⟨by rw [H1.out]; rfl, st.ext0⟩
    have k1b : (k == 1) = false := by simpa using k1
    by_cases k2 : k = 2
    · subst k2
      clear k1
      cases wr with
      | false =>
        have H1 : Hid (r = false) := Lib.hid (by rw [HR.out]; rfl)
        go_enter Tryz.func39, Tryz.ntmps39
        go_wp2_with ((((with_reducible refine wl_box ?_ (fun K hK => ?_)); rfl; refine owp_box (o := ⟨some 1, _, _, _, _, _⟩) rfl st ?_; apply Exists.intro; refine ⟨?_, ?_⟩; (focus (go_simp; try rfl)); (clear st; intro b1 w hb st; clear hb))); (try simp only [nsl, Value.cells, unB] at st); (try clear hc); have hc := st.facts; (try simp only [nfl, nft, Nat.reduceAdd] at hc))
        refine Rg4.wp_region4 (Rel := Ext) #[0, 1, 0, 7, 15]
          [(1, .val (bv))] [3] [0, 2] (fun _ => True) [0, 1, 2, 3, 4] (by kernel_rfl) (by kernel_rfl) (by kernel_rfl) (by kernel_rfl) Ext.refl (fun _ _ _ => Ext.trans) (show Rg4.PB _ by repeat (first | with_reducible exact Rg4.pb_body | with_reducible exact Rg4.pb_bodyD rfl | with_reducible refine Rg4.pb_then ?_ | with_reducible refine Rg4.pb_inBlock ?_ | with_reducible refine Rg4.pb_noGoto ?_)) (trivial) ?_
        replace st := st.drew
        change Rg4.wp4 _ _ _ _ _ _ _ _ _ (World.drew _) _ _
        generalize World.drew _ = w at st ⊢
        (try clear hc); have hc := st.facts; (try simp only [nfl, nft, Nat.reduceAdd] at hc)
        (refine Rg4.w4_read (Rg4.want_none rfl) rfl rfl ?_; apply Exists.intro; refine ⟨fun w' hw' hcl' => ?_, ?_⟩; focus (have st' := st.ext hw'; have hc' := st'.facts; (try simp only [nfl, nft, Nat.reduceAdd] at hc'); (focus (first | (go_simp; done) | (go_simp; first | rfl | (rw [if_neg] <;> first | rfl | omega) | (rw [if_pos] <;> first | rfl | omega))))); (try simp only [Rg4.nrm]))
        refine Rg4.w4_some (Rg4.want_none rfl) rfl (fun w' hw' hcl' _ => ?_) ?_
        · refine Rg.relAt_call (by go_simp; exact ⟨rfl, rfl⟩) ?_
          refine (HB.out _).mono ?_
          rintro en w'' ⟨rfl, hx⟩
          exact ⟨_, rfl, hx, trivial, rfl⟩
        rintro v ⟨_, _, _, rfl⟩
        (try simp only [Rg4.nrm])
        (refine Rg4.w4_read (Rg4.want_none rfl) rfl rfl ?_; apply Exists.intro; refine ⟨fun w' hw' hcl' => ?_, ?_⟩; focus (have st' := st.ext hw'; have hc' := st'.facts; (try simp only [nfl, nft, Nat.reduceAdd] at hc'); (focus (first | (go_simp; done) | (go_simp; first | rfl | (rw [if_neg] <;> first | rfl | omega) | (rw [if_pos] <;> first | rfl | omega))))); (try simp only [Rg4.nrm]))
        refine Rg4.w4_bar (Rg4.want_none rfl) rfl (fun w' hw' hcl _ K hK => ?_)
        replace st := st.ext hw'
        clear hw'
        (try clear hc); have hc := st.facts; (try simp only [nfl, nft, Nat.reduceAdd] at hc)
        go_wp2_with fail
        refine (HS.out _ st.ext0).mono ?_
        rintro en w ⟨rfl, hx⟩
        replace st := st.ext hx
        clear hx
        (try clear hc); have hc := st.facts; (try simp only [nfl, nft, Nat.reduceAdd] at hc)
        refine hK _ _ ⟨trivial, ?_⟩
        clear hK
        (try simp only [Rg4.nrm])
        (refine Rg4.w4_any (Rg4.want_none rfl) rfl ?_; apply Exists.intro; refine ⟨fun w' => ?_, ?_⟩; (focus (first | (go_simp; done) | (go_simp; first | rfl | (rw [if_neg] <;> first | rfl | omega) | (rw [if_pos] <;> first | rfl | omega)))); (try simp only [Rg4.nrm]))
        refine Rg4.w4_nil (fun w' hw' hcl' _ => ?_); replace st := st.ext hw'; clear hw' hcl'; (try clear hc); have hc := st.facts; (try simp only [nfl, nft, Nat.reduceAdd] at hc)
        go_wp2_with fail
        refine (HW.out _ (st.oldFl (i := 0) get0 HX.out.1.2)).mono ?_
        rintro en w ⟨rfl, hx⟩
        replace st := st.ext hx
        clear hx
        (try clear hc); have hc := st.facts; (try simp only [nfl, nft, Nat.reduceAdd] at hc)
        go_wp2_with fail
        go_ret
        exact ⟨by rw [H1.out]; rfl, st.ext0⟩
      | true =>
        have H1 : Hid (r = sr) := Lib.hid (by rw [HR.out]; rfl)
        go_enter Tryz.func39, Tryz.ntmps39
        go_wp2_with ((((with_reducible refine wl_box ?_ (fun K hK => ?_)); rfl; refine owp_box (o := ⟨some 1, _, _, _, _, _⟩) rfl st ?_; apply Exists.intro; refine ⟨?_, ?_⟩; (focus (go_simp; try rfl)); (clear st; intro b1 w hb st; clear hb))); (try simp only [nsl, Value.cells, unB] at st); (try clear hc); have hc := st.facts; (try simp only [nfl, nft, Nat.reduceAdd] at hc))
        refine Rg4.wp_region4 (Rel := Ext) #[0, 1, 0, 7, 15]
          [(1, .val (bv))] [3] [0, 2] (fun _ => True) [0, 1, 2, 3, 4] (by kernel_rfl) (by kernel_rfl) (by kernel_rfl) (by kernel_rfl) Ext.refl (fun _ _ _ => Ext.trans) (show Rg4.PB _ by repeat (first | with_reducible exact Rg4.pb_body | with_reducible exact Rg4.pb_bodyD rfl | with_reducible refine Rg4.pb_then ?_ | with_reducible refine Rg4.pb_inBlock ?_ | with_reducible refine Rg4.pb_noGoto ?_)) (trivial) ?_
        replace st := st.drew
        change Rg4.wp4 _ _ _ _ _ _ _ _ _ (World.drew _) _ _
        generalize World.drew _ = w at st ⊢
        (try clear hc); have hc := st.facts; (try simp only [nfl, nft, Nat.reduceAdd] at hc)
        (refine Rg4.w4_read (Rg4.want_none rfl) rfl rfl ?_; apply Exists.intro; refine ⟨fun w' hw' hcl' => ?_, ?_⟩; focus (have st' := st.ext hw'; have hc' := st'.facts; (try simp only [nfl, nft, Nat.reduceAdd] at hc'); (focus (first | (go_simp; done) | (go_simp; first | rfl | (rw [if_neg] <;> first | rfl | omega) | (rw [if_pos] <;> first | rfl | omega))))); (try simp only [Rg4.nrm]))
        refine Rg4.w4_some (Rg4.want_none rfl) rfl (fun w' hw' hcl' _ => ?_) ?_
        · refine Rg.relAt_call (by go_simp; exact ⟨rfl, rfl⟩) ?_
          refine (HB.out _).mono ?_
          rintro en w'' ⟨rfl, hx⟩
          exact ⟨_, rfl, hx, trivial, rfl⟩
        rintro v ⟨_, _, _, rfl⟩
        (try simp only [Rg4.nrm])
        (refine Rg4.w4_read (Rg4.want_none rfl) rfl rfl ?_; apply Exists.intro; refine ⟨fun w' hw' hcl' => ?_, ?_⟩; focus (have st' := st.ext hw'; have hc' := st'.facts; (try simp only [nfl, nft, Nat.reduceAdd] at hc'); (focus (first | (go_simp; done) | (go_simp; first | rfl | (rw [if_neg] <;> first | rfl | omega) | (rw [if_pos] <;> first | rfl | omega))))); (try simp only [Rg4.nrm]))
        refine Rg4.w4_bar (Rg4.want_none rfl) rfl (fun w' hw' hcl _ K hK => ?_)
        replace st := st.ext hw'
        clear hw'
        (try clear hc); have hc := st.facts; (try simp only [nfl, nft, Nat.reduceAdd] at hc)
        go_wp2_with fail
        refine (HS.out _ st.ext0).mono ?_
        rintro en w ⟨rfl, hx⟩
        replace st := st.ext hx
        clear hx
        (try clear hc); have hc := st.facts; (try simp only [nfl, nft, Nat.reduceAdd] at hc)
        refine hK _ _ ⟨trivial, ?_⟩
        clear hK
        (try simp only [Rg4.nrm])
        (refine Rg4.w4_any (Rg4.want_none rfl) rfl ?_; apply Exists.intro; refine ⟨fun w' => ?_, ?_⟩; (focus (first | (go_simp; done) | (go_simp; first | rfl | (rw [if_neg] <;> first | rfl | omega) | (rw [if_pos] <;> first | rfl | omega)))); (try simp only [Rg4.nrm]))
        refine Rg4.w4_nil (fun w' hw' hcl' _ => ?_); replace st := st.ext hw'; clear hw' hcl'; (try clear hc); have hc := st.facts; (try simp only [nfl, nft, Nat.reduceAdd] at hc)
        go_wp2_with fail
        refine (HW.out _ (st.oldFl (i := 0) get0 HX.out.1.2)).mono ?_
        rintro en w ⟨rfl, hx⟩
        replace st := st.ext hx
        clear hx
        (try clear hc); have hc := st.facts; (try simp only [nfl, nft, Nat.reduceAdd] at hc)
        go_wp2_with fail
        refine (HH.out _ (st.oldFl (i := 0) get0 HX.out.2.1.2)).mono ?_
        rintro en w ⟨rfl, hx⟩
        replace st := st.ext hx
        clear hx
        (try clear hc); have hc := st.facts; (try simp only [nfl, nft, Nat.reduceAdd] at hc)
        go_wp2_with fail
        go_ret
        exact ⟨by rw [H1.out]; rfl, st.ext0⟩
    have k2b : (k == 2) = false := by simpa using k2
    by_cases k5 : k = 5
    · subst k5
      clear k1 k2
      by_cases e1 : 1 ≤ e
      · have H1 : Hid (r = decide (e ≤ 99)) := Lib.hid (by rw [HR.out, if_neg (by decide), if_neg (by decide), if_pos rfl, decide_eq_true e1]; rfl)
        go_enter Tryz.func39, Tryz.ntmps39
        go_wp2_with ((((with_reducible refine wl_box ?_ (fun K hK => ?_)); rfl; refine owp_box (o := ⟨some 1, _, _, _, _, _⟩) rfl st ?_; apply Exists.intro; refine ⟨?_, ?_⟩; (focus (go_simp; try rfl)); (clear st; intro b1 w hb st; clear hb))); (try simp only [nsl, Value.cells, unB] at st); (try clear hc); have hc := st.facts; (try simp only [nfl, nft, Nat.reduceAdd] at hc))
        refine Rg4.wp_region4 (Rel := Ext) #[0, 1, 0, 7, 15]
          [(1, .val (bv))] [3] [0, 2] (fun _ => True) [0, 1, 2, 3, 4] (by kernel_rfl) (by kernel_rfl) (by kernel_rfl) (by kernel_rfl) Ext.refl (fun _ _ _ => Ext.trans) (show Rg4.PB _ by repeat (first | with_reducible exact Rg4.pb_body | with_reducible exact Rg4.pb_bodyD rfl | with_reducible refine Rg4.pb_then ?_ | with_reducible refine Rg4.pb_inBlock ?_ | with_reducible refine Rg4.pb_noGoto ?_)) (trivial) ?_
        replace st := st.drew
        change Rg4.wp4 _ _ _ _ _ _ _ _ _ (World.drew _) _ _
        generalize World.drew _ = w at st ⊢
        (try clear hc); have hc := st.facts; (try simp only [nfl, nft, Nat.reduceAdd] at hc)
        (refine Rg4.w4_read (Rg4.want_none rfl) rfl rfl ?_; apply Exists.intro; refine ⟨fun w' hw' hcl' => ?_, ?_⟩; focus (have st' := st.ext hw'; have hc' := st'.facts; (try simp only [nfl, nft, Nat.reduceAdd] at hc'); (focus (first | (go_simp; done) | (go_simp; first | rfl | (rw [if_neg] <;> first | rfl | omega) | (rw [if_pos] <;> first | rfl | omega))))); (try simp only [Rg4.nrm]))
        refine Rg4.w4_some (Rg4.want_none rfl) rfl (fun w' hw' hcl' _ => ?_) ?_
        · refine Rg.relAt_call (by go_simp; exact ⟨rfl, rfl⟩) ?_
          refine (HB.out _).mono ?_
          rintro en w'' ⟨rfl, hx⟩
          exact ⟨_, rfl, hx, trivial, rfl⟩
        rintro v ⟨_, _, _, rfl⟩
        (try simp only [Rg4.nrm])
        (refine Rg4.w4_read (Rg4.want_none rfl) rfl rfl ?_; apply Exists.intro; refine ⟨fun w' hw' hcl' => ?_, ?_⟩; focus (have st' := st.ext hw'; have hc' := st'.facts; (try simp only [nfl, nft, Nat.reduceAdd] at hc'); (focus (first | (go_simp; done) | (go_simp; first | rfl | (rw [if_neg] <;> first | rfl | omega) | (rw [if_pos] <;> first | rfl | omega))))); (try simp only [Rg4.nrm]))
        refine Rg4.w4_bar (Rg4.want_none rfl) rfl (fun w' hw' hcl _ K hK => ?_)
        replace st := st.ext hw'
        clear hw'
        (try clear hc); have hc := st.facts; (try simp only [nfl, nft, Nat.reduceAdd] at hc)
        go_wp2_with fail
        refine (HS.out _ st.ext0).mono ?_
        rintro en w ⟨rfl, hx⟩
        replace st := st.ext hx
        clear hx
        (try clear hc); have hc := st.facts; (try simp only [nfl, nft, Nat.reduceAdd] at hc)
        refine hK _ _ ⟨trivial, ?_⟩
        clear hK
        (try simp only [Rg4.nrm])
        (refine Rg4.w4_any (Rg4.want_none rfl) rfl ?_; apply Exists.intro; refine ⟨fun w' => ?_, ?_⟩; (focus (first | (go_simp; done) | (go_simp; first | rfl | (rw [if_neg] <;> first | rfl | omega) | (rw [if_pos] <;> first | rfl | omega)))); (try simp only [Rg4.nrm]))
        refine Rg4.w4_nil (fun w' hw' hcl' _ => ?_); replace st := st.ext hw'; clear hw' hcl'; (try clear hc); have hc := st.facts; (try simp only [nfl, nft, Nat.reduceAdd] at hc)
        go_wp2_with fail
        go_ret
        exact ⟨by rw [H1.out]; rfl, st.ext0⟩
      · have H1 : Hid (r = false) := Lib.hid (by rw [HR.out, if_neg (by decide), if_neg (by decide), if_pos rfl, decide_eq_false e1]; rfl)
        go_enter Tryz.func39, Tryz.ntmps39
        go_wp2_with ((((with_reducible refine wl_box ?_ (fun K hK => ?_)); rfl; refine owp_box (o := ⟨some 1, _, _, _, _, _⟩) rfl st ?_; apply Exists.intro; refine ⟨?_, ?_⟩; (focus (go_simp; try rfl)); (clear st; intro b1 w hb st; clear hb))); (try simp only [nsl, Value.cells, unB] at st); (try clear hc); have hc := st.facts; (try simp only [nfl, nft, Nat.reduceAdd] at hc))
        refine Rg4.wp_region4 (Rel := Ext) #[0, 1, 0, 7, 15]
          [(1, .val (bv))] [3] [0, 2] (fun _ => True) [0, 1, 2, 3, 4] (by kernel_rfl) (by kernel_rfl) (by kernel_rfl) (by kernel_rfl) Ext.refl (fun _ _ _ => Ext.trans) (show Rg4.PB _ by repeat (first | with_reducible exact Rg4.pb_body | with_reducible exact Rg4.pb_bodyD rfl | with_reducible refine Rg4.pb_then ?_ | with_reducible refine Rg4.pb_inBlock ?_ | with_reducible refine Rg4.pb_noGoto ?_)) (trivial) ?_
        replace st := st.drew
        change Rg4.wp4 _ _ _ _ _ _ _ _ _ (World.drew _) _ _
        generalize World.drew _ = w at st ⊢
        (try clear hc); have hc := st.facts; (try simp only [nfl, nft, Nat.reduceAdd] at hc)
        (refine Rg4.w4_read (Rg4.want_none rfl) rfl rfl ?_; apply Exists.intro; refine ⟨fun w' hw' hcl' => ?_, ?_⟩; focus (have st' := st.ext hw'; have hc' := st'.facts; (try simp only [nfl, nft, Nat.reduceAdd] at hc'); (focus (first | (go_simp; done) | (go_simp; first | rfl | (rw [if_neg] <;> first | rfl | omega) | (rw [if_pos] <;> first | rfl | omega))))); (try simp only [Rg4.nrm]))
        refine Rg4.w4_some (Rg4.want_none rfl) rfl (fun w' hw' hcl' _ => ?_) ?_
        · refine Rg.relAt_call (by go_simp; exact ⟨rfl, rfl⟩) ?_
          refine (HB.out _).mono ?_
          rintro en w'' ⟨rfl, hx⟩
          exact ⟨_, rfl, hx, trivial, rfl⟩
        rintro v ⟨_, _, _, rfl⟩
        (try simp only [Rg4.nrm])
        (refine Rg4.w4_read (Rg4.want_none rfl) rfl rfl ?_; apply Exists.intro; refine ⟨fun w' hw' hcl' => ?_, ?_⟩; focus (have st' := st.ext hw'; have hc' := st'.facts; (try simp only [nfl, nft, Nat.reduceAdd] at hc'); (focus (first | (go_simp; done) | (go_simp; first | rfl | (rw [if_neg] <;> first | rfl | omega) | (rw [if_pos] <;> first | rfl | omega))))); (try simp only [Rg4.nrm]))
        refine Rg4.w4_bar (Rg4.want_none rfl) rfl (fun w' hw' hcl _ K hK => ?_)
        replace st := st.ext hw'
        clear hw'
        (try clear hc); have hc := st.facts; (try simp only [nfl, nft, Nat.reduceAdd] at hc)
        go_wp2_with fail
        refine (HS.out _ st.ext0).mono ?_
        rintro en w ⟨rfl, hx⟩
        replace st := st.ext hx
        clear hx
        (try clear hc); have hc := st.facts; (try simp only [nfl, nft, Nat.reduceAdd] at hc)
        refine hK _ _ ⟨trivial, ?_⟩
        clear hK
        (try simp only [Rg4.nrm])
        (refine Rg4.w4_any (Rg4.want_none rfl) rfl ?_; apply Exists.intro; refine ⟨fun w' => ?_, ?_⟩; (focus (first | (go_simp; done) | (go_simp; first | rfl | (rw [if_neg] <;> first | rfl | omega) | (rw [if_pos] <;> first | rfl | omega)))); (try simp only [Rg4.nrm]))
        refine Rg4.w4_nil (fun w' hw' hcl' _ => ?_); replace st := st.ext hw'; clear hw' hcl'; (try clear hc); have hc := st.facts; (try simp only [nfl, nft, Nat.reduceAdd] at hc)
        go_wp2_with fail
        go_ret
        exact ⟨by rw [H1.out]; rfl, st.ext0⟩
    have k5b : (k == 5) = false := by simpa using k5
    by_cases k3 : k = 3
    · subst k3
      have H1 : Hid (r = true) := Lib.hid (by rw [HR.out]; rfl)
      clear k1 k2 k5
      go_enter Tryz.func39, Tryz.ntmps39
      go_wp2_with ((((with_reducible refine wl_box ?_ (fun K hK => ?_)); rfl; refine owp_box (o := ⟨some 1, _, _, _, _, _⟩) rfl st ?_; apply Exists.intro; refine ⟨?_, ?_⟩; (focus (go_simp; try rfl)); (clear st; intro b1 w hb st; clear hb))); (try simp only [nsl, Value.cells, unB] at st); (try clear hc); have hc := st.facts; (try simp only [nfl, nft, Nat.reduceAdd] at hc))
      refine Rg4.wp_region4 (Rel := Ext) #[0, 1, 0, 7, 15]
        [(1, .val (bv))] [3] [0, 2] (fun _ => True) [0, 1, 2, 3, 4] (by kernel_rfl) (by kernel_rfl) (by kernel_rfl) (by kernel_rfl) Ext.refl (fun _ _ _ => Ext.trans) (show Rg4.PB _ by repeat (first | with_reducible exact Rg4.pb_body | with_reducible exact Rg4.pb_bodyD rfl | with_reducible refine Rg4.pb_then ?_ | with_reducible refine Rg4.pb_inBlock ?_ | with_reducible refine Rg4.pb_noGoto ?_)) (trivial) ?_
      replace st := st.drew
      change Rg4.wp4 _ _ _ _ _ _ _ _ _ (World.drew _) _ _
      generalize World.drew _ = w at st ⊢
      (try clear hc); have hc := st.facts; (try simp only [nfl, nft, Nat.reduceAdd] at hc)
      (refine Rg4.w4_read (Rg4.want_none rfl) rfl rfl ?_; apply Exists.intro; refine ⟨fun w' hw' hcl' => ?_, ?_⟩; focus (have st' := st.ext hw'; have hc' := st'.facts; (try simp only [nfl, nft, Nat.reduceAdd] at hc'); (focus (first | (go_simp; done) | (go_simp; first | rfl | (rw [if_neg] <;> first | rfl | omega) | (rw [if_pos] <;> first | rfl | omega))))); (try simp only [Rg4.nrm]))
      refine Rg4.w4_some (Rg4.want_none rfl) rfl (fun w' hw' hcl' _ => ?_) ?_
      · refine Rg.relAt_call (by go_simp; exact ⟨rfl, rfl⟩) ?_
        refine (HB.out _).mono ?_
        rintro en w'' ⟨rfl, hx⟩
        exact ⟨_, rfl, hx, trivial, rfl⟩
      rintro v ⟨_, _, _, rfl⟩
      (try simp only [Rg4.nrm])
      (refine Rg4.w4_read (Rg4.want_none rfl) rfl rfl ?_; apply Exists.intro; refine ⟨fun w' hw' hcl' => ?_, ?_⟩; focus (have st' := st.ext hw'; have hc' := st'.facts; (try simp only [nfl, nft, Nat.reduceAdd] at hc'); (focus (first | (go_simp; done) | (go_simp; first | rfl | (rw [if_neg] <;> first | rfl | omega) | (rw [if_pos] <;> first | rfl | omega))))); (try simp only [Rg4.nrm]))
      refine Rg4.w4_bar (Rg4.want_none rfl) rfl (fun w' hw' hcl _ K hK => ?_)
      replace st := st.ext hw'
      clear hw'
      (try clear hc); have hc := st.facts; (try simp only [nfl, nft, Nat.reduceAdd] at hc)
      go_wp2_with fail
      refine (HS.out _ st.ext0).mono ?_
      rintro en w ⟨rfl, hx⟩
      replace st := st.ext hx
      clear hx
      (try clear hc); have hc := st.facts; (try simp only [nfl, nft, Nat.reduceAdd] at hc)
      refine hK _ _ ⟨trivial, ?_⟩
      clear hK
      (try simp only [Rg4.nrm])
      (refine Rg4.w4_any (Rg4.want_none rfl) rfl ?_; apply Exists.intro; refine ⟨fun w' => ?_, ?_⟩; (focus (first | (go_simp; done) | (go_simp; first | rfl | (rw [if_neg] <;> first | rfl | omega) | (rw [if_pos] <;> first | rfl | omega)))); (try simp only [Rg4.nrm]))
      refine Rg4.w4_nil (fun w' hw' hcl' _ => ?_); replace st := st.ext hw'; clear hw' hcl'; (try clear hc); have hc := st.facts; (try simp only [nfl, nft, Nat.reduceAdd] at hc)
      go_wp2_with fail
      go_ret
      exact ⟨by rw [H1.out]; rfl, st.ext0⟩
    have k3b : (k == 3) = false := by simpa using k3
    by_cases k4 : k = 4
    · subst k4
      have H1 : Hid (r = true) := Lib.hid (by rw [HR.out]; rfl)
      clear k1 k2 k5 k3
      go_enter Tryz.func39, Tryz.ntmps39
      go_wp2_with ((((with_reducible refine wl_box ?_ (fun K hK => ?_)); rfl; refine owp_box (o := ⟨some 1, _, _, _, _, _⟩) rfl st ?_; apply Exists.intro; refine ⟨?_, ?_⟩; (focus (go_simp; try rfl)); (clear st; intro b1 w hb st; clear hb))); (try simp only [nsl, Value.cells, unB] at st); (try clear hc); have hc := st.facts; (try simp only [nfl, nft, Nat.reduceAdd] at hc))
      refine Rg4.wp_region4 (Rel := Ext) #[0, 1, 0, 7, 15]
        [(1, .val (bv))] [3] [0, 2] (fun _ => True) [0, 1, 2, 3, 4] (by kernel_rfl) (by kernel_rfl) (by kernel_rfl) (by kernel_rfl) Ext.refl (fun _ _ _ => Ext.trans) (show Rg4.PB _ by repeat (first | with_reducible exact Rg4.pb_body | with_reducible exact Rg4.pb_bodyD rfl | with_reducible refine Rg4.pb_then ?_ | with_reducible refine Rg4.pb_inBlock ?_ | with_reducible refine Rg4.pb_noGoto ?_)) (trivial) ?_
      replace st := st.drew
      change Rg4.wp4 _ _ _ _ _ _ _ _ _ (World.drew _) _ _
      generalize World.drew _ = w at st ⊢
      (try clear hc); have hc := st.facts; (try simp only [nfl, nft, Nat.reduceAdd] at hc)
      (refine Rg4.w4_read (Rg4.want_none rfl) rfl rfl ?_; apply Exists.intro; refine ⟨fun w' hw' hcl' => ?_, ?_⟩; focus (have st' := st.ext hw'; have hc' := st'.facts; (try simp only [nfl, nft, Nat.reduceAdd] at hc'); (focus (first | (go_simp; done) | (go_simp; first | rfl | (rw [if_neg] <;> first | rfl | omega) | (rw [if_pos] <;> first | rfl | omega))))); (try simp only [Rg4.nrm]))
      refine Rg4.w4_some (Rg4.want_none rfl) rfl (fun w' hw' hcl' _ => ?_) ?_
      · refine Rg.relAt_call (by go_simp; exact ⟨rfl, rfl⟩) ?_
        refine (HB.out _).mono ?_
        rintro en w'' ⟨rfl, hx⟩
        exact ⟨_, rfl, hx, trivial, rfl⟩
      rintro v ⟨_, _, _, rfl⟩
      (try simp only [Rg4.nrm])
      (refine Rg4.w4_read (Rg4.want_none rfl) rfl rfl ?_; apply Exists.intro; refine ⟨fun w' hw' hcl' => ?_, ?_⟩; focus (have st' := st.ext hw'; have hc' := st'.facts; (try simp only [nfl, nft, Nat.reduceAdd] at hc'); (focus (first | (go_simp; done) | (go_simp; first | rfl | (rw [if_neg] <;> first | rfl | omega) | (rw [if_pos] <;> first | rfl | omega))))); (try simp only [Rg4.nrm]))
      refine Rg4.w4_bar (Rg4.want_none rfl) rfl (fun w' hw' hcl _ K hK => ?_)
      replace st := st.ext hw'
      clear hw'
      (try clear hc); have hc := st.facts; (try simp only [nfl, nft, Nat.reduceAdd] at hc)
      go_wp2_with fail
      refine (HS.out _ st.ext0).mono ?_
      rintro en w ⟨rfl, hx⟩
      replace st := st.ext hx
      clear hx
      (try clear hc); have hc := st.facts; (try simp only [nfl, nft, Nat.reduceAdd] at hc)
      refine hK _ _ ⟨trivial, ?_⟩
      clear hK
      (try simp only [Rg4.nrm])
      (refine Rg4.w4_any (Rg4.want_none rfl) rfl ?_; apply Exists.intro; refine ⟨fun w' => ?_, ?_⟩; (focus (first | (go_simp; done) | (go_simp; first | rfl | (rw [if_neg] <;> first | rfl | omega) | (rw [if_pos] <;> first | rfl | omega)))); (try simp only [Rg4.nrm]))
      refine Rg4.w4_nil (fun w' hw' hcl' _ => ?_); replace st := st.ext hw'; clear hw' hcl'; (try clear hc); have hc := st.facts; (try simp only [nfl, nft, Nat.reduceAdd] at hc)
      go_wp2_with fail
      go_ret
      exact ⟨by rw [H1.out]; rfl, st.ext0⟩
    have k4b : (k == 4) = false := by simpa using k4
    have H1 : Hid (r = false) := Lib.hid (by rw [HR.out, if_neg k1, if_neg k2, if_neg k5, decide_eq_false k3, decide_eq_false k4]; rfl)
    clear k1 k2 k5 k3 k4
    go_enter Tryz.func39, Tryz.ntmps39
    go_wp2_with ((((with_reducible refine wl_box ?_ (fun K hK => ?_)); rfl; refine owp_box (o := ⟨some 1, _, _, _, _, _⟩) rfl st ?_; apply Exists.intro; refine ⟨?_, ?_⟩; (focus (go_simp; try rfl)); (clear st; intro b1 w hb st; clear hb))); (try simp only [nsl, Value.cells, unB] at st); (try clear hc); have hc := st.facts; (try simp only [nfl, nft, Nat.reduceAdd] at hc))
    refine Rg4.wp_region4 (Rel := Ext) #[0, 1, 0, 7, 15]
      [(1, .val (bv))] [3] [0, 2] (fun _ => True) [0, 1, 2, 3, 4] (by kernel_rfl) (by kernel_rfl) (by kernel_rfl) (by kernel_rfl) Ext.refl (fun _ _ _ => Ext.trans) (show Rg4.PB _ by repeat (first | with_reducible exact Rg4.pb_body | with_reducible exact Rg4.pb_bodyD rfl | with_reducible refine Rg4.pb_then ?_ | with_reducible refine Rg4.pb_inBlock ?_ | with_reducible refine Rg4.pb_noGoto ?_)) (trivial) ?_
    replace st := st.drew
    change Rg4.wp4 _ _ _ _ _ _ _ _ _ (World.drew _) _ _
    generalize World.drew _ = w at st ⊢
    (try clear hc); have hc := st.facts; (try simp only [nfl, nft, Nat.reduceAdd] at hc)
    (refine Rg4.w4_read (Rg4.want_none rfl) rfl rfl ?_; apply Exists.intro; refine ⟨fun w' hw' hcl' => ?_, ?_⟩; focus (have st' := st.ext hw'; have hc' := st'.facts; (try simp only [nfl, nft, Nat.reduceAdd] at hc'); (focus (first | (go_simp; done) | (go_simp; first | rfl | (rw [if_neg] <;> first | rfl | omega) | (rw [if_pos] <;> first | rfl | omega))))); (try simp only [Rg4.nrm]))
    refine Rg4.w4_some (Rg4.want_none rfl) rfl (fun w' hw' hcl' _ => ?_) ?_
    · refine Rg.relAt_call (by go_simp; exact ⟨rfl, rfl⟩) ?_
      refine (HB.out _).mono ?_
      rintro en w'' ⟨rfl, hx⟩
      exact ⟨_, rfl, hx, trivial, rfl⟩
    rintro v ⟨_, _, _, rfl⟩
    (try simp only [Rg4.nrm])
    (refine Rg4.w4_read (Rg4.want_none rfl) rfl rfl ?_; apply Exists.intro; refine ⟨fun w' hw' hcl' => ?_, ?_⟩; focus (have st' := st.ext hw'; have hc' := st'.facts; (try simp only [nfl, nft, Nat.reduceAdd] at hc'); (focus (first | (go_simp; done) | (go_simp; first | rfl | (rw [if_neg] <;> first | rfl | omega) | (rw [if_pos] <;> first | rfl | omega))))); (try simp only [Rg4.nrm]))
    refine Rg4.w4_bar (Rg4.want_none rfl) rfl (fun w' hw' hcl _ K hK => ?_)
    replace st := st.ext hw'
    clear hw'
    (try clear hc); have hc := st.facts; (try simp only [nfl, nft, Nat.reduceAdd] at hc)
    go_wp2_with fail
    refine (HS.out _ st.ext0).mono ?_
    rintro en w ⟨rfl, hx⟩
    replace st := st.ext hx
    clear hx
    (try clear hc); have hc := st.facts; (try simp only [nfl, nft, Nat.reduceAdd] at hc)
    refine hK _ _ ⟨trivial, ?_⟩
    clear hK
    (try simp only [Rg4.nrm])
    (refine Rg4.w4_any (Rg4.want_none rfl) rfl ?_; apply Exists.intro; refine ⟨fun w' => ?_, ?_⟩; (focus (first | (go_simp; done) | (go_simp; first | rfl | (rw [if_neg] <;> first | rfl | omega) | (rw [if_pos] <;> first | rfl | omega)))); (try simp only [Rg4.nrm]))
    refine Rg4.w4_nil (fun w' hw' hcl' _ => ?_); replace st := st.ext hw'; clear hw' hcl'; (try clear hc); have hc := st.facts; (try simp only [nfl, nft, Nat.reduceAdd] at hc)
    go_wp2_with fail
    go_ret
    exact ⟨by rw [H1.out]; rfl, st.ext0⟩
end Go.Proofs.YtekngjkjgmplpaaGreat

namespace Go.Proofs.YtekngjkjgmplpaaGreat
set_option linter.unusedSimpArgs false
set_option linter.unusedVariables false
open Go Go.RowKit
theorem penBytesRow_c {fr al : Nat → Prop} {w : World} {p : Nat} {xs : List UInt8} (st : Own fr al w [penI p xs] w) (hl : xs.length ≤ 100000000000000) :
    Calls Tryz.prog 44 #[.pointer (some ⟨p, 0, none⟩)] w fun e w' => ∃ a c, e = .returned (.slice a xs.length c) ∧ (xs.length ≤ c ∧ c ≤ maxLen) ∧ Own fr al w [penI p xs, rowI 5 1 (.slice a xs.length c) xs.length (xs.map B)] w' := by
  obtain ⟨g, hp⟩ := st.pen (i := 0) rfl
  refine (penBytes_own p g xs w hp hl).mono ?_
  rintro e w' ⟨v, rfl, h, hx⟩
  obtain ⟨a, m, c, rfl, h1, h2, h3⟩ := own_by h
  obtain rfl : m = xs.length := h3.1
  refine ⟨a, c, rfl, ⟨h1, h2⟩, ?_⟩
  have := st.new (I := rowI 5 1 (.slice a xs.length c) xs.length (xs.map B)) hx (e' := fun b => (Value.slice a xs.length c).ownBlock = some b) (s' := fun _ => False) ⟨h.mono (Nat.zero_le _), fun k hk => hk⟩ (fun b hb => ⟨(h.lt b hb).2, (h.lt b hb).1⟩) (fun _ q => q.elim) (fun _ _ q => q)
  simpa using this
theorem FreshI.by {w w' : World} {a : Option Addr} {n c : Nat} {xs : List UInt8} (h : FreshI w w' (rowI 5 1 (.slice a n c) n (xs.map B))) : (n ≤ c ∧ c ≤ maxLen) ∧ By w' a n xs := by
  obtain ⟨_, e, ⟨h1, _⟩, _⟩ := h
  obtain ⟨a', m, c', hv, h2, h3, h4⟩ := own_by h1
  injection hv with q1 q2 q3
  subst q1 q2 q3
  exact ⟨⟨h2, h3⟩, h4⟩
theorem Own.rowBy {fr al : Nat → Prop} {w0 w : World} {L : List It} (st : Own fr al w0 L w) {i : Nat} {a : Option Addr} {n c : Nat} {xs : List UInt8} (hi : L[i]? = some (rowI 5 1 (.slice a n c) n (xs.map B))) : (n ≤ c ∧ c ≤ maxLen) ∧ By w a n xs := by
  obtain ⟨a', m, c', hv, h2, h3, h4⟩ := own_by (st.row hi)
  injection hv with q1 q2 q3
  subst q1 q2 q3
  exact ⟨⟨h2, h3⟩, h4⟩
set_option maxRecDepth 100000 in
set_option maxHeartbeats 1000000 in
theorem credBytes_f (x : CredT) (W : World) (hl : CredL 100000 x) :
    Calls Tryz.prog 24 #[cV x] W fun e w' => ∃ a n c, e = .returned (.slice a n c) ∧ FreshI W w' (rowI 5 1 (.slice a n c) n ((credBy x).map B)) := by
  have HR := Lib.hid (fun W => credRight_any x W (by unfold CredL at hl; omega))
  have HE := Lib.hid (show credBy x = if credR x = true then credB x else [] from rfl)
  generalize credBy x = r at *
  cases hr : credR x with
  | false =>
    have H := Lib.hid hr
    obtain ⟨k, ⟨ho, hd⟩, nw, ⟨bo, bd⟩, ⟨co, cd⟩, we⟩ := x
    clear hl hr
    have st := Own.startOld W
    unfold cV S at *
    simp only at HR
    (try simp only [nsl, Value.cells, unB] at st)
    (try clear hc); have hc := st.facts; (try simp only [nfl, nft, Nat.reduceAdd] at hc)
    go_enter Tryz.func24, Tryz.ntmps24
    go_wp2_with ((((with_reducible refine wl_box ?_ (fun K hK => ?_)); rfl; refine owp_box (o := ⟨some 1, _, _, _, _, _⟩) rfl st ?_; apply Exists.intro; refine ⟨?_, ?_⟩; (focus (go_simp; try rfl)); (clear st; intro b1 w hb st; clear hb))); (try simp only [nsl, Value.cells, unB] at st); (try clear hc); have hc := st.facts; (try simp only [nfl, nft, Nat.reduceAdd] at hc))
    refine (HR.out _).mono ?_
    rintro en w ⟨rfl, hx⟩
    replace st := st.ext hx
    clear hx
    (try clear hc); have hc := st.facts; (try simp only [nfl, nft, Nat.reduceAdd] at hc)
    rw [H.out]
    go_wp2_with fail
    go_ret
    exact ⟨none, 0, 0, rfl, by rw [HE.out, H.out]; exact (st.row_nil 5 1).toFresh (i := 2) get2⟩
  | true =>
    obtain ⟨hh, hcs⟩ := credR_cases hr
    have H := Lib.hid hr
    obtain ⟨k, ⟨ho, hd⟩, nw, ⟨bo, bd⟩, ⟨co, cd⟩, we⟩ := x
    simp only at hh hcs
    have hb1 := roleB_len hh
    have HH := Lib.hid hh
    clear hl hr hh
    have st := Own.startOld W
    unfold cV S at *
    simp only at HR
    (try simp only [nsl, Value.cells, unB] at st)
    (try clear hc); have hc := st.facts; (try simp only [nfl, nft, Nat.reduceAdd] at hc)
    rcases hcs with ⟨rfl, hw, -, -, -⟩ | ⟨-, hbr, ⟨rfl, -, -⟩ | ⟨rfl, -, -, he⟩ | ⟨rfl, -, hcr, -⟩⟩
    · have hl2 := (nameR_len hw).2
      have hb2 : (numB nw.length).length ≤ 10 := numF_len 10 nw.length
      have hnk : (numB 1).length = 1 := by decide +kernel
      have HW := Lib.hid hw
      clear hw
      go_enter Tryz.func24, Tryz.ntmps24
      go_wp2_with ((((with_reducible refine wl_box ?_ (fun K hK => ?_)); rfl; refine owp_box (o := ⟨some 1, _, _, _, _, _⟩) rfl st ?_; apply Exists.intro; refine ⟨?_, ?_⟩; (focus (go_simp; try rfl)); (clear st; intro b1 w hb st; clear hb))); (try simp only [nsl, Value.cells, unB] at st); (try clear hc); have hc := st.facts; (try simp only [nfl, nft, Nat.reduceAdd] at hc))
      refine (HR.out _).mono ?_
      rintro en w ⟨rfl, hx⟩
      replace st := st.ext hx
      clear hx
      (try clear hc); have hc := st.facts; (try simp only [nfl, nft, Nat.reduceAdd] at hc)
      rw [H.out]
      go_wp2_with ((((with_reducible refine wl_box ?_ (fun K hK => ?_)); rfl; refine owp_box (o := ⟨some 8, _, _, _, _, _⟩) rfl st ?_; apply Exists.intro; refine ⟨?_, ?_⟩; (focus (go_simp; try rfl)); (clear st; intro b8 w hb st; clear hb))); (try simp only [nsl, Value.cells, unB] at st); (try clear hc); have hc := st.facts; (try simp only [nfl, nft, Nat.reduceAdd] at hc))
      replace st := st.newPen (i := 2) get2
      (try simp only [nsl, Value.cells, unB] at st)
      (try clear hc); have hc := st.facts; (try simp only [nfl, nft, Nat.reduceAdd] at hc)
      obtain ⟨fr', al', st', back⟩ := st.sub [2] (by decide) (by simp)
      (try simp only [nsl, Value.cells, unB] at st')
      refine (penNumber_c st' 1 (by decide) (by simp)).mono ?_
      clear st'
      rintro en w ⟨rfl, st'⟩
      replace st := back _ _ (by simp) st'
      clear back st'
      (try simp only [nsl, Value.cells, unB] at st)
      (try clear hc); have hc := st.facts; (try simp only [nfl, nft, Nat.reduceAdd] at hc)
      go_wp2_with fail
      (try rw [List.nil_append] at st)
      obtain ⟨fr', al', st', back⟩ := st.sub [2] (by decide) (by simp)
      (try simp only [nsl, Value.cells, unB] at st')
      refine (rolePut_yes st' (ho, hd) HH.out (by omega)).mono ?_
      clear st'
      rintro en w ⟨rfl, st'⟩
      replace st := back _ _ (by simp) st'
      clear back st'
      (try simp only [nsl, Value.cells, unB] at st)
      (try clear hc); have hc := st.facts; (try simp only [nfl, nft, Nat.reduceAdd] at hc)
      go_wp2_with fail
      obtain ⟨fr', al', st', back⟩ := st.sub [2] (by decide) (by simp)
      (try simp only [nsl, Value.cells, unB] at st')
      refine (namePut_yes st' nw HW.out (by simp; omega)).mono ?_
      clear st'
      rintro en w ⟨rfl, st'⟩
      replace st := back _ _ (by simp) st'
      clear back st'
      (try simp only [nsl, Value.cells, unB] at st)
      (try clear hc); have hc := st.facts; (try simp only [nfl, nft, Nat.reduceAdd] at hc)
      obtain ⟨u, hu⟩ : ∃ u, (numB 1 ++ roleB (ho, hd) ++ (numB nw.length ++ nw)) = u := ⟨_, rfl⟩
      rw [hu] at st
      have HU : Hid (r = u) := Lib.hid (by rw [HE.out, if_pos H.out, ← hu]; simp [credB])
      have hul : u.length ≤ 300 := by rw [← hu]; simp; omega
      clear hu
      go_wp2_with fail
      obtain ⟨fr', al', st', back⟩ := st.sub [2] (by decide) (by simp)
      (try simp only [nsl, Value.cells, unB] at st')
      refine (penBytesRow_c st' (by omega)).mono ?_
      clear st'
      rintro en w ⟨pa, pc, rfl, hpc, st'⟩
      replace st := back _ _ (by simp) st'
      clear back st'
      (try simp only [nsl, Value.cells, unB] at st)
      (try clear hc); have hc := st.facts; (try simp only [nfl, nft, Nat.reduceAdd] at hc)
      go_wp2_with fail
      go_ret
      exact ⟨_, _, _, rfl, by rw [HU.out]; exact st.toFresh (i := 3) get3⟩
    · have hb2 := roleB_len hbr
      have HW := Lib.hid hbr
      have hnk : (numB 2).length = 1 := by decide +kernel
      clear hbr
      go_enter Tryz.func24, Tryz.ntmps24
      go_wp2_with ((((with_reducible refine wl_box ?_ (fun K hK => ?_)); rfl; refine owp_box (o := ⟨some 1, _, _, _, _, _⟩) rfl st ?_; apply Exists.intro; refine ⟨?_, ?_⟩; (focus (go_simp; try rfl)); (clear st; intro b1 w hb st; clear hb))); (try simp only [nsl, Value.cells, unB] at st); (try clear hc); have hc := st.facts; (try simp only [nfl, nft, Nat.reduceAdd] at hc))
      refine (HR.out _).mono ?_
      rintro en w ⟨rfl, hx⟩
      replace st := st.ext hx
      clear hx
      (try clear hc); have hc := st.facts; (try simp only [nfl, nft, Nat.reduceAdd] at hc)
      rw [H.out]
      go_wp2_with ((((with_reducible refine wl_box ?_ (fun K hK => ?_)); rfl; refine owp_box (o := ⟨some 8, _, _, _, _, _⟩) rfl st ?_; apply Exists.intro; refine ⟨?_, ?_⟩; (focus (go_simp; try rfl)); (clear st; intro b8 w hb st; clear hb))); (try simp only [nsl, Value.cells, unB] at st); (try clear hc); have hc := st.facts; (try simp only [nfl, nft, Nat.reduceAdd] at hc))
      replace st := st.newPen (i := 2) get2
      (try simp only [nsl, Value.cells, unB] at st)
      (try clear hc); have hc := st.facts; (try simp only [nfl, nft, Nat.reduceAdd] at hc)
      obtain ⟨fr', al', st', back⟩ := st.sub [2] (by decide) (by simp)
      (try simp only [nsl, Value.cells, unB] at st')
      refine (penNumber_c st' 2 (by decide) (by simp)).mono ?_
      clear st'
      rintro en w ⟨rfl, st'⟩
      replace st := back _ _ (by simp) st'
      clear back st'
      (try simp only [nsl, Value.cells, unB] at st)
      (try clear hc); have hc := st.facts; (try simp only [nfl, nft, Nat.reduceAdd] at hc)
      go_wp2_with fail
      (try rw [List.nil_append] at st)
      obtain ⟨fr', al', st', back⟩ := st.sub [2] (by decide) (by simp)
      (try simp only [nsl, Value.cells, unB] at st')
      refine (rolePut_yes st' (ho, hd) HH.out (by omega)).mono ?_
      clear st'
      rintro en w ⟨rfl, st'⟩
      replace st := back _ _ (by simp) st'
      clear back st'
      (try simp only [nsl, Value.cells, unB] at st)
      (try clear hc); have hc := st.facts; (try simp only [nfl, nft, Nat.reduceAdd] at hc)
      go_wp2_with fail
      obtain ⟨fr', al', st', back⟩ := st.sub [2] (by decide) (by simp)
      (try simp only [nsl, Value.cells, unB] at st')
      refine (rolePut_yes st' (bo, bd) HW.out (by simp; omega)).mono ?_
      clear st'
      rintro en w ⟨rfl, st'⟩
      replace st := back _ _ (by simp) st'
      clear back st'
      (try simp only [nsl, Value.cells, unB] at st)
      (try clear hc); have hc := st.facts; (try simp only [nfl, nft, Nat.reduceAdd] at hc)
      obtain ⟨u, hu⟩ : ∃ u, (numB 2 ++ roleB (ho, hd) ++ roleB (bo, bd)) = u := ⟨_, rfl⟩
      rw [hu] at st
      have HU : Hid (r = u) := Lib.hid (by rw [HE.out, if_pos H.out, ← hu]; simp [credB])
      have hul : u.length ≤ 300 := by rw [← hu]; simp; omega
      clear hu
      go_wp2_with fail
      obtain ⟨fr', al', st', back⟩ := st.sub [2] (by decide) (by simp)
      (try simp only [nsl, Value.cells, unB] at st')
      refine (penBytesRow_c st' (by omega)).mono ?_
      clear st'
      rintro en w ⟨pa, pc, rfl, hpc, st'⟩
      replace st := back _ _ (by simp) st'
      clear back st'
      (try simp only [nsl, Value.cells, unB] at st)
      (try clear hc); have hc := st.facts; (try simp only [nfl, nft, Nat.reduceAdd] at hc)
      go_wp2_with fail
      go_ret
      exact ⟨_, _, _, rfl, by rw [HU.out]; exact st.toFresh (i := 3) get3⟩
    · have hb2 := roleB_len hbr
      have HW := Lib.hid hbr
      have HN := Lib.hid he
      have hl2 := (nameR_len he).2
      have hb3 : (numB we.length).length ≤ 10 := numF_len 10 we.length
      have hnk : (numB 3).length = 1 := by decide +kernel
      clear hbr he
      go_enter Tryz.func24, Tryz.ntmps24
      go_wp2_with ((((with_reducible refine wl_box ?_ (fun K hK => ?_)); rfl; refine owp_box (o := ⟨some 1, _, _, _, _, _⟩) rfl st ?_; apply Exists.intro; refine ⟨?_, ?_⟩; (focus (go_simp; try rfl)); (clear st; intro b1 w hb st; clear hb))); (try simp only [nsl, Value.cells, unB] at st); (try clear hc); have hc := st.facts; (try simp only [nfl, nft, Nat.reduceAdd] at hc))
      refine (HR.out _).mono ?_
      rintro en w ⟨rfl, hx⟩
      replace st := st.ext hx
      clear hx
      (try clear hc); have hc := st.facts; (try simp only [nfl, nft, Nat.reduceAdd] at hc)
      rw [H.out]
      go_wp2_with ((((with_reducible refine wl_box ?_ (fun K hK => ?_)); rfl; refine owp_box (o := ⟨some 8, _, _, _, _, _⟩) rfl st ?_; apply Exists.intro; refine ⟨?_, ?_⟩; (focus (go_simp; try rfl)); (clear st; intro b8 w hb st; clear hb))); (try simp only [nsl, Value.cells, unB] at st); (try clear hc); have hc := st.facts; (try simp only [nfl, nft, Nat.reduceAdd] at hc))
      replace st := st.newPen (i := 2) get2
      (try simp only [nsl, Value.cells, unB] at st)
      (try clear hc); have hc := st.facts; (try simp only [nfl, nft, Nat.reduceAdd] at hc)
      obtain ⟨fr', al', st', back⟩ := st.sub [2] (by decide) (by simp)
      (try simp only [nsl, Value.cells, unB] at st')
      refine (penNumber_c st' 3 (by decide) (by simp)).mono ?_
      clear st'
      rintro en w ⟨rfl, st'⟩
      replace st := back _ _ (by simp) st'
      clear back st'
      (try simp only [nsl, Value.cells, unB] at st)
      (try clear hc); have hc := st.facts; (try simp only [nfl, nft, Nat.reduceAdd] at hc)
      go_wp2_with fail
      (try rw [List.nil_append] at st)
      obtain ⟨fr', al', st', back⟩ := st.sub [2] (by decide) (by simp)
      (try simp only [nsl, Value.cells, unB] at st')
      refine (rolePut_yes st' (ho, hd) HH.out (by omega)).mono ?_
      clear st'
      rintro en w ⟨rfl, st'⟩
      replace st := back _ _ (by simp) st'
      clear back st'
      (try simp only [nsl, Value.cells, unB] at st)
      (try clear hc); have hc := st.facts; (try simp only [nfl, nft, Nat.reduceAdd] at hc)
      go_wp2_with fail
      obtain ⟨fr', al', st', back⟩ := st.sub [2] (by decide) (by simp)
      (try simp only [nsl, Value.cells, unB] at st')
      refine (rolePut_yes st' (bo, bd) HW.out (by simp; omega)).mono ?_
      clear st'
      rintro en w ⟨rfl, st'⟩
      replace st := back _ _ (by simp) st'
      clear back st'
      (try simp only [nsl, Value.cells, unB] at st)
      (try clear hc); have hc := st.facts; (try simp only [nfl, nft, Nat.reduceAdd] at hc)
      go_wp2_with fail
      obtain ⟨fr', al', st', back⟩ := st.sub [2] (by decide) (by simp)
      (try simp only [nsl, Value.cells, unB] at st')
      refine (namePut_yes st' we HN.out (by simp; omega)).mono ?_
      clear st'
      rintro en w ⟨rfl, st'⟩
      replace st := back _ _ (by simp) st'
      clear back st'
      (try simp only [nsl, Value.cells, unB] at st)
      (try clear hc); have hc := st.facts; (try simp only [nfl, nft, Nat.reduceAdd] at hc)
      obtain ⟨u, hu⟩ : ∃ u, (numB 3 ++ roleB (ho, hd) ++ roleB (bo, bd) ++ (numB we.length ++ we)) = u := ⟨_, rfl⟩
      rw [hu] at st
      have HU : Hid (r = u) := Lib.hid (by rw [HE.out, if_pos H.out, ← hu]; simp [credB])
      have hul : u.length ≤ 300 := by rw [← hu]; simp; omega
      clear hu
      go_wp2_with fail
      obtain ⟨fr', al', st', back⟩ := st.sub [2] (by decide) (by simp)
      (try simp only [nsl, Value.cells, unB] at st')
      refine (penBytesRow_c st' (by omega)).mono ?_
      clear st'
      rintro en w ⟨pa, pc, rfl, hpc, st'⟩
      replace st := back _ _ (by simp) st'
      clear back st'
      (try simp only [nsl, Value.cells, unB] at st)
      (try clear hc); have hc := st.facts; (try simp only [nfl, nft, Nat.reduceAdd] at hc)
      go_wp2_with fail
      go_ret
      exact ⟨_, _, _, rfl, by rw [HU.out]; exact st.toFresh (i := 3) get3⟩
    · have hb2 := roleB_len hbr
      have hb3 := roleB_len hcr
      have HW := Lib.hid hbr
      have HN := Lib.hid hcr
      have hnk : (numB 4).length = 1 := by decide +kernel
      clear hbr hcr
      go_enter Tryz.func24, Tryz.ntmps24
      go_wp2_with ((((with_reducible refine wl_box ?_ (fun K hK => ?_)); rfl; refine owp_box (o := ⟨some 1, _, _, _, _, _⟩) rfl st ?_; apply Exists.intro; refine ⟨?_, ?_⟩; (focus (go_simp; try rfl)); (clear st; intro b1 w hb st; clear hb))); (try simp only [nsl, Value.cells, unB] at st); (try clear hc); have hc := st.facts; (try simp only [nfl, nft, Nat.reduceAdd] at hc))
      refine (HR.out _).mono ?_
      rintro en w ⟨rfl, hx⟩
      replace st := st.ext hx
      clear hx
      (try clear hc); have hc := st.facts; (try simp only [nfl, nft, Nat.reduceAdd] at hc)
      rw [H.out]
      go_wp2_with ((((with_reducible refine wl_box ?_ (fun K hK => ?_)); rfl; refine owp_box (o := ⟨some 8, _, _, _, _, _⟩) rfl st ?_; apply Exists.intro; refine ⟨?_, ?_⟩; (focus (go_simp; try rfl)); (clear st; intro b8 w hb st; clear hb))); (try simp only [nsl, Value.cells, unB] at st); (try clear hc); have hc := st.facts; (try simp only [nfl, nft, Nat.reduceAdd] at hc))
      replace st := st.newPen (i := 2) get2
      (try simp only [nsl, Value.cells, unB] at st)
      (try clear hc); have hc := st.facts; (try simp only [nfl, nft, Nat.reduceAdd] at hc)
      obtain ⟨fr', al', st', back⟩ := st.sub [2] (by decide) (by simp)
      (try simp only [nsl, Value.cells, unB] at st')
      refine (penNumber_c st' 4 (by decide) (by simp)).mono ?_
      clear st'
      rintro en w ⟨rfl, st'⟩
      replace st := back _ _ (by simp) st'
      clear back st'
      (try simp only [nsl, Value.cells, unB] at st)
      (try clear hc); have hc := st.facts; (try simp only [nfl, nft, Nat.reduceAdd] at hc)
      go_wp2_with fail
      (try rw [List.nil_append] at st)
      obtain ⟨fr', al', st', back⟩ := st.sub [2] (by decide) (by simp)
      (try simp only [nsl, Value.cells, unB] at st')
      refine (rolePut_yes st' (ho, hd) HH.out (by omega)).mono ?_
      clear st'
      rintro en w ⟨rfl, st'⟩
      replace st := back _ _ (by simp) st'
      clear back st'
      (try simp only [nsl, Value.cells, unB] at st)
      (try clear hc); have hc := st.facts; (try simp only [nfl, nft, Nat.reduceAdd] at hc)
      go_wp2_with fail
      obtain ⟨fr', al', st', back⟩ := st.sub [2] (by decide) (by simp)
      (try simp only [nsl, Value.cells, unB] at st')
      refine (rolePut_yes st' (bo, bd) HW.out (by simp; omega)).mono ?_
      clear st'
      rintro en w ⟨rfl, st'⟩
      replace st := back _ _ (by simp) st'
      clear back st'
      (try simp only [nsl, Value.cells, unB] at st)
      (try clear hc); have hc := st.facts; (try simp only [nfl, nft, Nat.reduceAdd] at hc)
      go_wp2_with fail
      obtain ⟨fr', al', st', back⟩ := st.sub [2] (by decide) (by simp)
      (try simp only [nsl, Value.cells, unB] at st')
      refine (rolePut_yes st' (co, cd) HN.out (by simp; omega)).mono ?_
      clear st'
      rintro en w ⟨rfl, st'⟩
      replace st := back _ _ (by simp) st'
      clear back st'
      (try simp only [nsl, Value.cells, unB] at st)
      (try clear hc); have hc := st.facts; (try simp only [nfl, nft, Nat.reduceAdd] at hc)
      obtain ⟨u, hu⟩ : ∃ u, (numB 4 ++ roleB (ho, hd) ++ roleB (bo, bd) ++ roleB (co, cd)) = u := ⟨_, rfl⟩
      rw [hu] at st
      have HU : Hid (r = u) := Lib.hid (by rw [HE.out, if_pos H.out, ← hu]; simp [credB])
      have hul : u.length ≤ 300 := by rw [← hu]; simp; omega
      clear hu
      go_wp2_with fail
      obtain ⟨fr', al', st', back⟩ := st.sub [2] (by decide) (by simp)
      (try simp only [nsl, Value.cells, unB] at st')
      refine (penBytesRow_c st' (by omega)).mono ?_
      clear st'
      rintro en w ⟨pa, pc, rfl, hpc, st'⟩
      replace st := back _ _ (by simp) st'
      clear back st'
      (try simp only [nsl, Value.cells, unB] at st)
      (try clear hc); have hc := st.facts; (try simp only [nfl, nft, Nat.reduceAdd] at hc)
      go_wp2_with fail
      go_ret
      exact ⟨_, _, _, rfl, by rw [HU.out]; exact st.toFresh (i := 3) get3⟩
end Go.Proofs.YtekngjkjgmplpaaGreat
