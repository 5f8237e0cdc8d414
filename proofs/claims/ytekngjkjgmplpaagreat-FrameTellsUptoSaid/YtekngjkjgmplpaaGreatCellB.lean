/- Messages written: keys.Put, msg.Put, msg.Bytes; Empty. -/
import Derived.Test.YtekngjkjgmplpaaGreatMsgB
import Derived.Test.YtekngjkjgmplpaaGreatCredDF
import Derived.Test.YtekngjkjgmplpaaGreatRow
import Derived.Test.YtekngjkjgmplpaaGreatRows
import Derived.Laws.BitsAllLaws
namespace Go.Proofs.YtekngjkjgmplpaaGreat
set_option linter.unusedSimpArgs false
set_option linter.unusedVariables false
open Go Go.RowKit
def sgB (x : SgnT) : List UInt8 := credB x.c ++ (numB x.n ++ x.xs)
def mgB (x : MsgT) : List UInt8 := numB x.k.toNat ++
  (if x.k = 1 then (numB x.nm.length ++ x.nm) ++ numB x.p.toNat else if x.k = 2 then numB x.wn ++ x.ws.flatMap roleB ++ numB x.sn ++ x.ss.flatMap sgB else if x.k = 5 then numB x.e.toNat else [])
/-- The bytes of any message. -/
def mgBy (x : MsgT) : List UInt8 := if mgR x = true then mgB x else []
theorem sgB_len {x : SgnT} (h : credR x.c = true) (hn : x.n = 8) (hx : x.n = x.xs.length) : (sgB x).length ≤ 400 := by
  have h1 := credB_len2 h
  have h2 : (numB x.n).length ≤ 10 := numF_len 10 x.n
  unfold sgB
  simp only [List.length_append]
  omega
theorem showsR_is {l : List SgnT} (h : showsR l = true) : l.length ≤ 8 ∧ ∀ x ∈ l, credR x.c = true ∧ x.n = 8 := by
  unfold showsR at h
  rw [Bool.and_eq_true, decide_eq_true_eq, List.all_eq_true] at h
  refine ⟨h.2, fun x hx => ?_⟩
  obtain ⟨j, hj, rfl⟩ := List.mem_iff_getElem.1 hx
  have := h.1 j (by simpa using hj)
  unfold shAt at this
  rw [List.getElem?_eq_getElem hj] at this
  simp only [Bool.and_eq_true, beq_iff_eq] at this
  exact ⟨this.1.1, this.1.2⟩
theorem wantsR_is {l : List Role} (h : wantsR l = true) : l.length ≤ 16 ∧ ∀ x ∈ l, roleR x = true := by
  unfold wantsR at h
  rw [Bool.and_eq_true, decide_eq_true_eq, decide_eq_true_eq] at h
  refine ⟨h.1, fun x hx => ?_⟩
  rw [← h.2] at hx
  exact ((roleSet_set l).2 x).1 hx |>.2
theorem mgR_k {x : MsgT} (h : mgR x = true) : kindR x = true ∧ (x.k = 1 ∨ x.k = 2 ∨ x.k = 3 ∨ x.k = 4 ∨ x.k = 5) := by
  unfold mgR at h
  rw [Bool.and_eq_true] at h
  refine ⟨h.2, ?_⟩
  have h2 := h.2
  unfold kindR at h2
  split at h2
  · exact .inl (by assumption)
  · split at h2
    · exact .inr (.inl (by assumption))
    · split at h2
      · exact .inr (.inr (.inr (.inr (by assumption))))
      · simp at h2
        rcases h2 with q | q
        · exact .inr (.inr (.inl q))
        · exact .inr (.inr (.inr (.inl q)))
theorem mgR_1 {x : MsgT} (h : mgR x = true) (k : x.k = 1) : nameR x.nm = true ∧ (x.p = 1 ∨ x.p = 2) := by
  have := (mgR_k h).1
  unfold kindR at this
  rw [if_pos k] at this
  simpa using this
theorem mgR_2 {x : MsgT} (h : mgR x = true) (k : x.k = 2) : wantsR x.ws = true ∧ showsR x.ss = true := by
  have := (mgR_k h).1
  unfold kindR at this
  rw [if_neg (by omega), if_pos k] at this
  simpa using this
theorem mgR_5 {x : MsgT} (h : mgR x = true) (k : x.k = 5) : 1 ≤ x.e ∧ x.e ≤ 99 := by
  have := (mgR_k h).1
  unfold kindR at this
  rw [if_neg (by omega), if_neg (by omega), if_pos k] at this
  simpa using this
theorem flatLen {α : Type} (f : α → List UInt8) (n : Nat) : ∀ l : List α, (∀ x ∈ l, (f x).length ≤ n) → (l.flatMap f).length ≤ n * l.length
  | [], _ => by simp
  | x :: l, h => by
    have h1 := h x (by simp)
    have h2 := flatLen f n l fun y hy => h y (by simp [hy])
    simp only [List.flatMap_cons, List.length_append, List.length_cons, Nat.mul_add, Nat.mul_one]
    omega
set_option maxRecDepth 100000 in
set_option maxHeartbeats 2000000 in
theorem keysPut_yes {fr al : Nat → Prop} {W : World} {p : Nat} {xs : List UInt8} (x : SgnT) (st : Own fr al W [penI p xs, byI x.a x.n x.xs] W) (hr : credR x.c = true) (hn : x.n = 8) (hl : xs.length ≤ 1000000) :
    Calls Tryz.prog 105 #[.pointer (some ⟨p, 0, none⟩), sgV x] W fun e w' => e = .returned (.bool true) ∧ Own fr al W [penI p (xs ++ sgB x), byI x.a x.n x.xs] w' := by
  have hb1 := credB_len2 hr
  have HC1 : Hid (credBy x.c = credB x.c) := Lib.hid (by unfold credBy; rw [if_pos hr])
  have HQ := Lib.hid (fun W => credBytes_f x.c W (credR_L hr))
  rw [HC1.out] at HQ
  have HCR := Lib.hid (fun W => credRight_any x.c W (credR_S hr))
  rw [hr] at HCR
  obtain ⟨u, hu⟩ : ∃ u, credB x.c = u := ⟨_, rfl⟩
  have HX : Hid (sgB x = u ++ (numB x.n ++ x.xs)) := Lib.hid (by rw [← hu]; rfl)
  rw [hu] at HQ hb1
  clear hu HC1 hr
  obtain ⟨⟨ck, ⟨ho, hd⟩, cw, ⟨bo, bd⟩, ⟨co, cd⟩, we⟩, a1, n1, m1, tg⟩ := x
  simp only at st hn HX
  subst hn
  unfold cV S at HQ HCR
  unfold sgV S
  simp only at HQ HCR ⊢
  (try simp only [nsl, Value.cells, unB] at st)
  (try clear hc); have hc := st.facts; (try simp only [nfl, nft, Nat.reduceAdd] at hc)
  go_enter Tryz.func105, Tryz.ntmps105
  go_wp2_with ((((with_reducible refine wl_box ?_ (fun K hK => ?_)); rfl; refine owp_box (o := ⟨some 3, _, _, _, _, _⟩) rfl st ?_; apply Exists.intro; refine ⟨?_, ?_⟩; (focus (go_simp; try rfl)); (clear st; intro b3 w hb st; clear hb))); (try simp only [nsl, Value.cells, unB] at st); (try clear hc); have hc := st.facts; (try simp only [nfl, nft, Nat.reduceAdd] at hc))
  refine (HCR.out _).mono ?_
  rintro en w ⟨rfl, hx⟩
  replace st := st.ext hx
  clear hx
  (try clear hc); have hc := st.facts; (try simp only [nfl, nft, Nat.reduceAdd] at hc)
  go_wp2_with fail
  refine (HQ.out _).mono ?_
  rintro en w ⟨pa, pn, pc, rfl, hfr⟩
  have hpn : pn = u.length := (hfr.by).2.1
  subst hpn
  replace st := st.fresh hfr
  clear hfr
  (try simp only [nsl, Value.cells, unB] at st)
  (try clear hc); have hc := st.facts; (try simp only [nfl, nft, Nat.reduceAdd] at hc)
  replace st := st.freezeRow (i := 3) get3
  (try simp only [nsl, Value.cells, unB] at st)
  (try clear hc); have hc := st.facts; (try simp only [nfl, nft, Nat.reduceAdd] at hc)
  go_wp2_with fail
  obtain ⟨fr', al', st', back⟩ := st.sub [0, 3] (by decide) (by simp)
  (try simp only [nsl, Value.cells, unB] at st')
  refine (penRaw_c st' (by omega)).mono ?_
  clear st'
  rintro en w ⟨rfl, st'⟩
  replace st := back _ _ (by simp) st'
  clear back st'
  (try simp only [nsl, Value.cells, unB] at st)
  (try clear hc); have hc := st.facts; (try simp only [nfl, nft, Nat.reduceAdd] at hc)
  go_wp2_with fail
  obtain ⟨fr', al', st', back⟩ := st.sub [0, 1] (by decide) (by simp)
  (try simp only [nsl, Value.cells, unB] at st')
  refine (penText_c st' (by omega) (by simp; omega)).mono ?_
  clear st'
  rintro en w ⟨rfl, st'⟩
  replace st := back _ _ (by simp) st'
  clear back st'
  (try simp only [nsl, Value.cells, unB] at st)
  (try clear hc); have hc := st.facts; (try simp only [nfl, nft, Nat.reduceAdd] at hc)
  go_wp2_with fail
  go_ret
  have st' := st.keep [0, 1] (by decide) (by simp)
  exact ⟨rfl, by rw [HX.out]; simpa [pick] using st'⟩
theorem Own.oldMg {fr al : Nat → Prop} {w0 w W0 : World} {L : List It} (st : Own fr al w0 L w) {i : Nat} (hi : L[i]? = some (oldI W0)) {x : MsgT} (h : MgOk W0 x) : MgOk w x :=
  ⟨⟨h.1.1, st.oldFl hi h.1.2⟩, ⟨h.2.1.1, st.oldFl hi h.2.1.2⟩, fun y hy => ⟨(h.2.2 y hy).1, st.oldBy hi (h.2.2 y hy).2⟩⟩
set_option maxRecDepth 100000 in
set_option maxHeartbeats 8000000 in
theorem msgPut_yes {fr al : Nat → Prop} {W W0 : World} {p : Nat} {xs : List UInt8} (x : MsgT) (st : Own fr al W [penI p xs, oldI W0] W) (hx0 : MgOk W0 x) (lx : MgL x) (hr : mgR x = true) (hl : xs.length ≤ 100000) :
    Calls Tryz.prog 74 #[.pointer (some ⟨p, 0, none⟩), mgV x] W fun e w' => e = .returned (.bool true) ∧ Own fr al W [penI p (xs ++ mgB x), oldI W0] w' := by
  have HMR := Lib.hid (fun W' (h : MgOk W' x) => msgRight_any x W' h lx)
  rw [hr] at HMR
  have hk := (mgR_k hr).2
  have HX0 := Lib.hid hx0
  have HX := Lib.hid hx0
  have HB : Hid (mgB x = numB x.k.toNat ++
    (if x.k = 1 then (numB x.nm.length ++ x.nm) ++ numB x.p.toNat else if x.k = 2 then numB x.wn ++ x.ws.flatMap roleB ++ numB x.sn ++ x.ss.flatMap sgB else if x.k = 5 then numB x.e.toNat else [])) := Lib.hid rfl
  have H1 := Lib.hid (mgR_1 hr)
  have H2 := Lib.hid (fun q => (And.intro (wantsR_is (mgR_2 hr q).1) (showsR_is (mgR_2 hr q).2)))
  have H5 := Lib.hid (mgR_5 hr)
  have lnm := lx.2.2.1
  clear hx0 lx hr
  obtain ⟨k, pl, e, nm, wa, wn, wc, ws, sa, sn, sc, ss⟩ := x
  simp only at hk HB H1 H2 H5 lnm
  unfold mgV S at HMR
  unfold MgOk at HX
  simp only at HX
  unfold mgV S
  (try simp only [nsl, Value.cells, unB] at st)
  (try clear hc); have hc := st.facts; (try simp only [nfl, nft, Nat.reduceAdd] at hc)
  rcases hk with rfl | rfl | rfl | rfl | rfl
  · obtain ⟨hn1, hp1⟩ := H1.out rfl
    obtain ⟨pn, rfl⟩ : ∃ q : Nat, pl = (q : Int) := ⟨pl.toNat, by omega⟩
    have HN1 := Lib.hid hn1
    have hl3 := (nameR_len hn1).2
    have hb3 : (numB nm.length).length ≤ 10 := numF_len 10 nm.length
    have hb1 : (numB 1).length ≤ 10 := numF_len 10 1
    have HF : Hid (mgB { k := 1, p := (pn : Int), e := e, nm := nm, wa := wa, wn := wn, wc := wc, ws := ws, sa := sa, sn := sn, sc := sc, ss := ss } = numB 1 ++ (numB nm.length ++ nm) ++ numB pn) := Lib.hid (by rw [HB.out, if_pos rfl]; simp)
    have hpn : pn ≤ 2 := by omega
    clear hn1 hp1 HB H1 H2 H5
    go_enter Tryz.func74, Tryz.ntmps74
    go_wp2_with ((((with_reducible refine wl_box ?_ (fun K hK => ?_)); rfl; refine owp_box (o := ⟨some 3, _, _, _, _, _⟩) rfl st ?_; apply Exists.intro; refine ⟨?_, ?_⟩; (focus (go_simp; try rfl)); (clear st; intro b3 w hb st; clear hb))); (try simp only [nsl, Value.cells, unB] at st); (try clear hc); have hc := st.facts; (try simp only [nfl, nft, Nat.reduceAdd] at hc))
    refine (HMR.out _ (st.oldMg (i := 1) get1 HX0.out)).mono ?_
    rintro en w ⟨rfl, hx⟩
    replace st := st.ext hx
    clear hx
    (try simp only [nsl, Value.cells, unB] at st)
    (try clear hc); have hc := st.facts; (try simp only [nfl, nft, Nat.reduceAdd] at hc)
    go_wp2_with fail
    obtain ⟨fr', al', st', back⟩ := st.sub [0] (by decide) (by simp)
    (try simp only [nsl, Value.cells, unB] at st')
    refine (penNumber_c st' 1 (by decide) (by omega)).mono ?_
    clear st'
    rintro en w ⟨rfl, st'⟩
    replace st := back _ _ (by simp) st'
    clear back st'
    (try simp only [nsl, Value.cells, unB] at st)
    (try clear hc); have hc := st.facts; (try simp only [nfl, nft, Nat.reduceAdd] at hc)
    go_wp2_with fail
    obtain ⟨fr', al', st', back⟩ := st.sub [0] (by decide) (by simp)
    (try simp only [nsl, Value.cells, unB] at st')
    refine (namePut_yes st' nm HN1.out (by simp; omega)).mono ?_
    clear st'
    rintro en w ⟨rfl, st'⟩
    replace st := back _ _ (by simp) st'
    clear back st'
    (try simp only [nsl, Value.cells, unB] at st)
    (try clear hc); have hc := st.facts; (try simp only [nfl, nft, Nat.reduceAdd] at hc)
    go_wp2_with fail
    obtain ⟨fr', al', st', back⟩ := st.sub [0] (by decide) (by simp)
    (try simp only [nsl, Value.cells, unB] at st')
    refine (penNumber_c st' pn (by omega) (by simp; omega)).mono ?_
    clear st'
    rintro en w ⟨rfl, st'⟩
    replace st := back _ _ (by simp) st'
    clear back st'
    (try simp only [nsl, Value.cells, unB] at st)
    (try clear hc); have hc := st.facts; (try simp only [nfl, nft, Nat.reduceAdd] at hc)
    go_wp2_with fail
    go_ret
    have st' := st.keep [0, 1] (by decide) (by simp)
    exact ⟨rfl, by rw [HF.out]; simpa [pick] using st'⟩
  · obtain ⟨⟨hwl, hwr⟩, hsl, hsr⟩ := H2.out rfl
    have HF : Hid (mgB { k := 2, p := pl, e := e, nm := nm, wa := wa, wn := wn, wc := wc, ws := ws, sa := sa, sn := sn, sc := sc, ss := ss } = numB 2 ++ (numB wn ++ ws.flatMap roleB ++ numB sn ++ ss.flatMap sgB)) := Lib.hid (by rw [HB.out, if_neg (by decide), if_pos rfl]; rfl)
    have hw1 : wn = ws.length := HX.out.1.2.1
    have hs1 : sn = ss.length := HX.out.2.1.2.1
    have HWR := Lib.hid (And.intro hwr hw1)
    have HSR := Lib.hid (And.intro hsr hs1)
    have hwn : wn ≤ 16 := by omega
    have hsn : sn ≤ 8 := by omega
    have hb1 : (numB 2).length ≤ 10 := numF_len 10 2
    have hb2 : (numB wn).length ≤ 10 := numF_len 10 wn
    have hb3 : (numB sn).length ≤ 10 := numF_len 10 sn
    clear hwl hwr hsl hsr HB H1 H2 H5 hw1 hs1
    go_enter Tryz.func74, Tryz.ntmps74
    go_wp2_with ((((with_reducible refine wl_box ?_ (fun K hK => ?_)); rfl; refine owp_box (o := ⟨some 3, _, _, _, _, _⟩) rfl st ?_; apply Exists.intro; refine ⟨?_, ?_⟩; (focus (go_simp; try rfl)); (clear st; intro b3 w hb st; clear hb))); (try simp only [nsl, Value.cells, unB] at st); (try clear hc); have hc := st.facts; (try simp only [nfl, nft, Nat.reduceAdd] at hc))
    refine (HMR.out _ (st.oldMg (i := 1) get1 HX0.out)).mono ?_
    rintro en w ⟨rfl, hx⟩
    replace st := st.ext hx
    clear hx
    (try simp only [nsl, Value.cells, unB] at st)
    (try clear hc); have hc := st.facts; (try simp only [nfl, nft, Nat.reduceAdd] at hc)
    go_wp2_with fail
    obtain ⟨fr', al', st', back⟩ := st.sub [0] (by decide) (by simp)
    (try simp only [nsl, Value.cells, unB] at st')
    refine (penNumber_c st' 2 (by decide) (by omega)).mono ?_
    clear st'
    rintro en w ⟨rfl, st'⟩
    replace st := back _ _ (by simp) st'
    clear back st'
    (try simp only [nsl, Value.cells, unB] at st)
    (try clear hc); have hc := st.facts; (try simp only [nfl, nft, Nat.reduceAdd] at hc)
    go_wp2_with fail
    obtain ⟨fr', al', st', back⟩ := st.sub [0] (by decide) (by simp)
    (try simp only [nsl, Value.cells, unB] at st')
    refine (penNumber_c st' wn (by omega) (by simp; omega)).mono ?_
    clear st'
    rintro en w ⟨rfl, st'⟩
    replace st := back _ _ (by simp) st'
    clear back st'
    (try simp only [nsl, Value.cells, unB] at st)
    (try clear hc); have hc := st.facts; (try simp only [nfl, nft, Nat.reduceAdd] at hc)
    go_wp2_with fail
    obtain ⟨y0, hy0⟩ : ∃ y, xs ++ numB 2 ++ numB wn = y := ⟨_, rfl⟩
    have hyl : y0.length ≤ 100020 := by rw [← hy0]; simp; omega
    rw [hy0] at st
    have HY0 := Lib.hid hy0
    clear hy0
    go_loopg [42] wn (fun kk i wr => ∃ (j m : Nat) (ys : List UInt8), j ≤ wn ∧ kk = wn - j ∧ i = .int .i64 (j : Int) ∧ Hid (ys = y0 ++ (ws.take j).flatMap roleB) ∧ Hid (m = ys.length) ∧ m ≤ 100020 + 100 * j ∧ Own fr al W [penI p ys, oldI W0, blkI b3 [.int .i64 2, .int .i64 pl, .int .i64 e, .string ⟨nm.toArray⟩, .slice wa wn wc, .slice sa sn sc]] wr)
    case atStart => exact ⟨0, _, y0, by omega, by omega, rfl, Lib.hid (by simp), Lib.hid rfl, by omega, st⟩
    case round =>
      obtain ⟨j, m, ys, hj, rfl, rfl, HY, HM, hm, st'⟩ := hrel
      clear st hc
      have st := st'
      clear st'
      (try simp only [nsl, Value.cells, unB] at st)
      (try clear hc); have hc := st.facts; (try simp only [nfl, nft, Nat.reduceAdd] at hc)
      by_cases hjn : j < wn
      · obtain ⟨b, off, ha, hcell⟩ := HX.out.1.2.role (by omega)
        have hjl : j < ws.length := by have := HWR.out.2; omega
        obtain ⟨r0, r1⟩ := hcell j ws[j] (List.getElem?_eq_getElem hjl)
        replace r0 := st.oldCell (i := 1) get1 r0
        replace r1 := st.oldCell (i := 1) get1 r1
        have hts : ws.take (j + 1) = ws.take j ++ [ws[j]] := (List.take_append_getElem hjl).symm
        have hR := HWR.out.1 ws[j] (List.getElem_mem hjl)
        have hbl := roleB_len hR
        clear hcell
        generalize ws[j] = x at *
        obtain ⟨ro, rd⟩ := x
        have HX2 := Lib.hid (And.intro hts hR)
        clear hts hR hjl
        subst ha
        simp only at r0 r1
        unfold S at r0 r1
        have hml : ys.length ≤ 100020 + 100 * j := by have := HM.out; omega
        go_wp2_with ((first
              | ((with_reducible refine wl_alloc ?_ (fun K hK => ?_)); rfl; refine owp_alloc (o := ⟨some 6, _, _, _, _, _⟩) rfl st ?_; apply Exists.intro; apply Exists.intro; refine ⟨?_, ?_⟩; (focus (first | (go_simp; done) | (go_simp; rfl))); (clear st; intro b6 w hb st; clear hb))
              | ((with_reducible refine wl_store ?_ (fun K hK => ?_)); rfl; refine owp_store rfl st ?_; apply Exists.intro; apply Exists.intro; refine ⟨?_, ?_, ?_⟩; (focus (go_simp; try rfl)); (focus (go_simp; try rfl)); (with_reducible refine ⟨3, _, _, _, _, get3, rfl, rfl, ?_, ?_, ?_, ?_⟩); (kernel_rfl); (simp [Value.cells]); (rfl); (clear st; intro w st))); (try simp only [nsl, Value.cells, unB] at st); (try clear hc); have hc := st.facts; (try simp only [nfl, nft, Nat.reduceAdd] at hc))
        obtain ⟨fr', al', st', back⟩ := st.sub [0] (by decide) (by simp)
        (try simp only [nsl, Value.cells, unB] at st')
        refine (rolePut_yes st' (ro, rd) HX2.out.2 (by omega)).mono ?_
        clear st'
        rintro en w ⟨rfl, st'⟩
        replace st := back _ _ (by simp) st'
        clear back st'
        (try simp only [nsl, Value.cells, unB] at st)
        (try clear hc); have hc := st.facts; (try simp only [nfl, nft, Nat.reduceAdd] at hc)
        go_wp2_with fail
        have st' := st.keep [0, 1, 2] (by decide) (by simp)
        go_roundg (wn - (j + 1))
        case measure => omega
        case rel => exact ⟨j + 1, _, ys ++ roleB (ro, rd), by omega, by omega, by go_num, Lib.hid (by rw [HX2.out.1, List.flatMap_append, ← List.append_assoc, ← HY.out]; simp), Lib.hid rfl, by simp; omega, by simpa [pick] using st'⟩
      · obtain rfl : j = wn := by omega
        have HF2 : Hid (mgB { k := 2, p := pl, e := e, nm := nm, wa := wa, wn := j, wc := wc, ws := ws, sa := sa, sn := sn, sc := sc, ss := ss } = numB 2 ++ (numB j ++ ws.flatMap roleB ++ numB sn ++ ss.flatMap sgB)) := Lib.hid HF.out
        have HYE : Hid (xs ++ numB 2 ++ numB j ++ ws.flatMap roleB = ys) := Lib.hid (by rw [HY.out, HY0.out, List.take_of_length_le (by have := HWR.out.2; omega)])
        have hml : ys.length ≤ 102000 := by have := HM.out; omega
        clear HY HM hm HY0
        go_wp2_with fail
        obtain ⟨fr', al', st', back⟩ := st.sub [0] (by decide) (by simp)
        (try simp only [nsl, Value.cells, unB] at st')
        refine (penNumber_c st' sn (by omega) (by omega)).mono ?_
        clear st'
        rintro en w ⟨rfl, st'⟩
        replace st := back _ _ (by simp) st'
        clear back st'
        (try simp only [nsl, Value.cells, unB] at st)
        (try clear hc); have hc := st.facts; (try simp only [nfl, nft, Nat.reduceAdd] at hc)
        go_wp2_with fail
        obtain ⟨z0, hz0⟩ : ∃ z, ys ++ numB sn = z := ⟨_, rfl⟩
        have hzl : z0.length ≤ 102010 := by rw [← hz0]; simp; omega
        rw [hz0] at st
        have HZ0 := Lib.hid hz0
        clear hz0
        go_loopg [58] sn (fun kk i wr => ∃ (q m : Nat) (zs : List UInt8), q ≤ sn ∧ kk = sn - q ∧ i = .int .i64 (q : Int) ∧ Hid (zs = z0 ++ (ss.take q).flatMap sgB) ∧ Hid (m = zs.length) ∧ m ≤ 102010 + 400 * q ∧ Own fr al W [penI p zs, oldI W0, blkI b3 [.int .i64 2, .int .i64 pl, .int .i64 e, .string ⟨nm.toArray⟩, .slice wa j wc, .slice sa sn sc]] wr)
        case atStart => exact ⟨0, _, z0, by omega, by omega, rfl, Lib.hid (by simp), Lib.hid rfl, by omega, st⟩
        case round =>
          obtain ⟨q, m, zs, hq, rfl, rfl, HZ, HM, hm, st'⟩ := hrel
          clear st hc
          have st := st'
          clear st'
          (try simp only [nsl, Value.cells, unB] at st)
          (try clear hc); have hc := st.facts; (try simp only [nfl, nft, Nat.reduceAdd] at hc)
          by_cases hqn : q < sn
          · obtain ⟨b, off, ha, hcell⟩ := HX.out.2.1.2.sgn (by omega)
            have hql : q < ss.length := by have := HSR.out.2; omega
            obtain ⟨r0, r1, r2, r3, r4, r5, r6, r7, r8, r9⟩ := hcell q ss[q] (List.getElem?_eq_getElem hql)
            replace r0 := st.oldCell (i := 1) get1 r0
            replace r1 := st.oldCell (i := 1) get1 r1
            replace r2 := st.oldCell (i := 1) get1 r2
            replace r3 := st.oldCell (i := 1) get1 r3
            replace r4 := st.oldCell (i := 1) get1 r4
            replace r5 := st.oldCell (i := 1) get1 r5
            replace r6 := st.oldCell (i := 1) get1 r6
            replace r7 := st.oldCell (i := 1) get1 r7
            replace r8 := st.oldCell (i := 1) get1 r8
            replace r9 := st.oldCell (i := 1) get1 r9
            have hts : ss.take (q + 1) = ss.take q ++ [ss[q]] := (List.take_append_getElem hql).symm
            have hR := HSR.out.1 ss[q] (List.getElem_mem hql)
            have hSO := HX.out.2.2 ss[q] (List.getElem_mem hql)
            have hbl := sgB_len hR.1 hR.2 hSO.2.1
            replace st := st.addOldBy (i := 1) get1 hSO.2
            clear hcell
            generalize ss[q] = x at *
            have HX2 := Lib.hid (And.intro hts hR)
            have HKP := Lib.hid (fun (fr al : Nat → Prop) (W : World) (zs : List UInt8) (st : Own fr al W [penI p zs, byI x.a x.n x.xs] W) hl => keysPut_yes x st hR.1 hR.2 hl)
            obtain ⟨sb, hsb⟩ : ∃ s, sgB x = s := ⟨_, rfl⟩
            rw [hsb] at hbl HKP
            have HSB := Lib.hid hsb
            clear hts hR hql hSO hsb
            obtain ⟨⟨ck, ⟨ho, hd⟩, cw, ⟨bo, bd⟩, ⟨co, cd⟩, we⟩, a1, n1, m1, tg⟩ := x
            subst ha
            simp only at r0 r1 r2 r3 r4 r5 r6 r7 r8 r9
            unfold S at r1 r2 r3 r4 r5 r6 r7 r8
            unfold sgV S at HKP
            simp only at HKP st
            have hml : zs.length ≤ 102010 + 400 * q := by have := HM.out; omega
            (try simp only [nsl, Value.cells, unB] at st)
            (try clear hc); have hc := st.facts; (try simp only [nfl, nft, Nat.reduceAdd] at hc)
            go_wp2_with ((first
                  | ((with_reducible refine wl_store ?_ (fun K hK => ?_)); rfl; refine owp_store rfl st ?_; apply Exists.intro; apply Exists.intro; refine ⟨?_, ?_, ?_⟩; (focus (go_simp; try rfl)); (focus (go_simp; try rfl)); (with_reducible refine ⟨4, _, _, _, _, get4, rfl, rfl, ?_, ?_, ?_, ?_⟩); (kernel_rfl); (simp [Value.cells]); (rfl); (clear st; intro w st))
                  | ((with_reducible refine wl_alloc ?_ (fun K hK => ?_)); rfl; refine owp_alloc (o := ⟨some 8, _, _, _, _, _⟩) rfl st ?_; apply Exists.intro; apply Exists.intro; refine ⟨?_, ?_⟩; (focus (first | (go_simp; done) | (go_simp; rfl))); (clear st; intro b8 w hb st; clear hb))); (try simp only [nsl, Value.cells, unB] at st); (try clear hc); have hc := st.facts; (try simp only [nfl, nft, Nat.reduceAdd] at hc))
            obtain ⟨fr', al', st', back⟩ := st.sub [0, 3] (by decide) (by simp)
            (try simp only [nsl, Value.cells, unB] at st')
            refine (HKP.out _ _ _ _ st' (by omega)).mono ?_
            clear st'
            rintro en w ⟨rfl, st'⟩
            replace st := back _ _ (by simp) st'
            clear back st'
            (try simp only [nsl, Value.cells, unB] at st)
            (try clear hc); have hc := st.facts; (try simp only [nfl, nft, Nat.reduceAdd] at hc)
            go_wp2_with fail
            have st' := st.keep [0, 1, 2] (by decide) (by simp)
            go_roundg (sn - (q + 1))
            case measure => omega
            case rel => exact ⟨q + 1, _, zs ++ sb, by omega, by omega, by go_num, Lib.hid (by rw [HX2.out.1, List.flatMap_append, ← List.append_assoc, ← HZ.out]; simp [HSB.out]), Lib.hid rfl, by simp; omega, by simpa [pick] using st'⟩
          · obtain rfl : q = sn := by omega
            have HFF : Hid (xs ++ mgB { k := 2, p := pl, e := e, nm := nm, wa := wa, wn := j, wc := wc, ws := ws, sa := sa, sn := q, sc := sc, ss := ss } = zs) := Lib.hid (by rw [HF2.out, HZ.out, ← HZ0.out, ← HYE.out, List.take_of_length_le (by have := HSR.out.2; omega)]; simp)
            rw [← HFF.out] at st
            go_wp2_with fail
            go_ret
            have st' := st.keep [0, 1] (by decide) (by simp)
            exact ⟨rfl, by simpa [pick] using st'⟩
  · have HF : Hid (mgB { k := 3, p := pl, e := e, nm := nm, wa := wa, wn := wn, wc := wc, ws := ws, sa := sa, sn := sn, sc := sc, ss := ss } = numB 3) := Lib.hid (by rw [HB.out, if_neg (by decide), if_neg (by decide), if_neg (by decide)]; simp)
    clear HB H1 H2 H5
    go_enter Tryz.func74, Tryz.ntmps74
    go_wp2_with ((((with_reducible refine wl_box ?_ (fun K hK => ?_)); rfl; refine owp_box (o := ⟨some 3, _, _, _, _, _⟩) rfl st ?_; apply Exists.intro; refine ⟨?_, ?_⟩; (focus (go_simp; try rfl)); (clear st; intro b3 w hb st; clear hb))); (try simp only [nsl, Value.cells, unB] at st); (try clear hc); have hc := st.facts; (try simp only [nfl, nft, Nat.reduceAdd] at hc))
    refine (HMR.out _ (st.oldMg (i := 1) get1 HX0.out)).mono ?_
    rintro en w ⟨rfl, hx⟩
    replace st := st.ext hx
    clear hx
    (try simp only [nsl, Value.cells, unB] at st)
    (try clear hc); have hc := st.facts; (try simp only [nfl, nft, Nat.reduceAdd] at hc)
    go_wp2_with fail
    obtain ⟨fr', al', st', back⟩ := st.sub [0] (by decide) (by simp)
    (try simp only [nsl, Value.cells, unB] at st')
    refine (penNumber_c st' 3 (by decide) (by omega)).mono ?_
    clear st'
    rintro en w ⟨rfl, st'⟩
    replace st := back _ _ (by simp) st'
    clear back st'
    (try simp only [nsl, Value.cells, unB] at st)
    (try clear hc); have hc := st.facts; (try simp only [nfl, nft, Nat.reduceAdd] at hc)
    go_wp2_with fail
    go_ret
    have st' := st.keep [0, 1] (by decide) (by simp)
    exact ⟨rfl, by rw [HF.out]; simpa [pick] using st'⟩
  · have HF : Hid (mgB { k := 4, p := pl, e := e, nm := nm, wa := wa, wn := wn, wc := wc, ws := ws, sa := sa, sn := sn, sc := sc, ss := ss } = numB 4) := Lib.hid (by rw [HB.out, if_neg (by decide), if_neg (by decide), if_neg (by decide)]; simp)
    clear HB H1 H2 H5
    go_enter Tryz.func74, Tryz.ntmps74
    go_wp2_with ((((with_reducible refine wl_box ?_ (fun K hK => ?_)); rfl; refine owp_box (o := ⟨some 3, _, _, _, _, _⟩) rfl st ?_; apply Exists.intro; refine ⟨?_, ?_⟩; (focus (go_simp; try rfl)); (clear st; intro b3 w hb st; clear hb))); (try simp only [nsl, Value.cells, unB] at st); (try clear hc); have hc := st.facts; (try simp only [nfl, nft, Nat.reduceAdd] at hc))
    refine (HMR.out _ (st.oldMg (i := 1) get1 HX0.out)).mono ?_
    rintro en w ⟨rfl, hx⟩
    replace st := st.ext hx
    clear hx
    (try simp only [nsl, Value.cells, unB] at st)
    (try clear hc); have hc := st.facts; (try simp only [nfl, nft, Nat.reduceAdd] at hc)
    go_wp2_with fail
    obtain ⟨fr', al', st', back⟩ := st.sub [0] (by decide) (by simp)
    (try simp only [nsl, Value.cells, unB] at st')
    refine (penNumber_c st' 4 (by decide) (by omega)).mono ?_
    clear st'
    rintro en w ⟨rfl, st'⟩
    replace st := back _ _ (by simp) st'
    clear back st'
    (try simp only [nsl, Value.cells, unB] at st)
    (try clear hc); have hc := st.facts; (try simp only [nfl, nft, Nat.reduceAdd] at hc)
    go_wp2_with fail
    go_ret
    have st' := st.keep [0, 1] (by decide) (by simp)
    exact ⟨rfl, by rw [HF.out]; simpa [pick] using st'⟩
  · obtain ⟨he1, he2⟩ := H5.out rfl
    obtain ⟨en, rfl⟩ : ∃ q : Nat, e = (q : Int) := ⟨e.toNat, by omega⟩
    have HF : Hid (mgB { k := 5, p := pl, e := (en : Int), nm := nm, wa := wa, wn := wn, wc := wc, ws := ws, sa := sa, sn := sn, sc := sc, ss := ss } = numB 5 ++ numB en) := Lib.hid (by rw [HB.out, if_neg (by decide), if_neg (by decide), if_pos rfl]; simp)
    have hb1 : (numB 5).length ≤ 10 := numF_len 10 5
    have hen : en ≤ 99 := by omega
    clear HB H1 H2 H5 he1 he2
    go_enter Tryz.func74, Tryz.ntmps74
    go_wp2_with ((((with_reducible refine wl_box ?_ (fun K hK => ?_)); rfl; refine owp_box (o := ⟨some 3, _, _, _, _, _⟩) rfl st ?_; apply Exists.intro; refine ⟨?_, ?_⟩; (focus (go_simp; try rfl)); (clear st; intro b3 w hb st; clear hb))); (try simp only [nsl, Value.cells, unB] at st); (try clear hc); have hc := st.facts; (try simp only [nfl, nft, Nat.reduceAdd] at hc))
    refine (HMR.out _ (st.oldMg (i := 1) get1 HX0.out)).mono ?_
    rintro en w ⟨rfl, hx⟩
    replace st := st.ext hx
    clear hx
    (try simp only [nsl, Value.cells, unB] at st)
    (try clear hc); have hc := st.facts; (try simp only [nfl, nft, Nat.reduceAdd] at hc)
    go_wp2_with fail
    obtain ⟨fr', al', st', back⟩ := st.sub [0] (by decide) (by simp)
    (try simp only [nsl, Value.cells, unB] at st')
    refine (penNumber_c st' 5 (by decide) (by omega)).mono ?_
    clear st'
    rintro en w ⟨rfl, st'⟩
    replace st := back _ _ (by simp) st'
    clear back st'
    (try simp only [nsl, Value.cells, unB] at st)
    (try clear hc); have hc := st.facts; (try simp only [nfl, nft, Nat.reduceAdd] at hc)
    go_wp2_with fail
    obtain ⟨fr', al', st', back⟩ := st.sub [0] (by decide) (by simp)
    (try simp only [nsl, Value.cells, unB] at st')
    refine (penNumber_c st' en (by omega) (by simp; omega)).mono ?_
    clear st'
    rintro en w ⟨rfl, st'⟩
    replace st := back _ _ (by simp) st'
    clear back st'
    (try simp only [nsl, Value.cells, unB] at st)
    (try clear hc); have hc := st.facts; (try simp only [nfl, nft, Nat.reduceAdd] at hc)
    go_wp2_with fail
    go_ret
    have st' := st.keep [0, 1] (by decide) (by simp)
    exact ⟨rfl, by rw [HF.out]; simpa [pick] using st'⟩
set_option maxRecDepth 100000 in
set_option maxHeartbeats 1000000 in
theorem msgPut_no (p : Option Addr) (x : MsgT) (W : World) (hx : MgOk W x) (lx : MgL x) (h : p = none ∨ mgR x = false) :
    Calls Tryz.prog 74 #[.pointer p, mgV x] W fun e w' => e = .returned (.bool false) ∧ Ext W w' := by
  have HMR := Lib.hid (fun W' (h : Ext W W') => msgRight_any x W' (hx.ext h) lx)
  obtain ⟨r, hr⟩ : ∃ r, mgR x = r := ⟨_, rfl⟩
  rw [hr] at HMR h
  clear hr hx lx
  obtain ⟨k, pl, e, nm, wa, wn, wc, ws, sa, sn, sc, ss⟩ := x
  unfold mgV S at HMR
  unfold mgV S
  have st := Own.startOld W
  (try simp only [nsl, Value.cells, unB] at st)
  (try clear hc); have hc := st.facts; (try simp only [nfl, nft, Nat.reduceAdd] at hc)
  cases p with
  | none =>
    clear h
    go_enter Tryz.func74, Tryz.ntmps74
    go_wp2_with ((((with_reducible refine wl_box ?_ (fun K hK => ?_)); rfl; refine owp_box (o := ⟨some 3, _, _, _, _, _⟩) rfl st ?_; apply Exists.intro; refine ⟨?_, ?_⟩; (focus (go_simp; try rfl)); (clear st; intro b3 w hb st; clear hb))); (try simp only [nsl, Value.cells, unB] at st); (try clear hc); have hc := st.facts; (try simp only [nfl, nft, Nat.reduceAdd] at hc))
    go_ret
    exact ⟨rfl, st.ext0⟩
  | some ad =>
    have hb : r = false := by rcases h with h | h; cases h; exact h
    subst hb
    clear h
    go_enter Tryz.func74, Tryz.ntmps74
    go_wp2_with ((((with_reducible refine wl_box ?_ (fun K hK => ?_)); rfl; refine owp_box (o := ⟨some 3, _, _, _, _, _⟩) rfl st ?_; apply Exists.intro; refine ⟨?_, ?_⟩; (focus (go_simp; try rfl)); (clear st; intro b3 w hb st; clear hb))); (try simp only [nsl, Value.cells, unB] at st); (try clear hc); have hc := st.facts; (try simp only [nfl, nft, Nat.reduceAdd] at hc))
    refine (HMR.out _ st.ext0).mono ?_
    rintro en w ⟨rfl, hx⟩
    replace st := st.ext hx
    clear hx
    (try clear hc); have hc := st.facts; (try simp only [nfl, nft, Nat.reduceAdd] at hc)
    go_wp2_with fail
    go_ret
    exact ⟨rfl, st.ext0⟩
end Go.Proofs.YtekngjkjgmplpaaGreat

namespace Go.Proofs.YtekngjkjgmplpaaGreat
set_option linter.unusedSimpArgs false
set_option linter.unusedVariables false
open Go Go.RowKit
/-- How great credentials are. -/
def wtC (x : CredT) : Nat := 20 + x.h.1.length + x.h.2.length + x.w.length + x.b.1.length + x.b.2.length + x.c.1.length + x.c.2.length + x.e.length
def weightC (l : List CredT) : Nat := (l.map wtC).sum
theorem weightC_snoc (l : List CredT) (x : CredT) : weightC (l ++ [x]) = weightC l + wtC x := by simp [weightC]
theorem weightC_cons (l : List CredT) (x : CredT) : weightC (x :: l) = wtC x + weightC l := by simp [weightC]
theorem weightC_take : ∀ (l : List CredT) (j : Nat), weightC (l.take j) ≤ weightC l
  | [], j => by simp [weightC]
  | x :: l, 0 => by simp [weightC]
  | x :: l, j + 1 => by have := weightC_take l j; rw [List.take_succ_cons, weightC_cons, weightC_cons]; omega
theorem weightC_len : ∀ (l : List CredT), 20 * l.length ≤ weightC l
  | [] => by simp [weightC]
  | x :: l => by have := weightC_len l; rw [weightC_cons, List.length_cons]; unfold wtC; omega
theorem Fl.cred {w : World} {a : Option Addr} {n : Nat} {xs : List CredT} (h : Fl w a n xs) (h0 : 0 < n) : ∃ b off, a = some ⟨b, off, none⟩ ∧ ∀ j x, xs[j]? = some x → w.cell? ⟨b, off + j * 9, none⟩ = some (.int .i64 x.k) ∧ w.cell? ⟨b, off + j * 9 + 1, none⟩ = some (S x.h.1) ∧ w.cell? ⟨b, off + j * 9 + 2, none⟩ = some (S x.h.2) ∧ w.cell? ⟨b, off + j * 9 + 3, none⟩ = some (S x.w) ∧ w.cell? ⟨b, off + j * 9 + 4, none⟩ = some (S x.b.1) ∧ w.cell? ⟨b, off + j * 9 + 5, none⟩ = some (S x.b.2) ∧ w.cell? ⟨b, off + j * 9 + 6, none⟩ = some (S x.c.1) ∧ w.cell? ⟨b, off + j * 9 + 7, none⟩ = some (S x.c.2) ∧ w.cell? ⟨b, off + j * 9 + 8, none⟩ = some (S x.e) := by
  obtain ⟨b, off, rfl, hc⟩ := h.2 h0
  exact ⟨b, off, rfl, fun j x hj => ⟨hc j x hj 0 _ rfl, hc j x hj 1 _ rfl, hc j x hj 2 _ rfl, hc j x hj 3 _ rfl, hc j x hj 4 _ rfl, hc j x hj 5 _ rfl, hc j x hj 6 _ rfl, hc j x hj 7 _ rfl, hc j x hj 8 _ rfl⟩⟩
end Go.Proofs.YtekngjkjgmplpaaGreat

namespace Go.Proofs.YtekngjkjgmplpaaGreat
set_option linter.unusedSimpArgs false
set_option linter.unusedVariables false
open Go Go.RowKit
set_option maxRecDepth 100000 in
set_option maxHeartbeats 1000000 in
theorem credGreat_any (a : Option Addr) (n c : Nat) (l : List CredT) (W : World) (h : Fl W a n l) (hw : weightC l ≤ 2000000000) :
    Calls Tryz.prog 16 #[.slice a n c] W fun e w' => e = .returned (.int .i64 (weightC l : Int)) ∧ Ext W w' := by
  have hnw : n ≤ 2000000000 := by have := weightC_len l; have := h.1; omega
  have H := Lib.hid h
  have HN := Lib.hid (And.intro h.1 hw)
  have st := Own.startOld W
  clear h hw
  (try simp only [nsl, Value.cells, unB] at st)
  (try clear hc); have hc := st.facts; (try simp only [nfl, nft, Nat.reduceAdd] at hc)
  go_enter Tryz.func16, Tryz.ntmps16
  go_wp2_with fail
  go_loopg [3, 8] n (fun k v i wr => ∃ (j q : Nat), j ≤ n ∧ k = n - j ∧ q ≤ 2000000000 ∧ Hid (q = weightC (l.take j)) ∧ i = .int .i64 (j : Int) ∧ v = .int .i64 (q : Int) ∧ Own (fun _ => False) (fun _ => True) W [oldI W] wr)
  case atStart => exact ⟨0, 0, by omega, by omega, by omega, Lib.hid (by simp [weightC]), rfl, rfl, st⟩
  case round =>
    obtain ⟨j, q, hj, rfl, hq, HQ, rfl, rfl, st'⟩ := hrel
    clear st hc
    have st := st'
    clear st'
    (try simp only [nsl, Value.cells, unB] at st)
    (try clear hc); have hc := st.facts; (try simp only [nfl, nft, Nat.reduceAdd] at hc)
    by_cases hjn : j < n
    · obtain ⟨b, off, ha, hcell⟩ := H.out.cred (by omega)
      have hjl : j < l.length := by have := HN.out.1; omega
      have hcc := hcell j l[j] (List.getElem?_eq_getElem hjl)
      obtain ⟨r0, r1, r2, r3, r4, r5, r6, r7, r8⟩ := hcc
      replace r0 := st.oldCell (i := 0) get0 r0
      replace r1 := st.oldCell (i := 0) get0 r1
      replace r2 := st.oldCell (i := 0) get0 r2
      replace r3 := st.oldCell (i := 0) get0 r3
      replace r4 := st.oldCell (i := 0) get0 r4
      replace r5 := st.oldCell (i := 0) get0 r5
      replace r6 := st.oldCell (i := 0) get0 r6
      replace r7 := st.oldCell (i := 0) get0 r7
      replace r8 := st.oldCell (i := 0) get0 r8
      have hts : l.take (j + 1) = l.take j ++ [l[j]] := (List.take_append_getElem hjl).symm
      have hw1 := weightC_take l (j + 1)
      rw [hts, weightC_snoc, ← HQ.out] at hw1
      have hw2 : q + wtC l[j] ≤ 2000000000 := by have := HN.out.2; omega
      have HX : Hid (q + wtC l[j] = weightC (l.take (j + 1))) := Lib.hid (by rw [hts, weightC_snoc, ← HQ.out])
      clear hcell hts hw1
      generalize l[j] = x at *
      clear hjl
      subst ha
      unfold S at r1 r2 r3 r4 r5 r6 r7 r8
      have hszz : ∀ s : List UInt8, (⟨s.toArray⟩ : ByteArray).size = s.length := fun s => by simp [ByteArray.size]
      have HW : Hid (wtC x = 20 + x.h.1.length + x.h.2.length + x.w.length + x.b.1.length + x.b.2.length + x.c.1.length + x.c.2.length + x.e.length) := Lib.hid rfl
      have hw3 : q + (20 + x.h.1.length + x.h.2.length + x.w.length + x.b.1.length + x.b.2.length + x.c.1.length + x.c.2.length + x.e.length) ≤ 2000000000 := by rw [← HW.out]; exact hw2
      clear hw2
      go_wp2_with ((first
            | ((with_reducible refine wl_alloc ?_ (fun K hK => ?_)); rfl; refine owp_alloc (o := ⟨some 5, _, _, _, _, _⟩) rfl st ?_; apply Exists.intro; apply Exists.intro; refine ⟨?_, ?_⟩; (focus (first | (go_simp; done) | (go_simp; rfl))); (clear st; intro b5 w hb st; clear hb))
            | ((with_reducible refine wl_store ?_ (fun K hK => ?_)); rfl; refine owp_store rfl st ?_; apply Exists.intro; apply Exists.intro; refine ⟨?_, ?_, ?_⟩; (focus (go_simp; try rfl)); (focus (go_simp; try rfl)); (first | (with_reducible refine ⟨0, _, _, _, _, get0, rfl, rfl, ?_, ?_, ?_, ?_⟩) | (with_reducible refine ⟨1, _, _, _, _, get1, rfl, rfl, ?_, ?_, ?_, ?_⟩) | (with_reducible refine ⟨2, _, _, _, _, get2, rfl, rfl, ?_, ?_, ?_, ?_⟩) | (with_reducible refine ⟨3, _, _, _, _, get3, rfl, rfl, ?_, ?_, ?_, ?_⟩) | (with_reducible refine ⟨4, _, _, _, _, get4, rfl, rfl, ?_, ?_, ?_, ?_⟩) | (with_reducible refine ⟨5, _, _, _, _, get5, rfl, rfl, ?_, ?_, ?_, ?_⟩)); (kernel_rfl); (simp [Value.cells]); (rfl); (clear st; intro w st))); (try simp only [nsl, Value.cells, unB] at st); (try clear hc); have hc := st.facts; (try simp only [nfl, nft, Nat.reduceAdd] at hc))
      have st' := st.keep [0] (by decide) (by simp)
      go_roundg (n - (j + 1))
      case measure => omega
      case rel => exact ⟨j + 1, q + (20 + x.h.1.length + x.h.2.length + x.w.length + x.b.1.length + x.b.2.length + x.c.1.length + x.c.2.length + x.e.length), by omega, rfl, hw3, by rw [← HW.out]; exact HX, by go_num, by go_num, by simpa [pick] using st'⟩
    · obtain rfl : j = n := by omega
      have htk : weightC l = q := by rw [HQ.out, List.take_of_length_le (by have := HN.out.1; omega)]
      have HE := Lib.hid htk
      clear htk
      go_wp2_with fail
      go_ret
      exact ⟨by rw [HE.out]; rfl, st.ext0⟩
end Go.Proofs.YtekngjkjgmplpaaGreat

namespace Go.Proofs.YtekngjkjgmplpaaGreat
set_option linter.unusedSimpArgs false
set_option linter.unusedVariables false
open Go Go.RowKit
def wtSg (x : SgnT) : Nat := wtC x.c + x.n
def weightSg (l : List SgnT) : Nat := (l.map wtSg).sum
theorem weightSg_cons (x : SgnT) (l : List SgnT) : weightSg (x :: l) = wtSg x + weightSg l := by simp [weightSg]
theorem weightSg_take (l : List SgnT) (j : Nat) (h : j < l.length) : weightSg (l.take (j + 1)) = weightSg (l.take j) + wtSg l[j] := by
  rw [← List.take_append_getElem h]; simp only [weightSg, List.map_append, List.sum_append, List.map_cons, List.map_nil, List.sum_cons, List.sum_nil, Nat.add_zero]
theorem weightSg_le : ∀ (l : List SgnT) (j : Nat), weightSg (l.take j) ≤ weightSg l
  | [], j => by simp
  | x :: l, 0 => by simp [weightSg]
  | x :: l, j + 1 => by have := weightSg_le l j; rw [List.take_succ_cons, weightSg_cons, weightSg_cons]; omega
theorem weightSg_len : ∀ (l : List SgnT), 20 * l.length ≤ weightSg l
  | [] => by simp
  | x :: l => by have := weightSg_len l; rw [weightSg_cons, List.length_cons]; unfold wtSg wtC; omega
theorem weightSg_mem : ∀ (l : List SgnT) (x : SgnT), x ∈ l → wtSg x ≤ weightSg l
  | [], x, h => by simp at h
  | y :: l, x, h => by
    rw [weightSg_cons]
    rcases List.mem_cons.1 h with e | e
    · subst e; omega
    · have := weightSg_mem l x e; omega
def wtR (r : Role) : Nat := 5 + r.1.length + r.2.length
def weightW (l : List Role) : Nat := (l.map wtR).sum
theorem weightW_cons (x : Role) (l : List Role) : weightW (x :: l) = wtR x + weightW l := by simp [weightW]
theorem weightW_take (l : List Role) (j : Nat) (h : j < l.length) : weightW (l.take (j + 1)) = weightW (l.take j) + wtR l[j] := by
  rw [← List.take_append_getElem h]; simp only [weightW, List.map_append, List.sum_append, List.map_cons, List.map_nil, List.sum_cons, List.sum_nil, Nat.add_zero]
theorem weightW_le : ∀ (l : List Role) (j : Nat), weightW (l.take j) ≤ weightW l
  | [], j => by simp
  | x :: l, 0 => by simp [weightW]
  | x :: l, j + 1 => by have := weightW_le l j; rw [List.take_succ_cons, weightW_cons, weightW_cons]; omega
theorem weightW_len : ∀ (l : List Role), 5 * l.length ≤ weightW l
  | [] => by simp
  | x :: l => by have := weightW_len l; rw [weightW_cons, List.length_cons]; unfold wtR; omega
theorem weightW_mem : ∀ (l : List Role) (x : Role), x ∈ l → wtR x ≤ weightW l
  | [], x, h => by simp at h
  | y :: l, x, h => by
    rw [weightW_cons]
    rcases List.mem_cons.1 h with e | e
    · subst e; omega
    · have := weightW_mem l x e; omega
/-- How great a message is. -/
def weightM (x : MsgT) : Nat := x.nm.length + weightSg x.ss + weightW x.ws
theorem weightM_L {W : World} {x : MsgT} (hx : MgOk W x) (h : weightM x ≤ 100000) : MgL x := by
  unfold weightM at h
  have h1 := weightSg_len x.ss
  have h2 := weightW_len x.ws
  have h3 := hx.1.2.1
  have h4 := hx.2.1.2.1
  refine ⟨by omega, by omega, by omega, fun r hr => ?_, fun y hy => ?_⟩
  · have := weightW_mem _ r hr
    unfold wtR at this
    omega
  · have := weightSg_mem _ y hy
    unfold wtSg wtC at this
    unfold CLenS
    omega
set_option maxRecDepth 100000 in
set_option maxHeartbeats 4000000 in
theorem sgGreat_any (a : Option Addr) (n c : Nat) (l : List SgnT) (W : World) (h : Fl W a n l) (hw : weightSg l ≤ 2000000000) :
    Calls Tryz.prog 28 #[.slice none 0 0, .slice a n c] W fun e w' => e = .returned (.int .i64 (weightSg l : Int)) ∧ Ext W w' := by
  have hnw : n ≤ 2000000000 := by have := weightSg_len l; have := h.1; omega
  have H := Lib.hid h
  have HN := Lib.hid h.1
  have HT := Lib.hid (weightSg_le l)
  obtain ⟨wl, hwl⟩ : ∃ w, weightSg l = w := ⟨_, rfl⟩
  rw [hwl] at HT hw ⊢
  have HWL := Lib.hid hwl
  have st := Own.startOld W
  clear h hwl
  (try simp only [nsl, Value.cells, unB] at st)
  (try clear hc); have hc := st.facts; (try simp only [nfl, nft, Nat.reduceAdd] at hc)
  go_enter Tryz.func28, Tryz.ntmps28
  go_wp2_with fail
  go_loopg [5, 12] 0 (fun k v i wr => v = .int .i64 0 ∧ i = .int .i64 0 ∧ Own (fun _ => False) (fun _ => True) W [oldI W] wr)
  case atStart => exact ⟨rfl, rfl, st⟩
  case round =>
    obtain ⟨rfl, rfl, st'⟩ := hrel
    clear st hc
    have st := st'
    clear st'
    go_wp2_with fail
    go_loopg [5, 29] n (fun k s i wr => ∃ (j q : Nat), j ≤ n ∧ k = n - j ∧ i = .int .i64 (j : Int) ∧ Hid (q = weightSg (l.take j)) ∧ q ≤ wl ∧ s = .int .i64 (q : Int) ∧ Own (fun _ => False) (fun _ => True) W [oldI W] wr)
    case atStart => exact ⟨0, 0, by omega, by omega, rfl, Lib.hid (by simp [weightSg]), by omega, rfl, st⟩
    case round =>
      obtain ⟨j, q, hj, rfl, rfl, HQ, hq, rfl, st'⟩ := hrel
      clear st
      have st := st'
      clear st'
      (try simp only [nsl, Value.cells, unB] at st)
      (try clear hc); have hc := st.facts; (try simp only [nfl, nft, Nat.reduceAdd] at hc)
      by_cases hjn : j < n
      · obtain ⟨b, off, ha, hcell⟩ := H.out.sgn (by omega)
        have hjl : j < l.length := by have := HN.out; omega
        obtain ⟨r0, r1, r2, r3, r4, r5, r6, r7, r8, r9⟩ := hcell j l[j] (List.getElem?_eq_getElem hjl)
        replace r0 := st.oldCell (i := 0) get0 r0
        replace r1 := st.oldCell (i := 0) get0 r1
        replace r2 := st.oldCell (i := 0) get0 r2
        replace r3 := st.oldCell (i := 0) get0 r3
        replace r4 := st.oldCell (i := 0) get0 r4
        replace r5 := st.oldCell (i := 0) get0 r5
        replace r6 := st.oldCell (i := 0) get0 r6
        replace r7 := st.oldCell (i := 0) get0 r7
        replace r8 := st.oldCell (i := 0) get0 r8
        replace r9 := st.oldCell (i := 0) get0 r9
        have hle := HT.out (j + 1)
        have HTK := Lib.hid (weightSg_take l j hjl)
        have hq2 : q + wtSg l[j] ≤ wl := by have := HTK.out; have := HQ.out; omega
        clear hcell hle
        generalize l[j] = x at *
        subst ha
        obtain ⟨cx, a1, n1, m1, xs⟩ := x
        have HWX : Hid (wtSg ⟨cx, a1, n1, m1, xs⟩ = wtC cx + n1) := Lib.hid rfl
        rw [HWX.out] at hq2 HTK
        have HCG := Lib.hid (fun a c W h => credGreat_any a 1 c [cx] W h (by simp [weightC]; omega))
        rw [show weightC [cx] = wtC cx from by simp [weightC]] at HCG
        obtain ⟨wc, hwc⟩ : ∃ w, wtC cx = w := ⟨_, rfl⟩
        rw [hwc] at HCG hq2 HTK
        clear hwc HWX
        have z1 : IntKind.i64.wrap ((wc : Int) + (n1 : Int)) = (wc : Int) + (n1 : Int) := IntWalk.i64_in _ ⟨by omega, by omega⟩
        have z4 : IntKind.i64.wrap ((q : Int) + ((wc : Int) + (n1 : Int))) = (q : Int) + ((wc : Int) + (n1 : Int)) := IntWalk.i64_in _ ⟨by omega, by omega⟩
        obtain ⟨k, ⟨ho, hd⟩, nw, ⟨bo, bd⟩, ⟨co, cd⟩, we⟩ := cx
        simp only at r0 r1 r2 r3 r4 r5 r6 r7 r8 r9
        unfold S at r1 r2 r3 r4 r5 r6 r7 r8
        go_wp2_with ((first
              | ((with_reducible refine wl_store ?_ (fun K hK => ?_)); rfl; refine owp_store rfl st ?_; apply Exists.intro; apply Exists.intro; refine ⟨?_, ?_, ?_⟩; (focus (go_simp; try rfl)); (focus (go_simp; try rfl)); (with_reducible refine ⟨1, _, _, _, _, get1, rfl, rfl, ?_, ?_, ?_, ?_⟩); (kernel_rfl); (simp [Value.cells]); (rfl); (clear st; intro w st))
              | ((with_reducible refine wl_alloc ?_ (fun K hK => ?_)); rfl; refine owp_alloc (o := ⟨some 9, _, _, _, _, _⟩) rfl st ?_; apply Exists.intro; apply Exists.intro; refine ⟨?_, ?_⟩; (focus (first | (go_simp; done) | (go_simp; rfl))); (clear st; intro b9 w hb st; clear hb))); (try simp only [nsl, Value.cells, unB] at st); (try clear hc); have hc := st.facts; (try simp only [nfl, nft, Nat.reduceAdd] at hc))
        clear r0 r1 r2 r3 r4 r5 r6 r7 r8 r9
        refine Rg4.wp_region4_eq #[0, 0, 2, 6, 14, 0, 32, 96, 254, 511, 1023] [3, 4] [] (fun W' => Blk W' b9 [.int .i64 k, .string ⟨ho.toArray⟩, .string ⟨hd.toArray⟩, .string ⟨nw.toArray⟩, .string ⟨bo.toArray⟩, .string ⟨bd.toArray⟩, .string ⟨co.toArray⟩, .string ⟨cd.toArray⟩, .string ⟨we.toArray⟩, .slice a1 n1 m1]) [0, 1, 2, 5, 6, 7, 3, 4, 8, 9, 10] (by kernel_rfl) (by kernel_rfl) (by kernel_rfl) (by kernel_rfl) (show Rg4.PB _ by repeat (first | with_reducible exact Rg4.pb_body | with_reducible exact Rg4.pb_bodyD rfl | with_reducible refine Rg4.pb_then ?_ | with_reducible refine Rg4.pb_inBlock ?_ | with_reducible refine Rg4.pb_noGoto ?_)) (st.drew.blk (i := 1) get1) ?_
        replace st := st.drew
        change Rg4.wp4 _ _ _ _ _ _ _ _ _ (World.drew _) _ _
        generalize World.drew _ = w at st ⊢
        (try clear hc); have hc := st.facts; (try simp only [nfl, nft, Nat.reduceAdd] at hc)
        iterate 2 (refine Rg4.w4_any (Rg4.want_none rfl) rfl ?_; apply Exists.intro; refine ⟨fun w' => ?_, ?_⟩; (focus (first | (go_simp; done) | (go_simp; first | rfl | (rw [if_neg] <;> first | rfl | omega) | (rw [if_pos] <;> first | rfl | omega)))); (try simp only [Rg4.nrm]))
        (refine Rg4.w4_cl (Rg4.want_none rfl) rfl ?_; apply Exists.intro; refine ⟨fun w' hcl => ?_, ?_⟩; (focus (have q0 := Blk.cell hcl 0; have q1 := Blk.cell hcl 1; have q2 := Blk.cell hcl 2; have q3 := Blk.cell hcl 3; have q4 := Blk.cell hcl 4; have q5 := Blk.cell hcl 5; have q6 := Blk.cell hcl 6; have q7 := Blk.cell hcl 7; have q8 := Blk.cell hcl 8; have q9 := Blk.cell hcl 9; (try simp at q0 q1 q2 q3 q4 q5 q6 q7 q8 q9); (focus (first | (go_simp; done) | (go_simp; first | rfl | (rw [if_neg] <;> first | rfl | omega) | (rw [if_pos] <;> first | rfl | omega)))))); (try simp only [Rg4.nrm]))
        (refine Rg4.w4_any (Rg4.want_none rfl) rfl ?_; apply Exists.intro; refine ⟨fun w' => ?_, ?_⟩; (focus (first | (go_simp; done) | (go_simp; first | rfl | (rw [if_neg] <;> first | rfl | omega) | (rw [if_pos] <;> first | rfl | omega)))); (try simp only [Rg4.nrm]))
        (refine Rg4.w4_cl (Rg4.want_none rfl) rfl ?_; apply Exists.intro; refine ⟨fun w' hcl => ?_, ?_⟩; (focus (have q0 := Blk.cell hcl 0; have q1 := Blk.cell hcl 1; have q2 := Blk.cell hcl 2; have q3 := Blk.cell hcl 3; have q4 := Blk.cell hcl 4; have q5 := Blk.cell hcl 5; have q6 := Blk.cell hcl 6; have q7 := Blk.cell hcl 7; have q8 := Blk.cell hcl 8; have q9 := Blk.cell hcl 9; (try simp at q0 q1 q2 q3 q4 q5 q6 q7 q8 q9); (focus (first | (go_simp; done) | (go_simp; first | rfl | (rw [if_neg] <;> first | rfl | omega) | (rw [if_pos] <;> first | rfl | omega)))))); (try simp only [Rg4.nrm]))
        (refine Rg4.w4_any (Rg4.want_none rfl) rfl ?_; apply Exists.intro; refine ⟨fun w' => ?_, ?_⟩; (focus (first | (go_simp; done) | (go_simp; first | rfl | (rw [if_neg] <;> first | rfl | omega) | (rw [if_pos] <;> first | rfl | omega)))); (try simp only [Rg4.nrm]))
        (refine Rg4.w4_bar (Rg4.want_none rfl) rfl (fun w' hw' hcl' _ K hK => ?_); subst hw'; (refine owp_buildSlice (o := ⟨some 36, _, _, _, _, _⟩) rfl st ?_; apply Exists.intro; apply Exists.intro; apply Exists.intro; apply Exists.intro; refine ⟨?_, ?_⟩; (focus (go_simp; (first | done | exact ⟨⟨rfl, rfl⟩, rfl⟩ | rfl))); (clear st; intro b36 w hb st; clear hb); (try simp only [nsl, Value.cells, unB] at st); (try clear hc); have hc := st.facts; (try simp only [nfl, nft, Nat.reduceAdd] at hc)); refine hK _ _ ⟨st.blk (i := 1) get1, ?_⟩; (try simp only [Rg4.nrm]))
        refine Rg4.w4_bar (Rg4.want_none rfl) rfl (fun w' hw' hcl _ K hK => ?_)
        subst hw'
        go_wp2_with fail
        refine (HCG.out _ _ _ (fl_lit (α := CredT) (st.blk (i := 2) get2) [⟨k, (ho, hd), nw, (bo, bd), (co, cd), we⟩] rfl)).mono ?_
        rintro en w ⟨rfl, hx⟩
        replace st := st.ext hx
        clear hx
        (try clear hc); have hc := st.facts; (try simp only [nfl, nft, Nat.reduceAdd] at hc)
        refine hK _ _ ⟨st.blk (i := 1) get1, ?_⟩
        clear hK
        (try simp only [Rg4.nrm])
        iterate 3 (refine Rg4.w4_any (Rg4.want_none rfl) rfl ?_; apply Exists.intro; refine ⟨fun w' => ?_, ?_⟩; (focus (first | (go_simp; done) | (go_simp; first | rfl | (rw [if_neg] <;> first | rfl | omega) | (rw [if_pos] <;> first | rfl | omega)))); (try simp only [Rg4.nrm]))
        refine Rg4.w4_nil (fun w' hw' hcl' _ => ?_); subst hw'; clear hcl'
        go_wp2_with fail
        have st' := st.keep [0] (by decide) (by simp)
        go_roundg (n - (j + 1))
        case measure => omega
        case rel => exact ⟨j + 1, q + (wc + n1), by omega, by omega, by go_num, Lib.hid (by rw [HTK.out, HQ.out]), hq2, by go_num, by simpa [pick] using st'⟩
      · obtain rfl : j = n := by omega
        have hqw : q = wl := by
          have := HQ.out
          rw [List.take_of_length_le (by have := HN.out; omega), HWL.out] at this
          exact this
        subst hqw
        clear HT
        go_wp2_with fail
        go_ret
        exact ⟨rfl, st.ext0⟩
set_option maxRecDepth 100000 in
set_option maxHeartbeats 4000000 in
theorem msgGreat_any (x : MsgT) (W : World) (hx : MgOk W x) (hw : weightM x ≤ 2000000000) :
    Calls Tryz.prog 7 #[mgV x] W fun e w' => e = .returned (.int .i64 (weightM x : Int)) ∧ Ext W w' := by
  have HD : Hid (weightM x = x.nm.length + weightSg x.ss + weightW x.ws) := Lib.hid rfl
  have hw1 : x.nm.length + weightSg x.ss + weightW x.ws ≤ 2000000000 := hw
  have HX := Lib.hid hx
  have HSG := Lib.hid (fun W' h => sgGreat_any x.sa x.sn x.sc x.ss W' h (by omega))
  have HT := Lib.hid (weightW_le x.ws)
  have hn1 : x.wn ≤ 2000000000 := by have := weightW_len x.ws; have := hx.1.2.1; omega
  have HN := Lib.hid hx.1.2.1
  obtain ⟨r, hr⟩ : ∃ r, weightM x = r := ⟨_, rfl⟩
  obtain ⟨g, hg⟩ : ∃ g, weightSg x.ss = g := ⟨_, rfl⟩
  obtain ⟨wl, hwl⟩ : ∃ w, weightW x.ws = w := ⟨_, rfl⟩
  rw [hg] at HSG HD hw1
  rw [hwl] at HT HD hw1
  rw [hr] at HD ⊢
  have HWL := Lib.hid hwl
  clear hw hx hr hg hwl
  obtain ⟨k, p, e, nm, wa, wn, wc, ws, sa, sn, sc, ss⟩ := x
  unfold MgOk at HX
  simp only at HD hw1 HX HSG HT hn1 HWL HN
  have st := Own.startOld W
  unfold mgV S
  have hszz : ∀ s : List UInt8, (⟨s.toArray⟩ : ByteArray).size = s.length := fun s => by simp [ByteArray.size]
  have z0 : IntKind.i64.wrap ((nm.length : Int) + (g : Int)) = (nm.length : Int) + (g : Int) := IntWalk.i64_in _ ⟨by omega, by omega⟩
  (try simp only [nsl, Value.cells, unB] at st)
  (try clear hc); have hc := st.facts; (try simp only [nfl, nft, Nat.reduceAdd] at hc)
  go_enter Tryz.func7, Tryz.ntmps7
  go_wp2_with ((((with_reducible refine wl_box ?_ (fun K hK => ?_)); rfl; refine owp_box (o := ⟨some 1, _, _, _, _, _⟩) rfl st ?_; apply Exists.intro; refine ⟨?_, ?_⟩; (focus (go_simp; try rfl)); (clear st; intro b1 w hb st; clear hb))); (try simp only [nsl, Value.cells, unB] at st); (try clear hc); have hc := st.facts; (try simp only [nfl, nft, Nat.reduceAdd] at hc))
  refine Rg4.wp_region4_eq #[0, 1, 3, 0, 8, 24, 63, 127] [5] [] (fun W' => Blk W' b1 [.int .i64 k, .int .i64 p, .int .i64 e, .string ⟨nm.toArray⟩, .slice wa wn wc, .slice sa sn sc]) [0, 1, 2, 3, 4, 5, 6, 7] (by kernel_rfl) (by kernel_rfl) (by kernel_rfl) (by kernel_rfl) (show Rg4.PB _ by repeat (first | with_reducible exact Rg4.pb_body | with_reducible exact Rg4.pb_bodyD rfl | with_reducible refine Rg4.pb_then ?_ | with_reducible refine Rg4.pb_inBlock ?_ | with_reducible refine Rg4.pb_noGoto ?_)) (st.drew.blk (i := 1) get1) ?_
  replace st := st.drew
  change Rg4.wp4 _ _ _ _ _ _ _ _ _ (World.drew _) _ _
  generalize World.drew _ = w at st ⊢
  (try clear hc); have hc := st.facts; (try simp only [nfl, nft, Nat.reduceAdd] at hc)
  (refine Rg4.w4_any (Rg4.want_none rfl) rfl ?_; apply Exists.intro; refine ⟨fun w' => ?_, ?_⟩; (focus (first | (go_simp; done) | (go_simp; first | rfl | (rw [if_neg] <;> first | rfl | omega) | (rw [if_pos] <;> first | rfl | omega)))); (try simp only [Rg4.nrm]))
  (refine Rg4.w4_cl (Rg4.want_none rfl) rfl ?_; apply Exists.intro; refine ⟨fun w' hcl => ?_, ?_⟩; (focus (have q3 := Blk.cell hcl 3; have q5 := Blk.cell hcl 5; (try simp at q3 q5); (focus (first | (go_simp; done) | (go_simp; first | rfl | (rw [if_neg] <;> first | rfl | omega) | (rw [if_pos] <;> first | rfl | omega)))))); (try simp only [Rg4.nrm]))
  iterate 2 (refine Rg4.w4_any (Rg4.want_none rfl) rfl ?_; apply Exists.intro; refine ⟨fun w' => ?_, ?_⟩; (focus (first | (go_simp; done) | (go_simp; first | rfl | (rw [if_neg] <;> first | rfl | omega) | (rw [if_pos] <;> first | rfl | omega)))); (try simp only [Rg4.nrm]))
  (refine Rg4.w4_cl (Rg4.want_none rfl) rfl ?_; apply Exists.intro; refine ⟨fun w' hcl => ?_, ?_⟩; (focus (have q3 := Blk.cell hcl 3; have q5 := Blk.cell hcl 5; (try simp at q3 q5); (focus (first | (go_simp; done) | (go_simp; first | rfl | (rw [if_neg] <;> first | rfl | omega) | (rw [if_pos] <;> first | rfl | omega)))))); (try simp only [Rg4.nrm]))
  refine Rg4.w4_bar (Rg4.want_none rfl) rfl (fun w' hw' hcl _ K hK => ?_)
  subst hw'
  go_wp2_with fail
  refine (HSG.out _ (st.oldFl (i := 0) get0 HX.out.2.1.2)).mono ?_
  rintro en w ⟨rfl, hx⟩
  replace st := st.ext hx
  clear hx
  (try clear hc); have hc := st.facts; (try simp only [nfl, nft, Nat.reduceAdd] at hc)
  refine hK _ _ ⟨st.blk (i := 1) get1, ?_⟩
  clear hK
  (try simp only [Rg4.nrm])
  iterate 2 (refine Rg4.w4_any (Rg4.want_none rfl) rfl ?_; apply Exists.intro; refine ⟨fun w' => ?_, ?_⟩; (focus (first | (go_simp; done) | (go_simp; first | rfl | (rw [if_neg] <;> first | rfl | omega) | (rw [if_pos] <;> first | rfl | omega)))); (try simp only [Rg4.nrm]))
  refine Rg4.w4_nil (fun w' hw' hcl' _ => ?_); subst hw'; clear hcl'
  go_wp2_with fail
  go_loopg [3, 16] wn (fun kk s i wr => ∃ (j q : Nat), j ≤ wn ∧ kk = wn - j ∧ i = .int .i64 (j : Int) ∧ Hid (q = weightW (ws.take j)) ∧ q ≤ wl ∧ s = .int .i64 ((nm.length : Int) + (g : Int) + (q : Int)) ∧ Own (fun _ => False) (fun _ => True) W [oldI W] wr)
  case atStart => exact ⟨0, 0, by omega, by omega, rfl, Lib.hid (by simp [weightW]), by omega, by simp, by simpa [pick] using st.keep [0] (by decide) (by simp)⟩
  case round =>
    obtain ⟨j, q, hj, rfl, rfl, HQ, hq, rfl, st'⟩ := hrel
    clear st hc
    have st := st'
    clear st'
    (try simp only [nsl, Value.cells, unB] at st)
    (try clear hc); have hc := st.facts; (try simp only [nfl, nft, Nat.reduceAdd] at hc)
    by_cases hjn : j < wn
    · obtain ⟨b, off, ha, hcell⟩ := HX.out.1.2.role (by omega)
      have hjl : j < ws.length := by have := HN.out; omega
      obtain ⟨r0, r1⟩ := hcell j ws[j] (List.getElem?_eq_getElem hjl)
      replace r0 := st.oldCell (i := 0) get0 r0
      replace r1 := st.oldCell (i := 0) get0 r1
      have hle := HT.out (j + 1)
      have HTK := Lib.hid (weightW_take ws j hjl)
      have hq2 : q + wtR ws[j] ≤ wl := by have := HTK.out; have := HQ.out; omega
      clear hcell hle
      generalize ws[j] = x at *
      obtain ⟨ro, rd⟩ := x
      subst ha
      have HWX : Hid (wtR (ro, rd) = 5 + ro.length + rd.length) := Lib.hid rfl
      rw [HWX.out] at hq2 HTK
      clear hjl HWX
      have z1 : IntKind.i64.wrap ((5 : Int) + (ro.length : Int)) = (5 : Int) + (ro.length : Int) := IntWalk.i64_in _ ⟨by omega, by omega⟩
      have z2 : IntKind.i64.wrap ((5 : Int) + (ro.length : Int) + (rd.length : Int)) = (5 : Int) + (ro.length : Int) + (rd.length : Int) := IntWalk.i64_in _ ⟨by omega, by omega⟩
      have z3 : IntKind.i64.wrap ((nm.length : Int) + (g : Int) + (q : Int) + ((5 : Int) + (ro.length : Int) + (rd.length : Int))) = (nm.length : Int) + (g : Int) + (q : Int) + ((5 : Int) + (ro.length : Int) + (rd.length : Int)) := IntWalk.i64_in _ ⟨by omega, by omega⟩
      simp only at r0 r1
      unfold S at r0 r1
      go_wp2_with ((first
            | ((with_reducible refine wl_alloc ?_ (fun K hK => ?_)); rfl; refine owp_alloc (o := ⟨some 5, _, _, _, _, _⟩) rfl st ?_; apply Exists.intro; apply Exists.intro; refine ⟨?_, ?_⟩; (focus (first | (go_simp; done) | (go_simp; rfl))); (clear st; intro b5 w hb st; clear hb))
            | ((with_reducible refine wl_store ?_ (fun K hK => ?_)); rfl; refine owp_store rfl st ?_; apply Exists.intro; apply Exists.intro; refine ⟨?_, ?_, ?_⟩; (focus (go_simp; try rfl)); (focus (go_simp; try rfl)); (with_reducible refine ⟨1, _, _, _, _, get1, rfl, rfl, ?_, ?_, ?_, ?_⟩); (kernel_rfl); (simp [Value.cells]); (rfl); (clear st; intro w st))); (try simp only [nsl, Value.cells, unB] at st); (try clear hc); have hc := st.facts; (try simp only [nfl, nft, Nat.reduceAdd] at hc))
      have st' := st.keep [0] (by decide) (by simp)
      go_roundg (wn - (j + 1))
      case measure => omega
      case rel => exact ⟨j + 1, q + (5 + ro.length + rd.length), by omega, by omega, by go_num, Lib.hid (by rw [HTK.out, HQ.out]), hq2, by first | go_num | (simp; omega), by simpa [pick] using st'⟩
    · obtain rfl : j = wn := by omega
      have hqw : q = wl := by
        have := HQ.out
        rw [List.take_of_length_le (by have := HN.out; omega), HWL.out] at this
        exact this
      subst hqw
      have HR : Hid ((r : Int) = (nm.length : Int) + (g : Int) + (q : Int)) := Lib.hid (by rw [HD.out]; simp)
      clear HT
      go_wp2_with fail
      go_ret
      exact ⟨by rw [HR.out]; rfl, st.ext0⟩
end Go.Proofs.YtekngjkjgmplpaaGreat

namespace Go.Proofs.YtekngjkjgmplpaaGreat
set_option linter.unusedSimpArgs false
set_option linter.unusedVariables false
open Go Go.RowKit
set_option maxRecDepth 100000 in
set_option maxHeartbeats 2000000 in
theorem refSgBytes_any (x : SgnT) (W : World) (hx : SgOk W x) (hr : credR x.c = true) (hn : x.n = 8) :
    Calls Tryz.prog 38 #[sgV x] W fun e w' => e = .returned (S (sgB x)) ∧ Ext W w' := by
  have happ := ba_append
  have hb1 := credB_len2 hr
  have HCB := Lib.hid (fun W => refCredBytes_any x.c W hr)
  have hxl := hx.2.1
  have htl : x.xs.length = 8 := by omega
  have HTX := Lib.hid (fun W => refText_any x.xs W (by omega))
  have st := (Own.startOld W).addOldBy (i := 0) rfl hx.2
  obtain ⟨u, hu⟩ : ∃ u, credB x.c = u := ⟨_, rfl⟩
  have HR : Hid (sgB x = u ++ (numB x.xs.length ++ x.xs)) := Lib.hid (by rw [← hu]; unfold sgB; rw [hxl])
  rw [hu] at HCB hb1
  obtain ⟨t, ht⟩ : ∃ t, numB x.xs.length ++ x.xs = t := ⟨_, rfl⟩
  have htl2 : t.length ≤ 18 := by
    have : (numB x.xs.length).length ≤ 10 := numF_len 10 _
    rw [← ht]; simp; omega
  rw [ht] at HTX HR
  rw [HR.out]
  clear hr hu hx ht HR
  obtain ⟨⟨ck, ⟨ho, hd⟩, cw, ⟨bo, bd⟩, ⟨co, cd⟩, we⟩, a1, n1, m1, xs⟩ := x
  unfold cV S at HCB
  unfold S at HTX
  unfold sgV S
  simp only at HCB HTX st hn htl ⊢
  subst hn
  (try simp only [nsl, Value.cells, unB] at st)
  (try clear hc); have hc := st.facts; (try simp only [nfl, nft, Nat.reduceAdd] at hc)
  go_enter Tryz.func38, Tryz.ntmps38
  go_wp2_with ((((with_reducible refine wl_box ?_ (fun K hK => ?_)); rfl; refine owp_box (o := ⟨some 1, _, _, _, _, _⟩) rfl st ?_; apply Exists.intro; refine ⟨?_, ?_⟩; (focus (go_simp; try rfl)); (clear st; intro b1 w hb st; clear hb))); (try simp only [nsl, Value.cells, unB] at st); (try clear hc); have hc := st.facts; (try simp only [nfl, nft, Nat.reduceAdd] at hc))
  refine Rg4.wp_region4 (Rel := Ext) #[0, 1, 3, 0, 8, 24, 63, 127, 255]
    [(2, .val (.string ⟨u.toArray⟩)), (6, .val (.string ⟨t.toArray⟩))] [] [1, 4, 5] (fun _ => True) [0, 1, 2, 3, 4, 5, 6, 7, 8] (by kernel_rfl) (by kernel_rfl) (by kernel_rfl) (by kernel_rfl) Ext.refl (fun _ _ _ => Ext.trans) (show Rg4.PB _ by repeat (first | with_reducible exact Rg4.pb_body | with_reducible exact Rg4.pb_bodyD rfl | with_reducible refine Rg4.pb_then ?_ | with_reducible refine Rg4.pb_inBlock ?_ | with_reducible refine Rg4.pb_noGoto ?_)) (trivial) ?_
  replace st := st.drew
  change Rg4.wp4 _ _ _ _ _ _ _ _ _ (World.drew _) _ _
  generalize World.drew _ = w at st ⊢
  (try clear hc); have hc := st.facts; (try simp only [nfl, nft, Nat.reduceAdd] at hc)
  (refine Rg4.w4_any (Rg4.want_none rfl) rfl ?_; apply Exists.intro; refine ⟨fun w' => ?_, ?_⟩; (focus (first | (go_simp; done) | (go_simp; first | rfl | (rw [if_neg] <;> first | rfl | omega) | (rw [if_pos] <;> first | rfl | omega)))); (try simp only [Rg4.nrm]))
  (refine Rg4.w4_read (Rg4.want_none rfl) rfl rfl ?_; apply Exists.intro; refine ⟨fun w' hw' hcl' => ?_, ?_⟩; focus (have st' := st.ext hw'; have hc' := st'.facts; (try simp only [nfl, nft, Nat.reduceAdd] at hc'); have q := conv_bs (P := Tryz.prog) (src := 26) (dst := 9) (c := m1) Tryz.underlying26 Tryz.underlying5 Tryz.underlying9 (st'.by (i := 1) get1); unfold S at q; (focus (first | (go_simp; done) | (go_simp; first | rfl | (rw [if_neg] <;> first | rfl | omega) | (rw [if_pos] <;> first | rfl | omega))))); (try simp only [Rg4.nrm]))
  refine Rg4.w4_some (Rg4.want_none rfl) rfl (fun w' hw' hcl' _ => ?_) ?_
  · refine Rg.relAt_call (by go_simp; exact ⟨rfl, rfl⟩) ?_
    refine (HCB.out _).mono ?_
    rintro en w'' ⟨rfl, hx⟩
    exact ⟨_, rfl, hx, trivial, rfl⟩
  rintro v ⟨_, _, _, rfl⟩
  (try simp only [Rg4.nrm])
  (refine Rg4.w4_any (Rg4.want_none rfl) rfl ?_; apply Exists.intro; refine ⟨fun w' => ?_, ?_⟩; (focus (first | (go_simp; done) | (go_simp; first | rfl | (rw [if_neg] <;> first | rfl | omega) | (rw [if_pos] <;> first | rfl | omega)))); (try simp only [Rg4.nrm]))
  iterate 2 (refine Rg4.w4_read (Rg4.want_none rfl) rfl rfl ?_; apply Exists.intro; refine ⟨fun w' hw' hcl' => ?_, ?_⟩; focus (have st' := st.ext hw'; have hc' := st'.facts; (try simp only [nfl, nft, Nat.reduceAdd] at hc'); have q := conv_bs (P := Tryz.prog) (src := 26) (dst := 9) (c := m1) Tryz.underlying26 Tryz.underlying5 Tryz.underlying9 (st'.by (i := 1) get1); unfold S at q; (focus (first | (go_simp; done) | (go_simp; first | rfl | (rw [if_neg] <;> first | rfl | omega) | (rw [if_pos] <;> first | rfl | omega))))); (try simp only [Rg4.nrm]))
  refine Rg4.w4_some (Rg4.want_none rfl) rfl (fun w' hw' hcl' _ => ?_) ?_
  · refine Rg.relAt_call (by go_simp; exact ⟨rfl, rfl⟩) ?_
    refine (HTX.out _).mono ?_
    rintro en w'' ⟨rfl, hx⟩
    exact ⟨_, rfl, hx, trivial, rfl⟩
  rintro v ⟨_, _, _, rfl⟩
  (try simp only [Rg4.nrm])
  iterate 2 (refine Rg4.w4_any (Rg4.want_none rfl) rfl ?_; apply Exists.intro; refine ⟨fun w' => ?_, ?_⟩; (focus (first | (go_simp; done) | (go_simp; first | rfl | (rw [if_neg] <;> first | rfl | omega) | (rw [if_pos] <;> first | rfl | omega)))); (try simp only [Rg4.nrm]))
  refine Rg4.w4_nil (fun w' hw' hcl' _ => ?_); replace st := st.ext hw'; clear hw' hcl'; (try clear hc); have hc := st.facts; (try simp only [nfl, nft, Nat.reduceAdd] at hc)
  go_wp2_with fail
  go_ret
  exact ⟨by simp, st.ext0⟩
set_option maxRecDepth 100000 in
set_option maxHeartbeats 8000000 in
theorem refMsgBytes_any (x : MsgT) (W : World) (hx : MgOk W x) (hr : mgR x = true) : Calls Tryz.prog 10 #[mgV x] W fun e w' => e = .returned (S (mgB x)) ∧ Ext W w' := by
  have happ := ba_append
  have hk := (mgR_k hr).2
  have HX := Lib.hid hx
  have HB : Hid (mgB x = numB x.k.toNat ++
    (if x.k = 1 then (numB x.nm.length ++ x.nm) ++ numB x.p.toNat else if x.k = 2 then numB x.wn ++ x.ws.flatMap roleB ++ numB x.sn ++ x.ss.flatMap sgB else if x.k = 5 then numB x.e.toNat else [])) := Lib.hid rfl
  have H1 := Lib.hid (mgR_1 hr)
  have H2 := Lib.hid (fun q => (And.intro (wantsR_is (mgR_2 hr q).1) (showsR_is (mgR_2 hr q).2)))
  have H5 := Lib.hid (mgR_5 hr)
  obtain ⟨r, hrr⟩ : ∃ r, mgB x = r := ⟨_, rfl⟩
  rw [hrr] at HB ⊢
  clear hx hr hrr
  obtain ⟨k, pl, e, nm, wa, wn, wc, ws, sa, sn, sc, ss⟩ := x
  simp only at hk HB H1 H2 H5
  unfold MgOk at HX
  simp only at HX
  have st := Own.startOld W
  unfold mgV S
  (try simp only [nsl, Value.cells, unB] at st)
  (try clear hc); have hc := st.facts; (try simp only [nfl, nft, Nat.reduceAdd] at hc)
  rcases hk with rfl | rfl | rfl | rfl | rfl
  · obtain ⟨hn1, hp1⟩ := H1.out rfl
    obtain ⟨pn, rfl⟩ : ∃ q : Nat, pl = (q : Int) := ⟨pl.toNat, by omega⟩
    have hl3 := (nameR_len hn1).2
    have hb3 : (numB nm.length).length ≤ 10 := numF_len 10 nm.length
    have hb1 : (numB 1).length ≤ 10 := numF_len 10 1
    have hb4 : (numB pn).length ≤ 10 := numF_len 10 pn
    have HTX := Lib.hid (fun W => refText_any nm W (by omega))
    have HNX := Lib.hid (fun W => refNumber_any pn W (by omega))
    unfold S at HTX HNX
    obtain ⟨t, ht⟩ : ∃ t, numB nm.length ++ nm = t := ⟨_, rfl⟩
    have htl : t.length ≤ 26 := by rw [← ht]; simp; omega
    have HF : Hid (r = numB 1 ++ (t ++ numB pn)) := Lib.hid (by rw [HB.out, if_pos rfl, ← ht]; simp)
    rw [ht] at HTX
    clear hn1 hp1 HB H1 H2 H5 ht
    go_enter Tryz.func10, Tryz.ntmps10
    go_wp2_with ((((with_reducible refine wl_box ?_ (fun K hK => ?_)); rfl; refine owp_box (o := ⟨some 1, _, _, _, _, _⟩) rfl st ?_; apply Exists.intro; refine ⟨?_, ?_⟩; (focus (go_simp; try rfl)); (clear st; intro b1 w hb st; clear hb))); (try simp only [nsl, Value.cells, unB] at st); (try clear hc); have hc := st.facts; (try simp only [nfl, nft, Nat.reduceAdd] at hc))
    refine (refNumber_any 1 _ (by decide)).mono ?_
    rintro en w ⟨rfl, hx⟩
    replace st := st.ext hx
    clear hx
    (try clear hc); have hc := st.facts; (try simp only [nfl, nft, Nat.reduceAdd] at hc)
    unfold S
    go_wp2_with fail
    refine Rg4.wp_region4 (Rel := Ext) #[0, 0, 2, 6, 0, 16, 62, 126, 255, 511]
      [(3, .val (.string ⟨t.toArray⟩)), (6, .val (.string ⟨(numB pn).toArray⟩))] [] [2, 5] (fun _ => True) [0, 1, 2, 3, 4, 5, 6, 7, 8, 9] (by kernel_rfl) (by kernel_rfl) (by kernel_rfl) (by kernel_rfl) Ext.refl (fun _ _ _ => Ext.trans) (show Rg4.PB _ by repeat (first | with_reducible exact Rg4.pb_body | with_reducible exact Rg4.pb_bodyD rfl | with_reducible refine Rg4.pb_then ?_ | with_reducible refine Rg4.pb_inBlock ?_ | with_reducible refine Rg4.pb_noGoto ?_)) (trivial) ?_
    replace st := st.drew
    change Rg4.wp4 _ _ _ _ _ _ _ _ _ (World.drew _) _ _
    generalize World.drew _ = w at st ⊢
    (try clear hc); have hc := st.facts; (try simp only [nfl, nft, Nat.reduceAdd] at hc)
    iterate 2 (refine Rg4.w4_any (Rg4.want_none rfl) rfl ?_; apply Exists.intro; refine ⟨fun w' => ?_, ?_⟩; (focus (first | (go_simp; done) | (go_simp; first | rfl | (rw [if_neg] <;> first | rfl | omega) | (rw [if_pos] <;> first | rfl | omega)))); (try simp only [Rg4.nrm]))
    (refine Rg4.w4_read (Rg4.want_none rfl) rfl rfl ?_; apply Exists.intro; refine ⟨fun w' hw' hcl' => ?_, ?_⟩; focus (have st' := st.ext hw'; have hc' := st'.facts; (try simp only [nfl, nft, Nat.reduceAdd] at hc'); (focus (first | (go_simp; done) | (go_simp; first | rfl | (rw [if_neg] <;> first | rfl | omega) | (rw [if_pos] <;> first | rfl | omega))))); (try simp only [Rg4.nrm]))
    refine Rg4.w4_some (Rg4.want_none rfl) rfl (fun w' hw' hcl' _ => ?_) ?_
    · refine Rg.relAt_call (by go_simp; exact ⟨rfl, rfl⟩) ?_
      refine (HTX.out _).mono ?_
      rintro en w'' ⟨rfl, hx⟩
      exact ⟨_, rfl, hx, trivial, rfl⟩
    rintro v ⟨_, _, _, rfl⟩
    (try simp only [Rg4.nrm])
    (refine Rg4.w4_any (Rg4.want_none rfl) rfl ?_; apply Exists.intro; refine ⟨fun w' => ?_, ?_⟩; (focus (first | (go_simp; done) | (go_simp; first | rfl | (rw [if_neg] <;> first | rfl | omega) | (rw [if_pos] <;> first | rfl | omega)))); (try simp only [Rg4.nrm]))
    (refine Rg4.w4_read (Rg4.want_none rfl) rfl rfl ?_; apply Exists.intro; refine ⟨fun w' hw' hcl' => ?_, ?_⟩; focus (have st' := st.ext hw'; have hc' := st'.facts; (try simp only [nfl, nft, Nat.reduceAdd] at hc'); (focus (first | (go_simp; done) | (go_simp; first | rfl | (rw [if_neg] <;> first | rfl | omega) | (rw [if_pos] <;> first | rfl | omega))))); (try simp only [Rg4.nrm]))
    refine Rg4.w4_some (Rg4.want_none rfl) rfl (fun w' hw' hcl' _ => ?_) ?_
    · refine Rg.relAt_call (by go_simp; exact ⟨rfl, rfl⟩) ?_
      refine (HNX.out _).mono ?_
      rintro en w'' ⟨rfl, hx⟩
      exact ⟨_, rfl, hx, trivial, rfl⟩
    rintro v ⟨_, _, _, rfl⟩
    (try simp only [Rg4.nrm])
    iterate 3 (refine Rg4.w4_any (Rg4.want_none rfl) rfl ?_; apply Exists.intro; refine ⟨fun w' => ?_, ?_⟩; (focus (first | (go_simp; done) | (go_simp; first | rfl | (rw [if_neg] <;> first | rfl | omega) | (rw [if_pos] <;> first | rfl | omega)))); (try simp only [Rg4.nrm]))
    refine Rg4.w4_nil (fun w' hw' hcl' _ => ?_); replace st := st.ext hw'; clear hw' hcl'; (try clear hc); have hc := st.facts; (try simp only [nfl, nft, Nat.reduceAdd] at hc)
    go_wp2_with fail
    go_ret
    exact ⟨by rw [HF.out]; simp, st.ext0⟩
  · obtain ⟨⟨hwl, hwr⟩, hsl, hsr⟩ := H2.out rfl
    have HF : Hid (r = numB 2 ++ (numB wn ++ ws.flatMap roleB ++ numB sn ++ ss.flatMap sgB)) := Lib.hid (by rw [HB.out, if_neg (by decide), if_pos rfl]; rfl)
    have hw1 : wn = ws.length := HX.out.1.2.1
    have hs1 : sn = ss.length := HX.out.2.1.2.1
    have HWR := Lib.hid (And.intro hwr hw1)
    have HSR := Lib.hid (And.intro hsr hs1)
    have hwn : wn ≤ 16 := by omega
    have hsn : sn ≤ 8 := by omega
    have hb1 : (numB 2).length ≤ 10 := numF_len 10 2
    have hb2 : (numB wn).length ≤ 10 := numF_len 10 wn
    have hb3 : (numB sn).length ≤ 10 := numF_len 10 sn
    clear hwl hwr hsl hsr HB H1 H2 H5 hw1 hs1
    go_enter Tryz.func10, Tryz.ntmps10
    go_wp2_with ((((with_reducible refine wl_box ?_ (fun K hK => ?_)); rfl; refine owp_box (o := ⟨some 1, _, _, _, _, _⟩) rfl st ?_; apply Exists.intro; refine ⟨?_, ?_⟩; (focus (go_simp; try rfl)); (clear st; intro b1 w hb st; clear hb))); (try simp only [nsl, Value.cells, unB] at st); (try clear hc); have hc := st.facts; (try simp only [nfl, nft, Nat.reduceAdd] at hc))
    refine (refNumber_any 2 _ (by decide)).mono ?_
    rintro en w ⟨rfl, hx⟩
    replace st := st.ext hx
    clear hx
    (try clear hc); have hc := st.facts; (try simp only [nfl, nft, Nat.reduceAdd] at hc)
    unfold S
    go_wp2_with fail
    refine (refNumber_any wn _ (by omega)).mono ?_
    rintro en w ⟨rfl, hx⟩
    replace st := st.ext hx
    clear hx
    (try clear hc); have hc := st.facts; (try simp only [nfl, nft, Nat.reduceAdd] at hc)
    unfold S
    go_wp2_with fail
    obtain ⟨y0, hy0⟩ : ∃ y, numB 2 ++ numB wn = y := ⟨_, rfl⟩
    have hyl : y0.length ≤ 20 := by rw [← hy0]; simp; omega
    have HY0 := Lib.hid hy0
    clear hy0
    go_loopg [3, 35] wn (fun kk v i wr => ∃ (j m : Nat) (ys : List UInt8), j ≤ wn ∧ kk = wn - j ∧ i = .int .i64 (j : Int) ∧ v = .string ⟨ys.toArray⟩ ∧ Hid (ys = y0 ++ (ws.take j).flatMap roleB) ∧ Hid (m = ys.length) ∧ m ≤ 20 + 100 * j ∧ Own (fun _ => False) (fun _ => True) W [oldI W, blkI b1 [.int .i64 2, .int .i64 pl, .int .i64 e, .string ⟨nm.toArray⟩, .slice wa wn wc, .slice sa sn sc]] wr)
    case atStart => exact ⟨0, _, y0, by omega, by omega, rfl, by rw [← HY0.out] <;> simp, Lib.hid (by simp), Lib.hid rfl, by omega, st⟩
    case round =>
      obtain ⟨j, m, ys, hj, rfl, rfl, rfl, HY, HM, hm, st'⟩ := hrel
      clear st hc
      have st := st'
      clear st'
      (try simp only [nsl, Value.cells, unB] at st)
      (try clear hc); have hc := st.facts; (try simp only [nfl, nft, Nat.reduceAdd] at hc)
      by_cases hjn : j < wn
      · obtain ⟨b, off, ha, hcell⟩ := HX.out.1.2.role (by omega)
        have hjl : j < ws.length := by have := HWR.out.2; omega
        obtain ⟨r0, r1⟩ := hcell j ws[j] (List.getElem?_eq_getElem hjl)
        replace r0 := st.oldCell (i := 0) get0 r0
        replace r1 := st.oldCell (i := 0) get0 r1
        have hts : ws.take (j + 1) = ws.take j ++ [ws[j]] := (List.take_append_getElem hjl).symm
        have hR := HWR.out.1 ws[j] (List.getElem_mem hjl)
        have hbl := roleB_len hR
        have hrl := roleR_len hR
        clear hcell
        generalize ws[j] = x at *
        obtain ⟨ro, rd⟩ := x
        have HRB := Lib.hid (fun W => refRoleBytes_any (ro, rd) W (by simp only at hrl ⊢; omega) (by simp only at hrl ⊢; omega))
        obtain ⟨rb, hrb⟩ : ∃ s, roleB (ro, rd) = s := ⟨_, rfl⟩
        rw [hrb] at hbl HRB
        have HX2 := Lib.hid (And.intro hts hrb)
        unfold rV S at HRB
        clear hts hR hjl hrb hrl
        subst ha
        simp only at r0 r1
        unfold S at r0 r1
        have hml : ys.length ≤ 20 + 100 * j := by have := HM.out; omega
        go_wp2_with ((first
              | ((with_reducible refine wl_alloc ?_ (fun K hK => ?_)); rfl; refine owp_alloc (o := ⟨some 5, _, _, _, _, _⟩) rfl st ?_; apply Exists.intro; apply Exists.intro; refine ⟨?_, ?_⟩; (focus (first | (go_simp; done) | (go_simp; rfl))); (clear st; intro b5 w hb st; clear hb))
              | ((with_reducible refine wl_store ?_ (fun K hK => ?_)); rfl; refine owp_store rfl st ?_; apply Exists.intro; apply Exists.intro; refine ⟨?_, ?_, ?_⟩; (focus (go_simp; try rfl)); (focus (go_simp; try rfl)); (with_reducible refine ⟨2, _, _, _, _, get2, rfl, rfl, ?_, ?_, ?_, ?_⟩); (kernel_rfl); (simp [Value.cells]); (rfl); (clear st; intro w st))); (try simp only [nsl, Value.cells, unB] at st); (try clear hc); have hc := st.facts; (try simp only [nfl, nft, Nat.reduceAdd] at hc))
        refine (HRB.out _).mono ?_
        rintro en w ⟨rfl, hx⟩
        replace st := st.ext hx
        clear hx
        (try clear hc); have hc := st.facts; (try simp only [nfl, nft, Nat.reduceAdd] at hc)
        go_wp2_with fail
        have st' := st.keep [0, 1] (by decide) (by simp)
        go_roundg (wn - (j + 1))
        case measure => omega
        case rel => exact ⟨j + 1, _, ys ++ rb, by omega, by omega, by go_num, by simp, Lib.hid (by rw [HX2.out.1, List.flatMap_append, ← List.append_assoc, ← HY.out]; simp [HX2.out.2]), Lib.hid rfl, by simp; omega, by simpa [pick] using st'⟩
      · obtain rfl : j = wn := by omega
        have HYE : Hid (numB 2 ++ numB j ++ ws.flatMap roleB = ys) := Lib.hid (by rw [HY.out, HY0.out, List.take_of_length_le (by have := HWR.out.2; omega)])
        have hml : ys.length ≤ 2000 := by have := HM.out; omega
        clear HY HM hm HY0
        go_wp2_with fail
        refine (refNumber_any sn _ (by omega)).mono ?_
        rintro en w ⟨rfl, hx⟩
        replace st := st.ext hx
        clear hx
        (try clear hc); have hc := st.facts; (try simp only [nfl, nft, Nat.reduceAdd] at hc)
        unfold S
        go_wp2_with fail
        obtain ⟨z0, hz0⟩ : ∃ z, ys ++ numB sn = z := ⟨_, rfl⟩
        have hzl : z0.length ≤ 2010 := by rw [← hz0]; simp; omega
        have HZ0 := Lib.hid hz0
        clear hz0
        go_loopg [3, 53] sn (fun kk v i wr => ∃ (q m : Nat) (zs : List UInt8), q ≤ sn ∧ kk = sn - q ∧ i = .int .i64 (q : Int) ∧ v = .string ⟨zs.toArray⟩ ∧ Hid (zs = z0 ++ (ss.take q).flatMap sgB) ∧ Hid (m = zs.length) ∧ m ≤ 2010 + 400 * q ∧ Own (fun _ => False) (fun _ => True) W [oldI W, blkI b1 [.int .i64 2, .int .i64 pl, .int .i64 e, .string ⟨nm.toArray⟩, .slice wa j wc, .slice sa sn sc]] wr)
        case atStart => exact ⟨0, _, z0, by omega, by omega, rfl, by rw [← HZ0.out] <;> simp, Lib.hid (by simp), Lib.hid rfl, by omega, by first | exact st | simpa [pick] using st.keep [0, 1] (by decide) (by simp)⟩
        case round =>
          obtain ⟨q, m, zs, hq, rfl, rfl, rfl, HZ, HM, hm, st'⟩ := hrel
          clear st hc
          have st := st'
          clear st'
          (try simp only [nsl, Value.cells, unB] at st)
          (try clear hc); have hc := st.facts; (try simp only [nfl, nft, Nat.reduceAdd] at hc)
          by_cases hqn : q < sn
          · obtain ⟨b, off, ha, hcell⟩ := HX.out.2.1.2.sgn (by omega)
            have hql : q < ss.length := by have := HSR.out.2; omega
            obtain ⟨r0, r1, r2, r3, r4, r5, r6, r7, r8, r9⟩ := hcell q ss[q] (List.getElem?_eq_getElem hql)
            replace r0 := st.oldCell (i := 0) get0 r0
            replace r1 := st.oldCell (i := 0) get0 r1
            replace r2 := st.oldCell (i := 0) get0 r2
            replace r3 := st.oldCell (i := 0) get0 r3
            replace r4 := st.oldCell (i := 0) get0 r4
            replace r5 := st.oldCell (i := 0) get0 r5
            replace r6 := st.oldCell (i := 0) get0 r6
            replace r7 := st.oldCell (i := 0) get0 r7
            replace r8 := st.oldCell (i := 0) get0 r8
            replace r9 := st.oldCell (i := 0) get0 r9
            have hts : ss.take (q + 1) = ss.take q ++ [ss[q]] := (List.take_append_getElem hql).symm
            have hR := HSR.out.1 ss[q] (List.getElem_mem hql)
            have HSO := Lib.hid (HX.out.2.2 ss[q] (List.getElem_mem hql))
            have hbl := sgB_len hR.1 hR.2 HSO.out.2.1
            clear hcell
            generalize ss[q] = x at *
            have HKP := Lib.hid (fun W' (hw : Ext W W') => refSgBytes_any x W' (HSO.out.ext hw) hR.1 hR.2)
            obtain ⟨sb, hsb⟩ : ∃ s, sgB x = s := ⟨_, rfl⟩
            rw [hsb] at hbl HKP
            have HX2 := Lib.hid (And.intro hts hsb)
            clear hts hR hql hsb
            obtain ⟨⟨ck, ⟨ho, hd⟩, cw, ⟨bo, bd⟩, ⟨co, cd⟩, we⟩, a1, n1, m1, tg⟩ := x
            subst ha
            simp only at r0 r1 r2 r3 r4 r5 r6 r7 r8 r9
            unfold S at r1 r2 r3 r4 r5 r6 r7 r8
            unfold sgV S at HKP
            simp only at HKP
            have hml : zs.length ≤ 2010 + 400 * q := by have := HM.out; omega
            go_wp2_with ((first
                  | ((with_reducible refine wl_store ?_ (fun K hK => ?_)); rfl; refine owp_store rfl st ?_; apply Exists.intro; apply Exists.intro; refine ⟨?_, ?_, ?_⟩; (focus (go_simp; try rfl)); (focus (go_simp; try rfl)); (with_reducible refine ⟨2, _, _, _, _, get2, rfl, rfl, ?_, ?_, ?_, ?_⟩); (kernel_rfl); (simp [Value.cells]); (rfl); (clear st; intro w st))
                  | ((with_reducible refine wl_alloc ?_ (fun K hK => ?_)); rfl; refine owp_alloc (o := ⟨some 7, _, _, _, _, _⟩) rfl st ?_; apply Exists.intro; apply Exists.intro; refine ⟨?_, ?_⟩; (focus (first | (go_simp; done) | (go_simp; rfl))); (clear st; intro b7 w hb st; clear hb))); (try simp only [nsl, Value.cells, unB] at st); (try clear hc); have hc := st.facts; (try simp only [nfl, nft, Nat.reduceAdd] at hc))
            refine (HKP.out _ st.ext0).mono ?_
            rintro en w ⟨rfl, hx⟩
            replace st := st.ext hx
            clear hx
            (try clear hc); have hc := st.facts; (try simp only [nfl, nft, Nat.reduceAdd] at hc)
            go_wp2_with fail
            have st' := st.keep [0, 1] (by decide) (by simp)
            go_roundg (sn - (q + 1))
            case measure => omega
            case rel => exact ⟨q + 1, _, zs ++ sb, by omega, by omega, by go_num, by simp, Lib.hid (by rw [HX2.out.1, List.flatMap_append, ← List.append_assoc, ← HZ.out]; simp [HX2.out.2]), Lib.hid rfl, by simp; omega, by simpa [pick] using st'⟩
          · obtain rfl : q = sn := by omega
            have HFF : Hid (r = zs) := Lib.hid (by rw [HF.out, HZ.out, ← HZ0.out, ← HYE.out, List.take_of_length_le (by have := HSR.out.2; omega)]; simp)
            go_wp2_with fail
            go_ret
            exact ⟨by rw [HFF.out]; rfl, st.ext0⟩
  · have HF : Hid (r = numB 3) := Lib.hid (by rw [HB.out, if_neg (by decide), if_neg (by decide), if_neg (by decide)]; simp)
    clear HB H1 H2 H5
    go_enter Tryz.func10, Tryz.ntmps10
    go_wp2_with ((((with_reducible refine wl_box ?_ (fun K hK => ?_)); rfl; refine owp_box (o := ⟨some 1, _, _, _, _, _⟩) rfl st ?_; apply Exists.intro; refine ⟨?_, ?_⟩; (focus (go_simp; try rfl)); (clear st; intro b1 w hb st; clear hb))); (try simp only [nsl, Value.cells, unB] at st); (try clear hc); have hc := st.facts; (try simp only [nfl, nft, Nat.reduceAdd] at hc))
    refine (refNumber_any 3 _ (by decide)).mono ?_
    rintro en w ⟨rfl, hx⟩
    replace st := st.ext hx
    clear hx
    (try clear hc); have hc := st.facts; (try simp only [nfl, nft, Nat.reduceAdd] at hc)
    unfold S
    go_wp2_with fail
    go_ret
    exact ⟨by rw [HF.out]; rfl, st.ext0⟩
  · have HF : Hid (r = numB 4) := Lib.hid (by rw [HB.out, if_neg (by decide), if_neg (by decide), if_neg (by decide)]; simp)
    clear HB H1 H2 H5
    go_enter Tryz.func10, Tryz.ntmps10
    go_wp2_with ((((with_reducible refine wl_box ?_ (fun K hK => ?_)); rfl; refine owp_box (o := ⟨some 1, _, _, _, _, _⟩) rfl st ?_; apply Exists.intro; refine ⟨?_, ?_⟩; (focus (go_simp; try rfl)); (clear st; intro b1 w hb st; clear hb))); (try simp only [nsl, Value.cells, unB] at st); (try clear hc); have hc := st.facts; (try simp only [nfl, nft, Nat.reduceAdd] at hc))
    refine (refNumber_any 4 _ (by decide)).mono ?_
    rintro en w ⟨rfl, hx⟩
    replace st := st.ext hx
    clear hx
    (try clear hc); have hc := st.facts; (try simp only [nfl, nft, Nat.reduceAdd] at hc)
    unfold S
    go_wp2_with fail
    go_ret
    exact ⟨by rw [HF.out]; rfl, st.ext0⟩
  · obtain ⟨he1, he2⟩ := H5.out rfl
    obtain ⟨en, rfl⟩ : ∃ q : Nat, e = (q : Int) := ⟨e.toNat, by omega⟩
    have HF : Hid (r = numB 5 ++ numB en) := Lib.hid (by rw [HB.out, if_neg (by decide), if_neg (by decide), if_pos rfl]; simp)
    have hb1 : (numB 5).length ≤ 10 := numF_len 10 5
    have hb2 : (numB en).length ≤ 10 := numF_len 10 en
    have hen : en ≤ 99 := by omega
    clear HB H1 H2 H5 he1 he2
    go_enter Tryz.func10, Tryz.ntmps10
    go_wp2_with ((((with_reducible refine wl_box ?_ (fun K hK => ?_)); rfl; refine owp_box (o := ⟨some 1, _, _, _, _, _⟩) rfl st ?_; apply Exists.intro; refine ⟨?_, ?_⟩; (focus (go_simp; try rfl)); (clear st; intro b1 w hb st; clear hb))); (try simp only [nsl, Value.cells, unB] at st); (try clear hc); have hc := st.facts; (try simp only [nfl, nft, Nat.reduceAdd] at hc))
    refine (refNumber_any 5 _ (by decide)).mono ?_
    rintro en w ⟨rfl, hx⟩
    replace st := st.ext hx
    clear hx
    (try clear hc); have hc := st.facts; (try simp only [nfl, nft, Nat.reduceAdd] at hc)
    unfold S
    go_wp2_with fail
    refine (refNumber_any en _ (by omega)).mono ?_
    rintro en w ⟨rfl, hx⟩
    replace st := st.ext hx
    clear hx
    (try clear hc); have hc := st.facts; (try simp only [nfl, nft, Nat.reduceAdd] at hc)
    unfold S
    go_wp2_with fail
    go_ret
    exact ⟨by rw [HF.out]; simp, st.ext0⟩
theorem mgB_len {W : World} {x : MsgT} (hx : MgOk W x) (h : mgR x = true) : (mgB x).length ≤ 10000 := by
  have n1 : (numB x.k.toNat).length ≤ 10 := numF_len 10 _
  have n2 : (numB x.wn).length ≤ 10 := numF_len 10 _
  have n3 : (numB x.sn).length ≤ 10 := numF_len 10 _
  have n4 : (numB x.nm.length).length ≤ 10 := numF_len 10 _
  have n5 : (numB x.p.toNat).length ≤ 10 := numF_len 10 _
  have n6 : (numB x.e.toNat).length ≤ 10 := numF_len 10 _
  unfold mgB
  rw [List.length_append]
  split
  · have := (nameR_len (mgR_1 h (by assumption)).1).2
    simp only [List.length_append]; omega
  · split
    · obtain ⟨h1, h2⟩ := mgR_2 h (by assumption)
      have w1 := wantsR_is h1
      have s1 := showsR_is h2
      have a1 := flatLen roleB 60 x.ws (fun y hy => roleB_len (w1.2 y hy))
      have a2 := flatLen sgB 400 x.ss (fun y hy => sgB_len (s1.2 y hy).1 (s1.2 y hy).2 (hx.2.2 y hy).2.1)
      simp only [List.length_append]; omega
    · split
      · omega
      · simp; omega
set_option maxRecDepth 100000 in
set_option maxHeartbeats 2000000 in
theorem msgBytes_any (x : MsgT) (W : World) (hx : MgOk W x) (lx : MgL x) :
    Calls Tryz.prog 40 #[mgV x] W fun e w' => ∃ a n c, e = .returned (.slice a n c) ∧ FreshI W w' (rowI 5 1 (.slice a n c) n ((mgBy x).map B)) := by
  have HX := Lib.hid hx
  have HE := Lib.hid (show mgBy x = if mgR x = true then mgB x else [] from rfl)
  have HUL : Hid (mgR x = true → (mgB x).length ≤ 10000) := Lib.hid (mgB_len hx)
  have HPY := Lib.hid (fun (fr al : Nat → Prop) (W' : World) (p : Nat) (st : Own fr al W' [penI p [], oldI W] W') q => msgPut_yes x st hx lx q (by simp))
  have HPN := Lib.hid (fun p W' (h : MgOk W' x) q => msgPut_no p x W' h lx q)
  obtain ⟨r, hr⟩ : ∃ r, mgBy x = r := ⟨_, rfl⟩
  obtain ⟨u, hu⟩ : ∃ u, mgB x = u := ⟨_, rfl⟩
  rw [hu] at HPY HUL HE
  rw [hr] at HE ⊢
  clear hx lx hr hu
  obtain ⟨mr, hmr⟩ : ∃ q, mgR x = q := ⟨_, rfl⟩
  rw [hmr] at HPY HPN HE HUL
  clear hmr
  obtain ⟨k, p, e, nm, wa, wn, wc, ws, sa, sn, sc, ss⟩ := x
  unfold mgV S at *
  have st := Own.startOld W
  (try simp only [nsl, Value.cells, unB] at st)
  (try clear hc); have hc := st.facts; (try simp only [nfl, nft, Nat.reduceAdd] at hc)
  cases mr with
  | true =>
    have hul := HUL.out rfl
    have HF : Hid (r = u) := Lib.hid (by rw [HE.out, if_pos rfl])
    go_enter Tryz.func40, Tryz.ntmps40
    go_wp2_with ((first
          | ((with_reducible refine wl_box ?_ (fun K hK => ?_)); rfl; refine owp_box (o := ⟨some 1, _, _, _, _, _⟩) rfl st ?_; apply Exists.intro; refine ⟨?_, ?_⟩; (focus (go_simp; try rfl)); (clear st; intro b1 w hb st; clear hb))
          | ((with_reducible refine wl_box ?_ (fun K hK => ?_)); rfl; refine owp_box (o := ⟨some 5, _, _, _, _, _⟩) rfl st ?_; apply Exists.intro; refine ⟨?_, ?_⟩; (focus (go_simp; try rfl)); (clear st; intro b5 w hb st; clear hb))); (try simp only [nsl, Value.cells, unB] at st); (try clear hc); have hc := st.facts; (try simp only [nfl, nft, Nat.reduceAdd] at hc))
    replace st := st.newPen (i := 2) get2
    (try simp only [nsl, Value.cells, unB] at st)
    (try clear hc); have hc := st.facts; (try simp only [nfl, nft, Nat.reduceAdd] at hc)
    obtain ⟨fr', al', st', back⟩ := st.sub [2, 0] (by decide) (by simp)
    (try simp only [nsl, Value.cells, unB] at st')
    refine (HPY.out _ _ _ _ st' (by trivial)).mono ?_
    clear st'
    rintro en w ⟨rfl, st'⟩
    replace st := back _ _ (by simp) st'
    clear back st'
    (try simp only [nsl, Value.cells, unB] at st)
    (try clear hc); have hc := st.facts; (try simp only [nfl, nft, Nat.reduceAdd] at hc)
    (try simp only [List.nil_append] at st)
    go_wp2_with fail
    obtain ⟨fr', al', st', back⟩ := st.sub [2] (by decide) (by simp)
    (try simp only [nsl, Value.cells, unB] at st')
    refine (penBytesRow_c st' (by omega)).mono ?_
    clear st'
    rintro en w ⟨pa, pc, rfl, hpc, st'⟩
    replace st := back _ _ (by simp) st'
    clear back st'
    (try simp only [nsl, Value.cells, unB] at st)
    (try clear hc); have hc := st.facts; (try simp only [nfl, nft, Nat.reduceAdd] at hc)
    go_wp2_with fail
    go_ret
    exact ⟨_, _, _, rfl, by rw [HF.out]; exact st.toFresh (i := 3) get3⟩
  | false =>
    have HF : Hid (r = []) := Lib.hid (by rw [HE.out, if_neg (by decide)])
    go_enter Tryz.func40, Tryz.ntmps40
    go_wp2_with ((first
          | ((with_reducible refine wl_box ?_ (fun K hK => ?_)); rfl; refine owp_box (o := ⟨some 1, _, _, _, _, _⟩) rfl st ?_; apply Exists.intro; refine ⟨?_, ?_⟩; (focus (go_simp; try rfl)); (clear st; intro b1 w hb st; clear hb))
          | ((with_reducible refine wl_box ?_ (fun K hK => ?_)); rfl; refine owp_box (o := ⟨some 5, _, _, _, _, _⟩) rfl st ?_; apply Exists.intro; refine ⟨?_, ?_⟩; (focus (go_simp; try rfl)); (clear st; intro b5 w hb st; clear hb))); (try simp only [nsl, Value.cells, unB] at st); (try clear hc); have hc := st.facts; (try simp only [nfl, nft, Nat.reduceAdd] at hc))
    replace st := st.newPen (i := 2) get2
    (try simp only [nsl, Value.cells, unB] at st)
    (try clear hc); have hc := st.facts; (try simp only [nfl, nft, Nat.reduceAdd] at hc)
    refine (HPN.out _ _ (st.oldMg (i := 0) get0 HX.out) (.inr (by trivial))).mono ?_
    rintro en w ⟨rfl, hx⟩
    replace st := st.ext hx
    clear hx
    (try simp only [nsl, Value.cells, unB] at st)
    (try clear hc); have hc := st.facts; (try simp only [nfl, nft, Nat.reduceAdd] at hc)
    go_wp2_with fail
    obtain ⟨fr', al', st', back⟩ := st.sub [2] (by decide) (by simp)
    (try simp only [nsl, Value.cells, unB] at st')
    refine (penBytesRow_c st' (by simp)).mono ?_
    clear st'
    rintro en w ⟨pa, pc, rfl, hpc, st'⟩
    replace st := back _ _ (by simp) st'
    clear back st'
    (try simp only [nsl, Value.cells, unB] at st)
    (try clear hc); have hc := st.facts; (try simp only [nfl, nft, Nat.reduceAdd] at hc)
    simp only [List.length_nil] at st hpc ⊢
    (try simp only [nsl, Value.cells, unB] at st)
    (try clear hc); have hc := st.facts; (try simp only [nfl, nft, Nat.reduceAdd] at hc)
    go_wp2_with fail
    go_ret
    exact ⟨_, _, _, rfl, by rw [HF.out]; exact st.toFresh (i := 3) get3⟩
end Go.Proofs.YtekngjkjgmplpaaGreat

namespace Go.Proofs.YtekngjkjgmplpaaGreat
set_option linter.unusedSimpArgs false
set_option linter.unusedVariables false
open Go Go.RowKit
/-- One behind another. -/
def bdm {α β : Type} (r : Except Int (α × List UInt8)) (f : α → List UInt8 → Except Int β) : Except Int β := match r with | .error e => .error e | .ok p => f p.1 p.2
theorem bdm_er {α β : Type} (e : Int) (f : α → List UInt8 → Except Int β) : bdm (.error e) f = .error e := rfl
theorem bdm_ok {α β : Type} (x : α) (ys : List UInt8) (f : α → List UInt8 → Except Int β) : bdm (.ok (x, ys)) f = f x ys := rfl
def GetPostM {α : Type} (fr al : Nat → Prop) (w : World) (r b : Nat) (res : Except Int (α × List UInt8)) (z : List Value) (okM : α → List Value → List It → Prop) (en : Ending) (w' : World) : Prop :=
  match res with
  | .error e => en = .panicked [{ v := failV r e, recovered := false }] ∧ Own fr al w [rdAnyI r, blkI b z] w'
  | .ok (s, ys) => en = .returned (.tuple #[]) ∧ ∃ cs M, okM s cs M ∧ Own fr al w (rdI r ys :: blkI b cs :: M) w'
/-- What the block holds behind it, and what more lies there. -/
def GotM {α : Type} (res : Except Int (α × List UInt8)) (z : List Value) (okM : α → List Value → List It → Prop) (cs : List Value) (M : List It) : Prop := match res with
  | .error _ => cs = z ∧ M = []
  | .ok (s, _) => okM s cs M
theorem pick_mid (X M : List It) (a : It) : pick (X ++ [a] ++ M) (X.length :: (List.range X.length ++ (List.range M.length).map (X.length + 1 + ·))) = a :: (X ++ M) := by
  unfold pick
  rw [List.map_cons, List.map_append]
  congr 1
  · simp
  · congr 1
    · apply List.ext_getElem
      · simp
      · intro i h1 h2
        simp [List.getElem?_append_left h2, List.getElem?_eq_getElem h2, List.append_assoc]
    · apply List.ext_getElem
      · simp
      · intro i h1 h2
        simp only [List.map_map, List.getElem_map, List.getElem_range, Function.comp]
        rw [List.getElem?_append_right (by simp)]
        simp only [List.length_append, List.length_singleton]
        rw [show X.length + 1 + i - (X.length + 1) = i by omega, List.getElem?_eq_getElem h2, Option.getD_some]
theorem putIt_twoM (L M : List It) (I A B : It) (i : Nat) (hi : i < L.length) : putIt (L ++ [I]) (A :: B :: M) 0 [L.length, i] = L.set i B ++ [A] ++ M := by
  simp only [putIt, List.getElem?_cons_zero, List.getElem?_cons_succ, Option.getD_some, List.drop_succ_cons, List.drop_zero]
  rw [List.set_append_right _ _ (Nat.le_refl _), Nat.sub_self, List.set_cons_zero, List.set_append_left _ _ hi]
theorem readGetM_c {α : Type} {fr al : Nat → Prop} {w0 w : World} {L : List It} (st : Own fr al w0 L w) (i : Nat) {b : Nat} {z : List Value} (hi : L[i]? = some (blkI b z)) {a : Option Addr} {n c : Nat} {xs : List UInt8} (h : By w a n xs) (hc : n ≤ c ∧ c ≤ maxLen) (hn : n ≤ 100000000000) (F : FuncId)
    (hinv : ∀ w r, (callFunc F (#[.pointer (some ⟨r, 0, none⟩)] ++ #[.pointer (some ⟨b, 0, none⟩)])).run Tryz.prog w = .ok (.enter F (#[.pointer (some ⟨r, 0, none⟩)] ++ #[.pointer (some ⟨b, 0, none⟩)])) w)
    (res : Except Int (α × List UInt8)) (okM : α → List Value → List It → Prop)
    (hclo : ∀ fr al w r, Own fr al w [rdI r xs, blkI b z] w → Calls Tryz.prog F #[.pointer (some ⟨r, 0, none⟩), .pointer (some ⟨b, 0, none⟩)] w (GetPostM fr al w r b res z okM)) :
    Calls Tryz.prog 49 #[.slice a n c, .func (.func F) #[] #[.pointer (some ⟨b, 0, none⟩)]] w fun en w' => ∃ r cs M, en = .returned (.int .i64 (gotE res)) ∧ GotM res z okM cs M ∧ Own fr al w0 (rdOverI r :: (L.set i (blkI b cs) ++ M)) w' := by
  have hil := get_lt hi
  have fin : ∀ {fr' al' : Nat → Prop} {w1 w2 : World} {A B I : It} {M : List It}, Own fr' al' w1 (putIt (L ++ [I]) (A :: B :: M) 0 [L.length, i]) w2 → Own fr' al' w1 (A :: (L.set i B ++ M)) w2 := by
    intro fr' al' w1 w2 A B I M st3
    rw [putIt_twoM L M I A B i hil] at st3
    have hk := st3.keep ((L.set i B).length :: (List.range (L.set i B).length ++ (List.range M.length).map ((L.set i B).length + 1 + ·))) (by
      rw [List.nodup_cons, List.nodup_append]
      refine ⟨?_, List.nodup_range, ?_, ?_⟩
      · simp only [List.mem_append, List.mem_range, List.mem_map, not_or, not_exists, not_and]
        exact ⟨by omega, fun q _ => by omega⟩
      · exact List.pairwise_map.2 (List.Pairwise.imp (fun {x y} h e => h (by omega)) List.nodup_range)
      · intro x hx y hy
        simp only [List.mem_range, List.mem_map] at hx hy
        obtain ⟨q, _, rfl⟩ := hy
        omega) (by
      intro q hq
      simp only [List.mem_cons, List.mem_append, List.mem_range, List.mem_map] at hq
      simp only [List.length_append, List.length_singleton]
      rcases hq with e | e | ⟨q', e1, rfl⟩ <;> omega)
    rwa [pick_mid] at hk
  refine (read_c st h hc hn F #[.pointer (some ⟨b, 0, none⟩)] hinv (fun r e M => e = gotE res ∧ ∃ cs M', GotM res z okM cs M' ∧ M = L.set i (blkI b cs) ++ M') fun fr' al' w1 r hr st1 => ?_).mono ?_
  · obtain ⟨fr2, al2, st2, back⟩ := st1.sub [L.length, i] (by simp; omega) (by
      intro q hq; simp at hq ⊢; omega)
    have hp : pick (L ++ [rdI r xs]) [L.length, i] = [rdI r xs, blkI b z] := by
      simp [pick, List.getElem?_append_left hil, hi]
    rw [hp] at st2
    refine (hclo _ _ _ r st2).mono ?_
    intro en w2 hen
    unfold GetPostM at hen
    cases hres : res with
    | error e =>
      rw [hres] at hen
      obtain ⟨rfl, st3⟩ := hen
      exact .inr ⟨e, [], _, rfl, rfl, ⟨rfl, z, [], ⟨rfl, rfl⟩, rfl⟩, fin (back _ _ (by simp) st3)⟩
    | ok p =>
      obtain ⟨s, ys⟩ := p
      rw [hres] at hen
      obtain ⟨rfl, cs, M, hok, st3⟩ := hen
      exact .inl ⟨_, ys, _, rfl, ⟨rfl, cs, M, hok, rfl⟩, fin (back _ _ (by simp) st3)⟩
  · rintro en w' ⟨r, e, M, rfl, ⟨rfl, cs, M', h1, rfl⟩, st'⟩
    exact ⟨r, cs, M', rfl, h1, st'⟩
end Go.Proofs.YtekngjkjgmplpaaGreat

namespace Go.Proofs.YtekngjkjgmplpaaGreat
set_option linter.unusedSimpArgs false
set_option linter.unusedVariables false
open Go Go.RowKit
/-- A message that shows and wants nothing. -/
def mg0 (k p e : Int) (nm : List UInt8) : MsgT := ⟨k, p, e, nm, none, 0, 0, [], none, 0, 0, []⟩
theorem mg0_ok (W : World) (k p e : Int) (nm : List UInt8) : MgOk W (mg0 k p e nm) := ⟨⟨⟨Nat.le_refl _, by simp [maxLen, mg0]⟩, Fl.nil _ _⟩, ⟨⟨Nat.le_refl _, by simp [maxLen, mg0]⟩, Fl.nil _ _⟩, by simp [mg0]⟩
theorem mg0_L {k p e : Int} {nm : List UInt8} (h : nm.length ≤ 100000) : MgL (mg0 k p e nm) := ⟨by simp [mg0], by simp [mg0], h, by simp [mg0], by simp [mg0]⟩
def okMg (m : MsgT) (ys : List UInt8) : Except Int (MsgT × List UInt8) := if mgR m = true then .ok (m, ys) else .error 11
end Go.Proofs.YtekngjkjgmplpaaGreat

namespace Go.Proofs.YtekngjkjgmplpaaGreat
set_option linter.unusedSimpArgs false
set_option linter.unusedVariables false
open Go Go.RowKit
section
variable {fr al : Nat → Prop} {w0 w : World} {L : List It}
/-- A new item of what two others share. -/
theorem Own.share2 (st : Own fr al w0 L w) {i i2 : Nat} {I I2 I' : It} (hi : L[i]? = some I) (hi2 : L[i2]? = some I2) (h : ∀ e s e2 s2, I.P e s w → I2.P e2 s2 w → I'.P (fun _ => False) (fun b => s b ∨ s2 b) w) : Own fr al w0 (L ++ [I']) w := by
  obtain ⟨hm, e, s, F⟩ := st
  have hil := get_lt hi
  have hil2 := get_lt hi2
  have h1 := h _ _ _ _ (F.holds i I hi) (F.holds i2 I2 hi2)
  have hlen : ∀ {j}, j < (L ++ [I']).length → j < L.length ∨ j = L.length := fun {j} h => by simp at h; omega
  refine ⟨hm, fun j => if j < L.length then e j else fun _ => False, fun j => if j < L.length then s j else fun b => s i b ∨ s i2 b, ?_, ?_, ?_, ?_, ?_, ?_⟩
  · intro j J hj
    have hjl := get_lt hj
    rcases hlen hjl with h | h
    · rw [List.getElem?_append_left h] at hj
      simp only [h, if_true]
      exact F.holds j J hj
    · subst h
      simp at hj
      subst hj
      simp only [Nat.lt_irrefl, if_false]
      exact h1
  · intro j b hj hb
    rcases hlen hj with h | h
    · simp only [h, if_true] at hb
      exact F.lo j b h hb
    · subst h
      simp only [Nat.lt_irrefl, if_false, false_or] at hb
      rcases hb with hb | hb
      · exact F.lo i b hil (.inr hb)
      · exact F.lo i2 b hil2 (.inr hb)
  · intro j b hj hb hb0
    rcases hlen hj with h | h
    · simp only [h, if_true] at hb
      exact F.fr j b h hb hb0
    · subst h
      simp only [Nat.lt_irrefl, if_false] at hb
  · intro j b hj hb hb0
    rcases hlen hj with h | h
    · simp only [h, if_true] at hb
      exact F.al j b h hb hb0
    · subst h
      simp only [Nat.lt_irrefl, if_false, false_or] at hb
      rcases hb with hb | hb
      · exact F.al i b hil (.inr hb) hb0
      · exact F.al i2 b hil2 (.inr hb) hb0
  · intro j k b hj hk hjk hb hb'
    rcases hlen hj with h | h
    · rcases hlen hk with h' | h'
      · simp only [h, h', if_true] at hb hb'
        exact F.ee j k b h h' hjk hb hb'
      · subst h'
        simp only [Nat.lt_irrefl, if_false] at hb'
    · subst h
      simp only [Nat.lt_irrefl, if_false] at hb
  · intro j k b hj hk hb hb'
    rcases hlen hj with h | h
    · rcases hlen hk with h' | h'
      · simp only [h, h', if_true] at hb hb'
        exact F.es j k b h h' hb hb'
      · subst h'
        simp only [h, if_true, Nat.lt_irrefl, if_false] at hb hb'
        rcases hb' with hb' | hb'
        · exact F.es j i b h hil hb hb'
        · exact F.es j i2 b h hil2 hb hb'
    · subst h
      simp only [Nat.lt_irrefl, if_false] at hb
/-- The tags of some signed credentials. -/
def sgsI (ss : List SgnT) : It where
  P _ s w := ∀ x ∈ ss, SgOk w x ∧ (0 < x.n → ∀ ad, x.a = some ad → s ad.block)
  st := fun {e s w w'} h hag x hx => ⟨by
    obtain ⟨⟨h0, h1⟩, h2⟩ := h x hx
    refine ⟨h0, h1.1, fun h0 => ?_⟩
    obtain ⟨b, off, ha, hc⟩ := h1.2 h0
    refine ⟨b, off, ha, fun i y hi => ?_⟩
    have := hc i y hi
    unfold byteR at *
    rw [World.cell?_of_block (w := w) (hag b (.inr (h2 h0 _ ha)))]
    exact this, (h x hx).2⟩
  facts _ := True
  ok := fun _ => trivial
theorem Own.noSgs (st : Own fr al w0 L w) : Own fr al w0 (L ++ [sgsI []]) w := st.bare (fun x hx => by simp at hx)
theorem Own.moreSgs (st : Own fr al w0 L w) {i j : Nat} {ss : List SgnT} {x : SgnT} (hi : L[i]? = some (sgsI ss)) (hj : L[j]? = some (byI x.a x.n x.xs)) (hm : x.n ≤ x.m ∧ x.m ≤ maxLen) : Own fr al w0 (L ++ [sgsI (ss ++ [x])]) w :=
  st.share2 hi hj fun e s e2 s2 h1 h2 y hy => by
    rcases List.mem_append.1 hy with q | q
    · exact ⟨(h1 y q).1, fun h0 ad ha => .inl ((h1 y q).2 h0 ad ha)⟩
    · rw [List.mem_singleton.1 q]; exact ⟨⟨hm, h2.1⟩, fun h0 ad ha => .inr (h2.2 h0 ad ha)⟩
theorem Own.sgsAt (st : Own fr al w0 L w) {i : Nat} {ss : List SgnT} (hi : L[i]? = some (sgsI ss)) : ∀ x ∈ ss, SgOk w x := by
  obtain ⟨_, _, h, _⟩ := st.get hi
  exact fun x hx => (h x hx).1
end
end Go.Proofs.YtekngjkjgmplpaaGreat

namespace Go.Proofs.YtekngjkjgmplpaaGreat
set_option linter.unusedSimpArgs false
set_option linter.unusedVariables false
open Go Go.RowKit
/-- The next signed credential. -/
def rdSg (xs : List UInt8) : Except Int (SgnT × List UInt8) :=
  bdm (rdCred xs) fun c ys => bdm (rdText 8 ys) fun tg zs => if tg.length = 8 then .ok (⟨c, none, 8, 0, tg⟩, zs) else .error 11
/-- What a signed credential is, wherever its tag lies. -/
def stripS (x : SgnT) : SgnT := ⟨x.c, none, x.n, 0, x.xs⟩
/-- The next message. -/
def rdMg (xs : List UInt8) : Except Int (MsgT × List UInt8) :=
  bdm (rdNumber 9223372036854775807 xs) fun k ys =>
    if k = 1 then bdm (rdName ys) fun nm zs => bdm (rdNumber 2 zs) fun p us => okMg (mg0 1 p 0 nm) us
    else if k = 2 then bdm (rdNumber 16 ys) fun n zs => bdm (rdN rdRole n zs) fun ws us => bdm (rdNumber 8 us) fun m vs => bdm (rdN rdSg m vs) fun ss ts => okMg ⟨2, 0, 0, [], none, ws.length, 0, ws, none, ss.length, 0, ss⟩ ts
    else if k = 5 then bdm (rdNumber 99 ys) fun e zs => okMg (mg0 5 0 e []) zs
    else okMg (mg0 k 0 0 []) ys
theorem rdSg_le {xs ys : List UInt8} {x : SgnT} (h : rdSg xs = .ok (x, ys)) : ys.length ≤ xs.length ∧ x.n = 8 ∧ x.xs.length = 8 := by
  unfold rdSg at h
  cases h1 : rdCred xs with
  | error e => rw [h1, bdm_er] at h; cases h
  | ok p =>
    obtain ⟨c, us⟩ := p
    have l1 := (rdCred_le2 h1).1
    rw [h1, bdm_ok] at h
    cases h2 : rdText 8 us with
    | error e => rw [h2, bdm_er] at h; cases h
    | ok p =>
      obtain ⟨tg, vs⟩ := p
      have l2 := (rdText_le h2).2.1
      rw [h2, bdm_ok] at h
      split at h
      · cases h; exact ⟨by omega, rfl, by assumption⟩
      · cases h
theorem rdSg_cr {xs ys : List UInt8} {x : SgnT} (h : rdSg xs = .ok (x, ys)) : credR x.c = true := by
  unfold rdSg at h
  cases h1 : rdCred xs with
  | error e => rw [h1, bdm_er] at h; cases h
  | ok p =>
    obtain ⟨c, us⟩ := p
    have l1 := (rdCred_le2 h1).2
    rw [h1, bdm_ok] at h
    cases h2 : rdText 8 us with
    | error e => rw [h2, bdm_er] at h; cases h
    | ok p =>
      obtain ⟨tg, vs⟩ := p
      rw [h2, bdm_ok] at h
      split at h
      · cases h; exact l1
      · cases h
theorem rdSg_strip {xs ys : List UInt8} {x : SgnT} (h : rdSg xs = .ok (x, ys)) (a : Option Addr) (m : Nat) : stripS ⟨x.c, a, 8, m, x.xs⟩ = x := by
  unfold rdSg at h
  cases h1 : rdCred xs with
  | error e => rw [h1, bdm_er] at h; cases h
  | ok p =>
    obtain ⟨c, us⟩ := p
    rw [h1, bdm_ok] at h
    cases h2 : rdText 8 us with
    | error e => rw [h2, bdm_er] at h; cases h
    | ok p =>
      obtain ⟨tg, vs⟩ := p
      rw [h2, bdm_ok] at h
      split at h
      · cases h; rfl
      · cases h
set_option maxRecDepth 100000 in
set_option maxHeartbeats 4000000 in
theorem keysGet_c {fr al : Nat → Prop} {W : World} {r : Nat} {xs : List UInt8} (st : Own fr al W [rdI r xs] W) (hl : xs.length ≤ 100000) :
    Calls Tryz.prog 108 #[.pointer (some ⟨r, 0, none⟩)] W (RdC fr al W r (rdSg xs) fun s v M => ∃ a m, v = sgV ⟨s.c, a, 8, m, s.xs⟩ ∧ (8 ≤ m ∧ m ≤ maxLen) ∧ M = [byI a 8 s.xs]) := by
  go_enter Tryz.func108, Tryz.ntmps108
  go_wp2_with ((first
        | ((with_reducible refine wl_alloc ?_ (fun K hK => ?_)); rfl; refine owp_alloc (o := ⟨some 2, _, _, _, _, _⟩) rfl st ?_; apply Exists.intro; apply Exists.intro; refine ⟨?_, ?_⟩; (focus (first | (go_simp; done) | (go_simp; rfl))); (clear st; intro b2 w hb st; clear hb))
        | ((with_reducible refine wl_alloc ?_ (fun K hK => ?_)); rfl; refine owp_alloc (o := ⟨some 3, _, _, _, _, _⟩) rfl st ?_; apply Exists.intro; apply Exists.intro; refine ⟨?_, ?_⟩; (focus (first | (go_simp; done) | (go_simp; rfl))); (clear st; intro b3 w hb st; clear hb))
        | ((with_reducible refine wl_store ?_ (fun K hK => ?_)); rfl; refine owp_store rfl st ?_; apply Exists.intro; apply Exists.intro; refine ⟨?_, ?_, ?_⟩; (focus (go_simp; try rfl)); (focus (go_simp; try rfl)); (first | (with_reducible refine ⟨0, _, _, _, _, get0, rfl, rfl, ?_, ?_, ?_, ?_⟩) | (with_reducible refine ⟨1, _, _, _, _, get1, rfl, rfl, ?_, ?_, ?_, ?_⟩) | (with_reducible refine ⟨2, _, _, _, _, get2, rfl, rfl, ?_, ?_, ?_, ?_⟩) | (with_reducible refine ⟨3, _, _, _, _, get3, rfl, rfl, ?_, ?_, ?_, ?_⟩) | (with_reducible refine ⟨4, _, _, _, _, get4, rfl, rfl, ?_, ?_, ?_, ?_⟩) | (with_reducible refine ⟨5, _, _, _, _, get5, rfl, rfl, ?_, ?_, ?_, ?_⟩)); (kernel_rfl); (simp [Value.cells]); (rfl); (clear st; intro w st))); (try simp only [nsl, Value.cells, unB] at st); (try clear hc); have hc := st.facts; (try simp only [nfl, nft, Nat.reduceAdd] at hc))
  obtain ⟨fr', al', st', back⟩ := st.sub [0] (by decide) (by simp)
  (try simp only [nsl, Value.cells, unB] at st')
  refine (credGet_c st' hl).mono ?_
  clear st'
  intro en w hen
  unfold RdC at hen
  cases hr : rdCred xs with
  | error e =>
    rw [hr] at hen
    obtain ⟨rfl, st'⟩ := hen
    replace st := back _ _ (by simp) st'
    clear back st'
    (try simp only [nsl, Value.cells, unB] at st)
    (try clear hc); have hc := st.facts; (try simp only [nfl, nft, Nat.reduceAdd] at hc)
    have H1 : Hid (rdSg xs = .error e) := Lib.hid (by simp [rdSg, hr, bdm])
    clear hr
    go_wp2_with fail
    refine ⟨rfl, ?_⟩
    unfold RdC
    rw [H1.out]
    have st' := st.keep [0] (by decide) (by simp)
    exact ⟨rfl, by simpa [pick] using st'⟩
  | ok p =>
    obtain ⟨c, ys⟩ := p
    have hl1 := (rdCred_le2 hr).1
    rw [hr] at hen
    obtain ⟨v, M, rfl, ⟨rfl, rfl⟩, st'⟩ := hen
    replace st := back _ _ (by simp) st'
    clear back st'
    (try simp only [nsl, Value.cells, unB] at st)
    (try clear hc); have hc := st.facts; (try simp only [nfl, nft, Nat.reduceAdd] at hc)
    have HR1 := Lib.hid hr
    clear hr
    obtain ⟨ck, ⟨ho, hd⟩, cw, ⟨bo, bd'⟩, ⟨co, cd⟩, we⟩ := c
    unfold cV S
    simp only
    go_wp2_with ((first
          | ((with_reducible refine wl_alloc ?_ (fun K hK => ?_)); rfl; refine owp_alloc (o := ⟨some 2, _, _, _, _, _⟩) rfl st ?_; apply Exists.intro; apply Exists.intro; refine ⟨?_, ?_⟩; (focus (first | (go_simp; done) | (go_simp; rfl))); (clear st; intro b2 w hb st; clear hb))
          | ((with_reducible refine wl_alloc ?_ (fun K hK => ?_)); rfl; refine owp_alloc (o := ⟨some 3, _, _, _, _, _⟩) rfl st ?_; apply Exists.intro; apply Exists.intro; refine ⟨?_, ?_⟩; (focus (first | (go_simp; done) | (go_simp; rfl))); (clear st; intro b3 w hb st; clear hb))
          | ((with_reducible refine wl_store ?_ (fun K hK => ?_)); rfl; refine owp_store rfl st ?_; apply Exists.intro; apply Exists.intro; refine ⟨?_, ?_, ?_⟩; (focus (go_simp; try rfl)); (focus (go_simp; try rfl)); (first | (with_reducible refine ⟨0, _, _, _, _, get0, rfl, rfl, ?_, ?_, ?_, ?_⟩) | (with_reducible refine ⟨1, _, _, _, _, get1, rfl, rfl, ?_, ?_, ?_, ?_⟩) | (with_reducible refine ⟨2, _, _, _, _, get2, rfl, rfl, ?_, ?_, ?_, ?_⟩) | (with_reducible refine ⟨3, _, _, _, _, get3, rfl, rfl, ?_, ?_, ?_, ?_⟩) | (with_reducible refine ⟨4, _, _, _, _, get4, rfl, rfl, ?_, ?_, ?_, ?_⟩) | (with_reducible refine ⟨5, _, _, _, _, get5, rfl, rfl, ?_, ?_, ?_, ?_⟩)); (kernel_rfl); (simp [Value.cells]); (rfl); (clear st; intro w st))); (try simp only [nsl, Value.cells, unB] at st); (try clear hc); have hc := st.facts; (try simp only [nfl, nft, Nat.reduceAdd] at hc))
    obtain ⟨fr', al', st', back⟩ := st.sub [0] (by decide) (by simp)
    (try simp only [nsl, Value.cells, unB] at st')
    refine (text_c st' 8 (by omega)).mono ?_
    clear st'
    intro en w hen
    unfold RdC at hen
    cases hr : rdText 8 ys with
    | error e =>
      rw [hr] at hen
      obtain ⟨rfl, st'⟩ := hen
      replace st := back _ _ (by simp) st'
      clear back st'
      (try simp only [nsl, Value.cells, unB] at st)
      (try clear hc); have hc := st.facts; (try simp only [nfl, nft, Nat.reduceAdd] at hc)
      have H1 : Hid (rdSg xs = .error e) := Lib.hid (by simp [rdSg, HR1.out, hr, bdm])
      clear hr
      go_wp2_with fail
      refine ⟨rfl, ?_⟩
      unfold RdC
      rw [H1.out]
      have st' := st.keep [0] (by decide) (by simp)
      exact ⟨rfl, by simpa [pick] using st'⟩
    | ok p =>
      obtain ⟨tg, zs⟩ := p
      rw [hr] at hen
      obtain ⟨v, M, rfl, ⟨ta, tc, rfl, hc1, rfl⟩, st'⟩ := hen
      replace st := back _ _ (by simp) st'
      clear back st'
      (try simp only [nsl, Value.cells, unB] at st)
      (try clear hc); have hc := st.facts; (try simp only [nfl, nft, Nat.reduceAdd] at hc)
      have HR2 := Lib.hid hr
      clear hr
      obtain ⟨tl, htl⟩ : ∃ m, tg.length = m := ⟨_, rfl⟩
      have HTL := Lib.hid htl
      rw [htl] at st hc1 ⊢
      clear htl
      by_cases h8 : tl = 8
      · subst h8
        have H1 : Hid (rdSg xs = .ok (⟨⟨ck, (ho, hd), cw, (bo, bd'), (co, cd), we⟩, none, 8, 0, tg⟩, zs)) := Lib.hid (by simp [rdSg, HR1.out, HR2.out, bdm, HTL.out])
        go_wp2_with ((first
              | ((with_reducible refine wl_alloc ?_ (fun K hK => ?_)); rfl; refine owp_alloc (o := ⟨some 2, _, _, _, _, _⟩) rfl st ?_; apply Exists.intro; apply Exists.intro; refine ⟨?_, ?_⟩; (focus (first | (go_simp; done) | (go_simp; rfl))); (clear st; intro b2 w hb st; clear hb))
              | ((with_reducible refine wl_alloc ?_ (fun K hK => ?_)); rfl; refine owp_alloc (o := ⟨some 3, _, _, _, _, _⟩) rfl st ?_; apply Exists.intro; apply Exists.intro; refine ⟨?_, ?_⟩; (focus (first | (go_simp; done) | (go_simp; rfl))); (clear st; intro b3 w hb st; clear hb))
              | ((with_reducible refine wl_store ?_ (fun K hK => ?_)); rfl; refine owp_store rfl st ?_; apply Exists.intro; apply Exists.intro; refine ⟨?_, ?_, ?_⟩; (focus (go_simp; try rfl)); (focus (go_simp; try rfl)); (first | (with_reducible refine ⟨0, _, _, _, _, get0, rfl, rfl, ?_, ?_, ?_, ?_⟩) | (with_reducible refine ⟨1, _, _, _, _, get1, rfl, rfl, ?_, ?_, ?_, ?_⟩) | (with_reducible refine ⟨2, _, _, _, _, get2, rfl, rfl, ?_, ?_, ?_, ?_⟩) | (with_reducible refine ⟨3, _, _, _, _, get3, rfl, rfl, ?_, ?_, ?_, ?_⟩) | (with_reducible refine ⟨4, _, _, _, _, get4, rfl, rfl, ?_, ?_, ?_, ?_⟩) | (with_reducible refine ⟨5, _, _, _, _, get5, rfl, rfl, ?_, ?_, ?_, ?_⟩)); (kernel_rfl); (simp [Value.cells]); (rfl); (clear st; intro w st))); (try simp only [nsl, Value.cells, unB] at st); (try clear hc); have hc := st.facts; (try simp only [nfl, nft, Nat.reduceAdd] at hc))
        (try simp only [Exit.inBlock, Exit.then])
        refine bodyPost_cell rfl rfl (st.blk (i := 1) get1) Tryz.underlying61 rfl (by kernel_rfl) rfl ?_
        unfold RdC
        rw [H1.out]
        have st' := st.keep [0, 3] (by decide) (by simp)
        exact ⟨_, [byI ta 8 tg], rfl, ⟨ta, tc, rfl, hc1, rfl⟩, by simpa [pick] using st'⟩
      · have H1 : Hid (rdSg xs = .error 11) := Lib.hid (by simp [rdSg, HR1.out, HR2.out, bdm, HTL.out, h8])
        have h8b : ((tl : Int) != 8) = true := by simpa using (by omega : (tl : Int) ≠ 8)
        have H8 := Lib.hid h8
        clear h8
        go_wp2_with ((first
              | ((with_reducible refine wl_alloc ?_ (fun K hK => ?_)); rfl; refine owp_alloc (o := ⟨some 2, _, _, _, _, _⟩) rfl st ?_; apply Exists.intro; apply Exists.intro; refine ⟨?_, ?_⟩; (focus (first | (go_simp; done) | (go_simp; rfl))); (clear st; intro b2 w hb st; clear hb))
              | ((with_reducible refine wl_alloc ?_ (fun K hK => ?_)); rfl; refine owp_alloc (o := ⟨some 3, _, _, _, _, _⟩) rfl st ?_; apply Exists.intro; apply Exists.intro; refine ⟨?_, ?_⟩; (focus (first | (go_simp; done) | (go_simp; rfl))); (clear st; intro b3 w hb st; clear hb))
              | ((with_reducible refine wl_store ?_ (fun K hK => ?_)); rfl; refine owp_store rfl st ?_; apply Exists.intro; apply Exists.intro; refine ⟨?_, ?_, ?_⟩; (focus (go_simp; try rfl)); (focus (go_simp; try rfl)); (first | (with_reducible refine ⟨0, _, _, _, _, get0, rfl, rfl, ?_, ?_, ?_, ?_⟩) | (with_reducible refine ⟨1, _, _, _, _, get1, rfl, rfl, ?_, ?_, ?_, ?_⟩) | (with_reducible refine ⟨2, _, _, _, _, get2, rfl, rfl, ?_, ?_, ?_, ?_⟩) | (with_reducible refine ⟨3, _, _, _, _, get3, rfl, rfl, ?_, ?_, ?_, ?_⟩) | (with_reducible refine ⟨4, _, _, _, _, get4, rfl, rfl, ?_, ?_, ?_, ?_⟩) | (with_reducible refine ⟨5, _, _, _, _, get5, rfl, rfl, ?_, ?_, ?_, ?_⟩)); (kernel_rfl); (simp [Value.cells]); (rfl); (clear st; intro w st))); (try simp only [nsl, Value.cells, unB] at st); (try clear hc); have hc := st.facts; (try simp only [nfl, nft, Nat.reduceAdd] at hc))
        obtain ⟨_, sq, ⟨_, hrd⟩, _⟩ := st.get (i := 0) (I := rdI r zs) get0
        have HRD := Lib.hid hrd.any
        clear hrd
        refine (fail_any _ r 11 HRD.out (by decide)).mono ?_
        rintro en w' ⟨rfl, rfl⟩
        go_wp2_with fail
        refine ⟨rfl, ?_⟩
        unfold RdC
        rw [H1.out]
        have st' := (st.rdAny (i := 0) get0).keep [0] (by decide) (by simp)
        exact ⟨rfl, by simpa [pick] using st'⟩
end Go.Proofs.YtekngjkjgmplpaaGreat

namespace Go.Proofs.YtekngjkjgmplpaaGreat
set_option linter.unusedSimpArgs false
set_option linter.unusedVariables false
open Go Go.RowKit
def refMgR (x : MsgT) : Bool :=
  if x.k < 1 ∨ 5 < x.k then false
  else if (x.k ≠ 1 ∧ (x.nm ≠ [] ∨ x.p ≠ 0)) ∨ (x.k ≠ 2 ∧ 0 < x.ws.length + x.ss.length) ∨ (x.k ≠ 5 ∧ x.e ≠ 0) then false
  else if x.k = 1 then nameR x.nm && decide (1 ≤ x.p) && decide (x.p ≤ 2)
  else if x.k = 5 then decide (1 ≤ x.e) && decide (x.e ≤ 99)
  else if 16 < x.ws.length ∨ 8 < x.ss.length ∨ roleSet x.ws ≠ x.ws then false
  else (List.range x.ss.length).all (shAt x.ss)
theorem sameSs_refl : ∀ l : List SgnT, sameSs l l = true
  | [] => rfl
  | x :: l => by unfold sameSs sameSg; rw [credEq_self, sameSs_refl l]; simp
theorem sameSs_nil (l : List SgnT) : sameSs [] l = decide (l = []) := by cases l <;> rfl
theorem roleSet_nil : roleSet ([] : List Role) = [] := by
  have := roleSet_len ([] : List Role)
  exact List.eq_nil_of_length_eq_zero (by simpa using this)
theorem showsR_eq (l : List SgnT) : showsR l = ((List.range l.length).all (shAt l) && decide (l.length ≤ 8)) := rfl
theorem refMgR_eq (x : MsgT) : refMgR x = mgR x := by
  obtain ⟨k, p, e, nm, wa, wn, wc, ws, sa, sn, sc, ss⟩ := x
  have hlen : (0 < ws.length + ss.length) ↔ ¬ (ws = [] ∧ ss = []) := by
    cases ws <;> cases ss <;> (try simp) <;> (try omega)
  unfold refMgR mgR kindR bareMg sameMg
  simp only
  by_cases k1 : k = 1
  · subst k1
    simp only [if_true, if_pos, sameSs_nil]
    rw [if_neg (by decide)]
    by_cases h1 : ws = [] ∧ ss = []
    · obtain ⟨rfl, rfl⟩ := h1
      by_cases h2 : e = 0
      · subst h2
        have hp : (decide (1 ≤ p) && decide (p ≤ 2)) = (decide (p = 1) || decide (p = 2)) := by rw [Bool.eq_iff_iff]; simp; omega
        rw [Bool.and_assoc, hp]
        simp
      · have h2' : ((0 : Int) == e) = false := by simpa using Ne.symm h2
        simp [h2, h2']
    · rw [if_pos (.inr (.inl ⟨by decide, hlen.2 h1⟩))]
      by_cases h3 : ws = []
      · have h4 : ss ≠ [] := fun q => h1 ⟨h3, q⟩
        simp [h3, h4]
      · have h3' : ¬ ([] = ws) := fun q => h3 q.symm
        simp [h3']
  by_cases k2 : k = 2
  · subst k2
    simp only [if_neg k1, if_true, if_pos, sameSs_refl]
    rw [if_neg (by decide)]
    by_cases h1 : nm = []
    · subst h1
      by_cases h2 : p = 0
      · subst h2
        by_cases h3 : e = 0
        · subst h3
          have hw : wantsR ws = (decide (ws.length ≤ 16) && decide (roleSet ws = ws)) := rfl
          rw [hw, showsR_eq]
          by_cases h4 : 16 < ws.length
          · simp [h4]
            (try (intro q; omega))
          · by_cases h5 : 8 < ss.length
            · simp [h5]
              (try (intros; omega))
            · by_cases h6 : roleSet ws = ws
              · simp [h4, h5, h6, (by omega : ws.length ≤ 16), (by omega : ss.length ≤ 8)]
              · simp [h6]
        · have h3' : ((0 : Int) == e) = false := by simpa using Ne.symm h3
          simp [h3, h3']
      · have h2' : ((0 : Int) == p) = false := by simpa using Ne.symm h2
        simp [h2, h2']
    · have h1' : (([] : List UInt8) == nm) = false := by simpa using Ne.symm h1
      simp [h1, h1']
  by_cases k5 : k = 5
  · subst k5
    simp only [if_neg k1, if_neg k2, if_true, if_pos, sameSs_nil]
    rw [if_neg (by decide)]
    by_cases h1 : nm = []
    · subst h1
      by_cases h2 : p = 0
      · subst h2
        by_cases h3 : ws = [] ∧ ss = []
        · obtain ⟨rfl, rfl⟩ := h3
          simp
        · rw [if_pos (.inr (.inl ⟨by decide, hlen.2 h3⟩))]
          by_cases h4 : ws = []
          · have h5 : ss ≠ [] := fun q => h3 ⟨h4, q⟩
            simp [h4, h5]
          · have h4' : ¬ ([] = ws) := fun q => h4 q.symm
            simp [h4']
      · have h2' : ((0 : Int) == p) = false := by simpa using Ne.symm h2
        simp [h2, h2']
    · have h1' : (([] : List UInt8) == nm) = false := by simpa using Ne.symm h1
      simp [h1, h1']
  simp only [if_neg k1, if_neg k2, if_neg k5, sameSs_nil]
  by_cases hk : k < 1 ∨ 5 < k
  · have h3 : ¬ k = 3 := by omega
    have h4 : ¬ k = 4 := by omega
    rw [if_pos hk]
    simp [h3, h4]
  · have h34 : k = 3 ∨ k = 4 := by omega
    have h34b : (decide (k = 3) || decide (k = 4)) = true := by simpa using h34
    rw [if_neg hk, h34b]
    by_cases h1 : nm = []
    · subst h1
      by_cases h2 : p = 0
      · subst h2
        by_cases h3 : ws = [] ∧ ss = []
        · obtain ⟨rfl, rfl⟩ := h3
          by_cases h5 : e = 0
          · subst h5
            rw [roleSet_nil]
            simp
          · have h5' : ((0 : Int) == e) = false := by simpa using Ne.symm h5
            simp [h5, h5', k5]
        · rw [if_pos (.inr (.inl ⟨k2, hlen.2 h3⟩))]
          by_cases h4 : ws = []
          · have h5 : ss ≠ [] := fun q => h3 ⟨h4, q⟩
            simp [h4, h5]
          · have h4' : ¬ ([] = ws) := fun q => h4 q.symm
            simp [h4']
      · have h2' : ((0 : Int) == p) = false := by simpa using Ne.symm h2
        simp [h2, h2', k1]
    · have h1' : (([] : List UInt8) == nm) = false := by simpa using Ne.symm h1
      simp [h1, h1', k1]
end Go.Proofs.YtekngjkjgmplpaaGreat

namespace Go.Proofs.YtekngjkjgmplpaaGreat.Rg4
set_option linter.unusedSimpArgs false
set_option linter.unusedVariables false
open Go Go.Proofs.YtekngjkjgmplpaaGreat.Rg
section
variable (P : Program) (ops : Array Oper) (T : Array Nat) (Rel : World → World → Prop) (ld : Nat → Bool) (Cl : World → Prop) (kd : Nat → Kd) (Q : Exit → Act → World → Prop)
/-- The walk up to a fork. -/
def wp5 (E : World → Facts → Act → Prop) : List (Nat × Oper) → World → Facts → Act → Prop
  | [], w0, F, a => E w0 F a
  | (k, o) :: rest, w0, F, a =>
    if Region.wanted o (yielded ops a.tmps) = true then
      match kd k with
      | .none => ∃ c, (∀ w, (ld k = true → Rel w0 w) → Cl w → stillAt P o a w c) ∧ wp5 E rest w0 F (a.put o.dst c)
      | .some (.some S) => (∀ w, Rel w0 w → Cl w → Pre ops T F k w → relAt P o a w (fun v w' => Rel w w' ∧ Cl w' ∧ S v w')) ∧
          ∀ v, (∃ w, Rel w0 w ∧ Cl w ∧ S v w) → wp5 E rest w0 (upd F k (S v)) (a.put o.dst v)
      | .some .none => ∀ w, Rel w0 w → Cl w → All F w → o.wp P a w (fun a' w' => Cl w' ∧ wp5 E rest w' none a') Q ∨ (o.asks P a w ∧ LetsOut Q)
    else wp5 E rest w0 F (a.put o.dst undef)
/-- Both orders of two barriers. -/
def fork4 (i j : Nat) (oi oj : Oper) (r : List (Nat × Oper)) (w0 : World) (F : Facts) (a : Act) : Prop :=
  wp4 P ops T Rel ld Cl kd Q ((i, oi) :: (j, oj) :: r) w0 F a ∧ wp4 P ops T Rel ld Cl kd Q ((j, oj) :: (i, oi) :: r) w0 F a
end
def lex5 (ops : Array Oper) (C : List Nat) (e : Array Bool → Bool) : List Nat → Array Bool → Bool
  | [], listed => e listed
  | k :: ks, listed => (if C.contains k then decide (Region.ready .any ops listed = [k]) else (Region.ready .any ops listed).contains k && Region.free .any ops listed k) && lex5 ops C e ks (listed.setIfInBounds k true)
def forkE (ops : Array Oper) (C : List Nat) (i j : Nat) (r : List Nat) (listed : Array Bool) : Bool :=
  decide (Region.ready .any ops listed = [i, j]) && (C.contains i && (C.contains j && (lex4 ops C (j :: r) (listed.setIfInBounds i true) && lex4 ops C (i :: r) (listed.setIfInBounds j true))))
section
variable {P : Program} {ops : Array Oper} {T : Array Nat} {Rel : World → World → Prop} {ld : Nat → Bool} {Cl : World → Prop} {kd : Nat → Kd} {Q : Exit → Act → World → Prop}
theorem kd_bar {C : List Nat} (hC : ∀ k, isC kd k = C.contains k) {i : Nat} (hkc : C.contains i = true) : kd i = .some .none := by
  have := hC i
  rw [hkc] at this
  unfold isC at this; revert this; cases kd i with
  | none => intro h; cases h
  | some x => cases x with
    | none => intro _; rfl
    | some S => intro h; cases h
theorem wpAny5_lex (htr : ∀ a b c, Rel a b → Rel b c → Rel a c) (hsp : ∀ k S, kd k = .some (.some S) → ∀ v w w', Rel w w' → S v w → S v w') (hB : befOk ops T = true)
    (hbar : ∀ i j, (isB kd i = true ∨ ld i = true) → isC kd j = true → bef ops T j i = true ∨ bef ops T i j = true) (hQ : ∀ c (a : Act) x v w, Q (.panic c) (a.put x v) w → Q (.panic c) a w)
    (C : List Nat) (hC : ∀ k, isC kd k = C.contains k) (hs : Region.noSelect ops = true) (e : Array Bool → Bool) (E : World → Facts → Act → Prop) (f0 : Nat)
    (hE : ∀ (listed : Array Bool) (w0 : World) (F : Facts) (a : Act), e listed = true → Closed ops T listed → StableF Rel F → E w0 F a → wpAny4 P ops T Rel ld Cl kd Q f0 listed w0 F a) :
    ∀ (l : List (Nat × Oper)) (listed : Array Bool) (w0 : World) (F : Facts) (a : Act), (∀ p ∈ l, ops[p.1]? = .some p.2) →
    lex5 ops C e (l.map (·.1)) listed = true → Closed ops T listed → StableF Rel F → wp5 P ops T Rel ld Cl kd Q E l w0 F a → wpAny4 P ops T Rel ld Cl kd Q (f0 + l.length) listed w0 F a
  | [], listed, w0, F, a, _, hL, hc, hst, h => hE listed w0 F a hL hc hst h
  | (k, o) :: l, listed, w0, F, a, hl, hL, hc, hst, h => by
    show wpAny4 P ops T Rel ld Cl kd Q ((f0 + l.length) + 1) listed w0 F a
    have h0 : ops[k]? = .some o := hl (k, o) (by simp)
    simp only [List.map_cons, lex5, Bool.and_eq_true] at hL
    obtain ⟨hL1, hL'⟩ := hL
    have hl' : ∀ p ∈ l, ops[p.1]? = .some p.2 := fun p hp => hl p (by simp [hp])
    by_cases hkc : C.contains k = true
    · rw [if_pos hkc, decide_eq_true_eq] at hL1
      have hr' : k ∈ Region.ready .any ops listed := by rw [hL1]; simp
      have IH := fun w0 F a hst h => wpAny5_lex htr hsp hB hbar hQ C hC hs e E f0 hE l (listed.setIfInBounds k true) w0 F a hl' hL' (closed_set hB hc hr') hst h
      intro hinh
      refine ⟨fun h => (by rw [hL1] at h; cases h), fun i hi => ?_⟩
      rw [hL1] at hi
      obtain rfl : i = k := by simpa using hi
      have hkk : kd i = .some .none := kd_bar hC hkc
      unfold op4
      unfold wp5 at h
      simp only [h0]
      by_cases hwant : Region.wanted o (yielded ops a.tmps) = true
      · simp only [hwant, if_true, hkk] at h ⊢
        intro w hw hcl hF
        exact (h w hw hcl hF).imp (Oper.wp_mono fun a' w' ⟨h1, h2⟩ => ⟨h1, IH w' none a' (fun _ _ _ _ _ => trivial) h2⟩) id
      · simp only [hwant] at h ⊢
        exact IH _ _ _ hst h
    · rw [if_neg hkc, Bool.and_eq_true] at hL1
      obtain ⟨hr, hf⟩ := hL1
      have hr' : k ∈ Region.ready .any ops listed := by simpa using hr
      have IH := fun w0 F a hst h => wpAny5_lex htr hsp hB hbar hQ C hC hs e E f0 hE l (listed.setIfInBounds k true) w0 F a hl' hL' (closed_set hB hc hr') hst h
      have hkc' : isC kd k = false := by rw [hC]; simpa using hkc
      refine wpAny4_first htr hsp hB hbar hQ h0 hkc' (Region.noSelect_spec hs) (f0 + l.length) listed w0 F a hst hc (Region.free_spec h0 hf) hr' ?_
      unfold op4
      unfold wp5 at h
      simp only [h0]
      by_cases hwant : Region.wanted o (yielded ops a.tmps) = true
      · simp only [hwant, if_true] at h ⊢
        cases hs : kd k with
        | none =>
          simp only [hs] at h ⊢
          obtain ⟨c, h1, h2⟩ := h
          exact ⟨c, h1, IH _ _ _ hst h2⟩
        | some k2 =>
          cases k2 with
          | none => unfold isC at hkc'; rw [hs] at hkc'; cases hkc'
          | some S =>
            simp only [hs] at h ⊢
            obtain ⟨h1, h2⟩ := h
            exact ⟨h1, fun v => wpAny4_of_inh fun ⟨w, hw, hcl, hF⟩ => IH _ _ _ (stable_upd hst (hsp k S hs v)) (h2 v ⟨w, hw, hcl, (hF k).2 rfl⟩)⟩
      · simp only [hwant] at h ⊢
        exact IH _ _ _ hst h
/-- A fork is any order of the two. -/
theorem fork_any (htr : ∀ a b c, Rel a b → Rel b c → Rel a c) (hsp : ∀ k S, kd k = .some (.some S) → ∀ v w w', Rel w w' → S v w → S v w') (hB : befOk ops T = true)
    (hbar : ∀ i j, (isB kd i = true ∨ ld i = true) → isC kd j = true → bef ops T j i = true ∨ bef ops T i j = true) (hQ : ∀ c (a : Act) x v w, Q (.panic c) (a.put x v) w → Q (.panic c) a w)
    (C : List Nat) (hC : ∀ k, isC kd k = C.contains k) (hs : Region.noSelect ops = true) {i j : Nat} {oi oj : Oper} {r : List (Nat × Oper)} (hi : ops[i]? = .some oi) (hj : ops[j]? = .some oj) (hr : ∀ p ∈ r, ops[p.1]? = .some p.2)
    (listed : Array Bool) (w0 : World) (F : Facts) (a : Act) (he : forkE ops C i j (r.map (·.1)) listed = true) (hc : Closed ops T listed) (hst : StableF Rel F) (h : fork4 P ops T Rel ld Cl kd Q i j oi oj r w0 F a) :
    wpAny4 P ops T Rel ld Cl kd Q (r.length + 2) listed w0 F a := by
  unfold forkE at he
  simp only [Bool.and_eq_true, decide_eq_true_eq] at he
  obtain ⟨e1, e2, e3, e4, e5⟩ := he
  obtain ⟨h1, h2⟩ := h
  have ri : i ∈ Region.ready .any ops listed := by rw [e1]; simp
  have rj : j ∈ Region.ready .any ops listed := by rw [e1]; simp
  have side : ∀ {x y : Nat} {ox oy : Oper}, ops[x]? = .some ox → ops[y]? = .some oy → C.contains x = true → x ∈ Region.ready .any ops listed → lex4 ops C (y :: r.map (·.1)) (listed.setIfInBounds x true) = true →
      wp4 P ops T Rel ld Cl kd Q ((x, ox) :: (y, oy) :: r) w0 F a → op4 P ops T Rel ld Cl kd Q x (wpAny4 P ops T Rel ld Cl kd Q (r.length + 1) (listed.setIfInBounds x true)) w0 F a := by
    intro x y ox oy hx hy hxc hxr hlex hw
    have IH := fun w0 F a hst h => wpAny4_lex (Rel := Rel) (ld := ld) (Cl := Cl) (kd := kd) (Q := Q) (P := P) htr hsp hB hbar hQ C hC hs ((y, oy) :: r) (listed.setIfInBounds x true) w0 F a (fun p hp => by
      rcases List.mem_cons.1 hp with q | q
      · subst q; exact hy
      · exact hr p q) hlex (closed_set hB hc hxr) hst h
    have hkk : kd x = .some .none := kd_bar hC hxc
    unfold op4
    unfold wp4 at hw
    simp only [hx]
    by_cases hwant : Region.wanted ox (yielded ops a.tmps) = true
    · simp only [hwant, if_true, hkk] at hw ⊢
      intro w hw1 hcl hF
      exact (hw w hw1 hcl hF).imp (Oper.wp_mono fun a' w' ⟨h1, h2⟩ => ⟨h1, IH w' none a' (fun _ _ _ _ _ => trivial) h2⟩) id
    · simp only [hwant] at hw ⊢
      exact IH _ _ _ hst hw
  intro _
  refine ⟨fun q => (by rw [e1] at q; cases q), fun x hx => ?_⟩
  rw [e1] at hx
  rcases List.mem_cons.1 hx with rfl | hx
  · exact side hi hj e2 ri e4 h1
  · obtain rfl : x = j := by simpa using hx
    exact side hj hi e3 rj e5 h2
section steps
variable {E : World → Facts → Act → Prop} {w0 : World} {o : Oper} {rest : List (Nat × Oper)} {k : Nat} {F : Facts} {a : Act}
theorem w5_end (h : E w0 F a) : wp5 P ops T Rel ld Cl kd Q E [] w0 F a := h
theorem w5_pure (hw : Region.wanted o (yielded ops a.tmps) = true) (hs : kd k = .none) (h : ∃ c, (∀ w, (ld k = true → Rel w0 w) → Cl w → (execOp a.eval o).run P w = .ok (.value c) w) ∧ wp5 P ops T Rel ld Cl kd Q E rest w0 F (a.put o.dst c)) :
    wp5 P ops T Rel ld Cl kd Q E ((k, o) :: rest) w0 F a := by
  unfold wp5; rw [if_pos hw, hs]; exact h
theorem w5_any (hw : Region.wanted o (yielded ops a.tmps) = true) (hs : kd k = .none) (h : ∃ c, (∀ w, (execOp a.eval o).run P w = .ok (.value c) w) ∧ wp5 P ops T Rel ld Cl kd Q E rest w0 F (a.put o.dst c)) :
    wp5 P ops T Rel ld Cl kd Q E ((k, o) :: rest) w0 F a := w5_pure hw hs (let ⟨c, h1, h2⟩ := h; ⟨c, fun w _ _ => h1 w, h2⟩)
end steps
end
section
open Go.RowKit
variable {fr al : Nat → Prop} {w0 w : World} {L : List It}
variable {P : Program} {ops : Array Oper} {T : Array Nat} {ld : Nat → Bool} {Cl : World → Prop} {kd : Nat → Kd} {Q : Exit → Act → World → Prop}
end
attribute [irreducible] wp5
end Go.Proofs.YtekngjkjgmplpaaGreat.Rg4

namespace Go.Proofs.YtekngjkjgmplpaaGreat.Rg4
set_option linter.unusedSimpArgs false
set_option linter.unusedVariables false
open Go Go.Proofs.YtekngjkjgmplpaaGreat.Rg
section
variable (P : Program) (ops : Array Oper) (T : Array Nat) (Rel : World → World → Prop) (ld : Nat → Bool) (Cl : World → Prop) (kd : Nat → Kd) (Q : Exit → Act → World → Prop)
/-- The three orders of i, j, k where j comes ahead of k. -/
def tree6 (i j k : Nat) (oi oj ok : Oper) (r : List (Nat × Oper)) (w0 : World) (F : Facts) (a : Act) : Prop :=
  wp4 P ops T Rel ld Cl kd Q ((i, oi) :: (j, oj) :: (k, ok) :: r) w0 F a ∧
  (∀ w, Rel w0 w → Cl w → All F w → oj.wp P a w (fun a' w' => Cl w' ∧ fork4 P ops T Rel ld Cl kd Q i k oi ok r w' none a') Q ∨ (oj.asks P a w ∧ LetsOut Q))
end
def treeE (ops : Array Oper) (C : List Nat) (i j k : Nat) (r : List Nat) (listed : Array Bool) : Bool :=
  decide (Region.ready .any ops listed = [i, j]) && (C.contains i && (C.contains j && (lex4 ops C (j :: k :: r) (listed.setIfInBounds i true) && forkE ops C i k r (listed.setIfInBounds j true))))
section
variable {P : Program} {ops : Array Oper} {T : Array Nat} {Rel : World → World → Prop} {ld : Nat → Bool} {Cl : World → Prop} {kd : Nat → Kd} {Q : Exit → Act → World → Prop}
theorem tree_any (htr : ∀ a b c, Rel a b → Rel b c → Rel a c) (hsp : ∀ k S, kd k = .some (.some S) → ∀ v w w', Rel w w' → S v w → S v w') (hB : befOk ops T = true)
    (hbar : ∀ i j, (isB kd i = true ∨ ld i = true) → isC kd j = true → bef ops T j i = true ∨ bef ops T i j = true) (hQ : ∀ c (a : Act) x v w, Q (.panic c) (a.put x v) w → Q (.panic c) a w)
    (C : List Nat) (hC : ∀ k, isC kd k = C.contains k) (hs : Region.noSelect ops = true) {i j k : Nat} {oi oj ok : Oper} {r : List (Nat × Oper)} (hi : ops[i]? = .some oi) (hj : ops[j]? = .some oj) (hk : ops[k]? = .some ok) (hr : ∀ p ∈ r, ops[p.1]? = .some p.2) (hgi : oi.guard = .none) (hgj : oj.guard = .none)
    (listed : Array Bool) (w0 : World) (F : Facts) (a : Act) (he : treeE ops C i j k (r.map (·.1)) listed = true) (hc : Closed ops T listed) (hst : StableF Rel F) (h : tree6 P ops T Rel ld Cl kd Q i j k oi oj ok r w0 F a) :
    wpAny4 P ops T Rel ld Cl kd Q (r.length + 3) listed w0 F a := by
  unfold treeE at he
  simp only [Bool.and_eq_true, decide_eq_true_eq] at he
  obtain ⟨e1, e2, e3, e4, e5⟩ := he
  obtain ⟨h1, h2⟩ := h
  have ri : i ∈ Region.ready .any ops listed := by rw [e1]; simp
  have rj : j ∈ Region.ready .any ops listed := by rw [e1]; simp
  have wi : ∀ x : Act, Region.wanted oi (yielded ops x.tmps) = true := fun x => by simp [Region.wanted, hgi]
  have wj : ∀ x : Act, Region.wanted oj (yielded ops x.tmps) = true := fun x => by simp [Region.wanted, hgj]
  intro _
  refine ⟨fun q => (by rw [e1] at q; cases q), fun x hx => ?_⟩
  rw [e1] at hx
  rcases List.mem_cons.1 hx with rfl | hx
  · have IH := fun w0 F a hst h => wpAny4_lex (Rel := Rel) (ld := ld) (Cl := Cl) (kd := kd) (Q := Q) (P := P) htr hsp hB hbar hQ C hC hs ((j, oj) :: (k, ok) :: r) (listed.setIfInBounds x true) w0 F a (fun p hp => by
      rcases List.mem_cons.1 hp with q | hp
      · subst q; exact hj
      rcases List.mem_cons.1 hp with q | q
      · subst q; exact hk
      · exact hr p q) e4 (closed_set hB hc ri) hst h
    have hkk : kd x = .some .none := kd_bar hC e2
    unfold op4
    unfold wp4 at h1
    simp only [hi, wi, if_true, hkk] at h1 ⊢
    intro w hw1 hcl hF
    exact (h1 w hw1 hcl hF).imp (Oper.wp_mono fun a' w' ⟨h1, h2⟩ => ⟨h1, IH w' none a' (fun _ _ _ _ _ => trivial) h2⟩) id
  · obtain rfl : x = j := by simpa using hx
    have hkk : kd x = .some .none := kd_bar hC e3
    unfold op4
    simp only [hj, wj, if_true, hkk]
    intro w hw1 hcl hF
    exact (h2 w hw1 hcl hF).imp (Oper.wp_mono fun a' w' ⟨h1, h2⟩ => ⟨h1, fork_any htr hsp hB hbar hQ C hC hs hi hk hr (listed.setIfInBounds x true) w' none a' e5 (closed_set hB hc rj) (fun _ _ _ _ _ => trivial) h2⟩) id
/-- The load yields one value wherever it comes: one walk serves the three orders. -/
theorem tree_load (hQ : ∀ c (a : Act) x v w, Q (.panic c) (a.put x v) w → Q (.panic c) a w) {i j k : Nat} {oi oj ok : Oper} {r : List (Nat × Oper)} {F : Facts} {a : Act} {w : World} {Bk : World → Prop} {c : Value}
    (hj : ops[j]? = .some oj) (hk : ops[k]? = .some ok) (hki : kd i = .some .none) (hkj : kd j = .some .none) (hkk : kd k = .some .none) (hgi : oi.guard = .none) (hgj : oj.guard = .none) (hgk : ok.guard = .none)
    (haj : oi.apart ops oj = true) (hak : oi.apart ops ok = true) (hsi : ∀ cs b, oi.op ≠ .select cs b) (hsj : ∀ cs b, oj.op ≠ .select cs b) (hsk : ∀ cs b, ok.op ≠ .select cs b)
    (hcl : ∀ w, Cl w) (hw : Bk w) (hbk : ∀ w, Bk w → (execOp a.eval oi).run P w = .ok (.value c) w)
    (h : oj.wp P (a.put oi.dst c) w (fun a' w' => Bk w' ∧ ok.wp P a' w' (fun a'' w'' => Bk w'' ∧ wp4 P ops T (· = ·) ld Cl kd Q r w'' none a'') Q) Q) :
    tree6 P ops T (· = ·) ld Cl kd Q i j k oi oj ok r w F a := by
  have wi : ∀ x : Act, Region.wanted oi (yielded ops x.tmps) = true := fun x => by simp [Region.wanted, hgi]
  have wj : ∀ x : Act, Region.wanted oj (yielded ops x.tmps) = true := fun x => by simp [Region.wanted, hgj]
  have wk : ∀ x : Act, Region.wanted ok (yielded ops x.tmps) = true := fun x => by simp [Region.wanted, hgk]
  obtain ⟨_, _, aj3⟩ := Oper.apart_spec haj
  obtain ⟨_, _, ak3⟩ := Oper.apart_spec hak
  constructor
  · refine w4_bar (wi _) hki (fun w' hw' _ _ K hK => ?_)
    subst hw'
    refine owp_run (hbk w hw) (hK _ _ ⟨hcl _, ?_⟩)
    refine w4_bar (wj _) hkj (fun w' hw' _ _ K hK => ?_)
    subst hw'
    refine Oper.wp_mono (fun a' w' ⟨_, h2⟩ => hK _ _ ⟨hcl _, ?_⟩) h
    refine w4_bar (wk _) hkk (fun w'' hw'' _ _ K hK => ?_)
    subst hw''
    exact Oper.wp_mono (fun a'' w'' ⟨_, h3⟩ => hK _ _ ⟨hcl _, h3⟩) h2
  · intro w' hw' _ _
    subst hw'
    refine (wpOp_put4 hj haj hsj (fun c a w q => hQ c a _ _ w q) (.inl h)).imp (Oper.wp_mono ?_) id
    rintro a' w' ⟨⟨u, D, rfl⟩, hb, h2⟩
    have exi : execOp (({ a with defers := D } : Act).put oj.dst u).eval oi = execOp a.eval oi := (execOp_put oi hsi { a with defers := D } oj.dst u aj3).trans rfl
    generalize hA : ({ a with defers := D } : Act).put oj.dst u = A at *
    refine ⟨hcl _, ?_, ?_⟩
    · refine w4_bar (wi _) hki (fun w1 hw1 _ _ K hK => ?_)
      subst hw1
      refine owp_run (by rw [exi]; exact hbk _ hb) (hK _ _ ⟨hcl _, ?_⟩)
      refine w4_bar (wk _) hkk (fun w1 hw1 _ _ K hK => ?_)
      subst hw1
      exact Oper.wp_mono (fun a'' w'' ⟨_, h3⟩ => hK _ _ ⟨hcl _, h3⟩) h2
    · unfold wp4
      rw [if_pos (wk _), hkk]
      intro w1 hw1 _ _
      subst hw1
      refine (wpOp_put4 hk hak hsk (fun c a w q => hQ c a _ _ w q) (.inl h2)).imp (Oper.wp_mono ?_) id
      rintro a'' w'' ⟨⟨u', D', rfl⟩, hb', h3⟩
      have exi2 : execOp (({ A with defers := D' } : Act).put ok.dst u').eval oi = execOp A.eval oi := (execOp_put oi hsi { A with defers := D' } ok.dst u' ak3).trans rfl
      refine ⟨hcl _, ?_⟩
      refine w4_bar (wi _) hki (fun w1 hw1 _ _ K hK => ?_)
      subst hw1
      exact owp_run (by rw [exi2, exi]; exact hbk _ hb') (hK _ _ ⟨hcl _, h3⟩)
theorem tree_load' (hQ : ∀ c (a : Act) x v w, Q (.panic c) (a.put x v) w → Q (.panic c) a w) {i j k : Nat} {oi oj ok : Oper} {r : List (Nat × Oper)} {F : Facts} {a : Act} {w : World} (Bk : World → Prop)
    (hj : ops[j]? = .some oj) (hk : ops[k]? = .some ok) (hki : kd i = .some .none) (hkj : kd j = .some .none) (hkk : kd k = .some .none) (hgi : oi.guard = .none) (hgj : oj.guard = .none) (hgk : ok.guard = .none)
    (haj : oi.apart ops oj = true) (hak : oi.apart ops ok = true) (hsi : ∀ cs b, oi.op ≠ .select cs b) (hsj : ∀ cs b, oj.op ≠ .select cs b) (hsk : ∀ cs b, ok.op ≠ .select cs b)
    (hcl : ∀ w, Cl w) (hw : Bk w)
    (h : ∃ c, (∀ w, Bk w → (execOp a.eval oi).run P w = .ok (.value c) w) ∧ ∀ K : Act → World → Prop, (∀ a' w', Bk w' ∧ (∀ K' : Act → World → Prop, (∀ a'' w'', Bk w'' ∧ wp4 P ops T (· = ·) ld Cl kd Q r w'' none a'' → K' a'' w'') → ok.wp P a' w' K' Q) → K a' w') → oj.wp P (a.put oi.dst c) w K Q) :
    tree6 P ops T (· = ·) ld Cl kd Q i j k oi oj ok r w F a :=
  let ⟨_, h1, h2⟩ := h
  tree_load (Bk := Bk) hQ hj hk hki hkj hkk hgi hgj hgk haj hak hsi hsj hsk hcl hw h1 (h2 _ fun _ _ ⟨q1, q2⟩ => ⟨q1, q2 _ fun _ _ q => q⟩)
end
/-- A region whose order is drawn, up to a load that may come ahead of a call, behind it, or behind what follows the call. -/
theorem wp_region6_eq {P : Program} (T : Array Nat) (Cs Ls : List Nat) (Cl : World → Prop) (p : List Nat) (i j k : Nat) (r : List Nat) {id : Nat} {Q : Exit → Act → World → Prop} {a : Act} {w : World} {l : List Oper} {oi oj ok : Oper} (hm : P.follows .mixedOrders = true)
    (hi : l[i]? = some oi) (hj : l[j]? = some oj) (hk : l[k]? = some ok) (hgi : oi.guard = .none) (hgj : oj.guard = .none)
    (hL : (Region.noSelect l.toArray && (lex5 l.toArray Cs (treeE l.toArray Cs i j k ((inOrd l r).map (·.1))) ((inOrd l p).map (·.1)) (Array.replicate l.length false) && (inOrd l r).length + 3 + (inOrd l p).length == l.length)) = true) (hB : befOk l.toArray T = true) (hb : barB l.toArray T Ls Cs = true)
    (hQ : ∀ c (a : Act) x v w, Q (.panic c) (a.put x v) w → Q (.panic c) a w) (hcl : Cl { w with drawn := w.drawn + 1 })
    (h : wp5 P l.toArray T (· = ·) (fun k => Ls.contains k) Cl (kdOf (Rel := (· = ·)) [] Cs) Q (tree6 P l.toArray T (· = ·) (fun k => Ls.contains k) Cl (kdOf (Rel := (· = ·)) [] Cs) Q i j k oi oj ok (inOrd l r)) (inOrd l p) { w with drawn := w.drawn + 1 } none a) : (Code.region id l.toArray true).wp P Q a w := by
  rw [Bool.and_eq_true, Bool.and_eq_true] at hL
  have hlen : (inOrd l r).length + 3 + (inOrd l p).length = l.length := by simpa using hL.2.2
  have htr : ∀ a b c : World, a = b → b = c → a = c := fun _ _ _ h k => h.trans k
  have hbar : ∀ i j, (isB (kdOf (Rel := (· = ·)) [] Cs) i = true ∨ Ls.contains i = true) → isC (kdOf (Rel := (· = ·)) [] Cs) j = true → bef l.toArray T j i = true ∨ bef l.toArray T i j = true := fun i j hi hj => by
    rw [kdOf_C] at hj
    have h1 := List.all_eq_true.1 hb j (by simpa using hj)
    have h2 := List.all_eq_true.1 h1 i (by
      rcases hi with hi | hi
      · have := kdOf_B [] Cs i hi; cases this
      · simpa using hi)
    simpa using h2
  refine wp_region_any hm (wpAny_of_4 (T := T) (ld := fun k => Ls.contains k) (fun _ => rfl) htr (kdOf_sp [] Cs) _ _ { w with drawn := w.drawn + 1 } none _ _ (fun _ _ _ _ _ => trivial) rfl hcl (fun _ => trivial) ?_)
  have := wpAny5_lex (P := P) (Q := Q) (ld := fun k => Ls.contains k) (Cl := Cl) htr (kdOf_sp [] Cs) hB hbar hQ Cs (kdOf_C [] Cs) hL.1 (treeE l.toArray Cs i j k ((inOrd l r).map (·.1))) (tree6 P l.toArray T (· = ·) (fun k => Ls.contains k) Cl (kdOf (Rel := (· = ·)) [] Cs) Q i j k oi oj ok (inOrd l r)) ((inOrd l r).length + 3)
    (fun listed w0 F a he hc hst h => tree_any htr (kdOf_sp [] Cs) hB hbar hQ Cs (kdOf_C [] Cs) hL.1 (by simpa using hi) (by simpa using hj) (by simpa using hk) inOrd_mem hgi hgj listed w0 F a he hc hst h)
    (inOrd l p) (Array.replicate l.length false) { w with drawn := w.drawn + 1 } none a inOrd_mem hL.2.1 (fun k m hk => by
    exfalso
    by_cases h : k < l.length <;> simp [h] at hk) (fun _ _ _ _ _ => trivial) h
  rw [hlen] at this
  simpa using this
end Go.Proofs.YtekngjkjgmplpaaGreat.Rg4

namespace Go.Proofs.YtekngjkjgmplpaaGreat
set_option linter.unusedSimpArgs false
set_option linter.unusedVariables false
open Go Go.RowKit
def mgM (d : MsgT) (v : Value) (M : List It) : Prop := ∃ wa wc sa sc ss, v = mgV ⟨d.k, d.p, d.e, d.nm, wa, d.wn, wc, d.ws, sa, d.sn, sc, ss⟩ ∧ ss.map stripS = d.ss ∧ ((d.wn ≤ wc ∧ wc ≤ maxLen) ∧ (d.sn ≤ sc ∧ sc ≤ maxLen)) ∧ M = [flI wa d.wn d.ws, flI sa d.sn ss, sgsI ss]
theorem Own.nilFl {fr al : Nat → Prop} {w0 w : World} {L : List It} {α : Type} [Flt α] (st : Own fr al w0 L w) : Own fr al w0 (L ++ [flI none 0 ([] : List α)]) w := st.bare ⟨Fl.nil _ _, fun h => by omega⟩
theorem shAt_strip (l : List SgnT) (j : Nat) : shAt (l.map stripS) j = shAt l j := by
  unfold shAt
  rw [List.getElem?_map, List.getElem?_map]
  cases l[j]? with
  | none => rfl
  | some x =>
    simp only [Option.map_some]
    cases l[j - 1]? with
    | none => rfl
    | some y => rfl
theorem showsR_strip (l : List SgnT) : showsR (l.map stripS) = showsR l := by
  unfold showsR
  rw [List.length_map]
  congr 2
  exact funext (shAt_strip l)
theorem mgR_turn (wa : Option Addr) (wn wc : Nat) (ws : List Role) (sa : Option Addr) (sn sc : Nat) (ss : List SgnT) : mgR ⟨2, 0, 0, [], wa, wn, wc, ws, sa, sn, sc, ss⟩ = (wantsR ws && showsR ss) := by
  unfold mgR bareMg kindR sameMg
  simp [sameSs_refl]
theorem sgnInfo : ∃ i, Tryz.prog.info? 61 = some i ∧ i.zero = some (sgV ⟨⟨0, ([], []), [], ([], []), ([], []), []⟩, none, 0, 0, []⟩) ∧ i.size = 10 ∧ i.bytes = 160 := info_parts (by kernel_rfl)
set_option maxRecDepth 100000 in
set_option maxHeartbeats 16000000 in
theorem msgGet_c {fr al : Nat → Prop} {W : World} {r : Nat} {xs : List UInt8} (st : Own fr al W [rdI r xs] W) (hl : xs.length ≤ 100000) :
    Calls Tryz.prog 83 #[.pointer (some ⟨r, 0, none⟩)] W (RdC fr al W r (rdMg xs) mgM) := by
  go_enter Tryz.func83, Tryz.ntmps83
  go_wp2_with ((((with_reducible refine wl_alloc ?_ (fun K hK => ?_)); rfl; refine owp_alloc (o := ⟨some 2, _, _, _, _, _⟩) rfl st ?_; apply Exists.intro; apply Exists.intro; refine ⟨?_, ?_⟩; (focus (first | (go_simp; done) | (go_simp; rfl))); (clear st; intro b2 w hb st; clear hb))); (try simp only [nsl, Value.cells, unB] at st); (try clear hc); have hc := st.facts; (try simp only [nfl, nft, Nat.reduceAdd] at hc))
  obtain ⟨fr', al', st', back⟩ := st.sub [0] (by decide) (by simp)
  (try simp only [nsl, Value.cells, unB] at st')
  refine (number_c st' 9223372036854775807).mono ?_
  clear st'
  intro en w hen
  unfold RdC at hen
  cases hr : rdNumber 9223372036854775807 xs with
  | error e =>
    rw [hr] at hen
    obtain ⟨rfl, st'⟩ := hen
    replace st := back _ _ (by simp) st'
    clear back st'
    (try simp only [nsl, Value.cells, unB] at st)
    (try clear hc); have hc := st.facts; (try simp only [nfl, nft, Nat.reduceAdd] at hc)
    have H1 : Hid (rdMg xs = .error e) := Lib.hid (by simp [rdMg, hr, bdm])
    clear hr
    go_wp2_with fail
    refine ⟨rfl, ?_⟩
    unfold RdC
    rw [H1.out]
    have st' := st.keep [0] (by decide) (by simp)
    exact ⟨rfl, by simpa [pick] using st'⟩
  | ok p =>
    obtain ⟨k, ys⟩ := p
    have hl1 := rdNumber_leM hr
    rw [hr] at hen
    obtain ⟨v, M, rfl, ⟨rfl, rfl⟩, st'⟩ := hen
    replace st := back _ _ (by simp) st'
    clear back st'
    (try simp only [nsl, Value.cells, unB] at st)
    (try clear hc); have hc := st.facts; (try simp only [nfl, nft, Nat.reduceAdd] at hc)
    have HR1 := Lib.hid hr
    clear hr
    by_cases k1 : k = 1
    · subst k1
      go_wp2_with ((first
            | ((with_reducible refine wl_alloc ?_ (fun K hK => ?_)); rfl; refine owp_alloc (o := ⟨some 3, _, _, _, _, _⟩) rfl st ?_; apply Exists.intro; apply Exists.intro; refine ⟨?_, ?_⟩; (focus (first | (go_simp; done) | (go_simp; rfl))); (clear st; intro b3 w hb st; clear hb))
            | ((with_reducible refine wl_store ?_ (fun K hK => ?_)); rfl; refine owp_store rfl st ?_; apply Exists.intro; apply Exists.intro; refine ⟨?_, ?_, ?_⟩; (focus (go_simp; try rfl)); (focus (go_simp; try rfl)); (with_reducible refine ⟨2, _, _, _, _, get2, rfl, rfl, ?_, ?_, ?_, ?_⟩); (kernel_rfl); (simp [Value.cells]); (rfl); (clear st; intro w st))); (try simp only [nsl, Value.cells, unB] at st); (try clear hc); have hc := st.facts; (try simp only [nfl, nft, Nat.reduceAdd] at hc))
      obtain ⟨fr', al', st', back⟩ := st.sub [0] (by decide) (by simp)
      (try simp only [nsl, Value.cells, unB] at st')
      refine (nameGet_c st' (by omega)).mono ?_
      clear st'
      intro en w hen
      unfold RdC at hen
      cases hr : rdName ys with
      | error e =>
        rw [hr] at hen
        obtain ⟨rfl, st'⟩ := hen
        replace st := back _ _ (by simp) st'
        clear back st'
        (try simp only [nsl, Value.cells, unB] at st)
        (try clear hc); have hc := st.facts; (try simp only [nfl, nft, Nat.reduceAdd] at hc)
        have H1 : Hid (rdMg xs = .error e) := Lib.hid (by simp [rdMg, HR1.out, hr, bdm])
        clear hr
        go_wp2_with fail
        refine ⟨rfl, ?_⟩
        unfold RdC
        rw [H1.out]
        have st' := st.keep [0] (by decide) (by simp)
        exact ⟨rfl, by simpa [pick] using st'⟩
      | ok p =>
        obtain ⟨nm, zs⟩ := p
        have hl2 := rdName_le hr
        have hl2b := (nameR_len hl2.2).2
        rw [hr] at hen
        obtain ⟨v, M, rfl, ⟨rfl, rfl⟩, st'⟩ := hen
        replace st := back _ _ (by simp) st'
        clear back st'
        (try simp only [nsl, Value.cells, unB] at st)
        (try clear hc); have hc := st.facts; (try simp only [nfl, nft, Nat.reduceAdd] at hc)
        have HR2 := Lib.hid hr
        clear hr
        unfold S
        go_wp2_with ((((with_reducible refine wl_store ?_ (fun K hK => ?_)); rfl; refine owp_store rfl st ?_; apply Exists.intro; apply Exists.intro; refine ⟨?_, ?_, ?_⟩; (focus (go_simp; try rfl)); (focus (go_simp; try rfl)); (with_reducible refine ⟨2, _, _, _, _, get2, rfl, rfl, ?_, ?_, ?_, ?_⟩); (kernel_rfl); (simp [Value.cells]); (rfl); (clear st; intro w st))); (try simp only [nsl, Value.cells, unB] at st); (try clear hc); have hc := st.facts; (try simp only [nfl, nft, Nat.reduceAdd] at hc))
        obtain ⟨fr', al', st', back⟩ := st.sub [0] (by decide) (by simp)
        (try simp only [nsl, Value.cells, unB] at st')
        refine (number_c st' 2).mono ?_
        clear st'
        intro en w hen
        unfold RdC at hen
        cases hr : rdNumber 2 zs with
        | error e =>
          rw [hr] at hen
          obtain ⟨rfl, st'⟩ := hen
          replace st := back _ _ (by simp) st'
          clear back st'
          (try simp only [nsl, Value.cells, unB] at st)
          (try clear hc); have hc := st.facts; (try simp only [nfl, nft, Nat.reduceAdd] at hc)
          have H1 : Hid (rdMg xs = .error e) := Lib.hid (by simp [rdMg, HR1.out, HR2.out, hr, bdm])
          clear hr
          go_wp2_with fail
          refine ⟨rfl, ?_⟩
          unfold RdC
          rw [H1.out]
          have st' := st.keep [0] (by decide) (by simp)
          exact ⟨rfl, by simpa [pick] using st'⟩
        | ok p =>
          obtain ⟨pl, us⟩ := p
          rw [hr] at hen
          obtain ⟨v, M, rfl, ⟨rfl, rfl⟩, st'⟩ := hen
          replace st := back _ _ (by simp) st'
          clear back st'
          (try simp only [nsl, Value.cells, unB] at st)
          (try clear hc); have hc := st.facts; (try simp only [nfl, nft, Nat.reduceAdd] at hc)
          have HR3 := Lib.hid hr
          clear hr
          have HQ := Lib.hid (fun W => msgRight_any (mg0 1 pl 0 nm) W (mg0_ok W _ _ _ _) (mg0_L (by first | omega | simp)))
          unfold mgV mg0 S at HQ
          simp only at HQ
          go_wp2_with ((((with_reducible refine wl_store ?_ (fun K hK => ?_)); rfl; refine owp_store rfl st ?_; apply Exists.intro; apply Exists.intro; refine ⟨?_, ?_, ?_⟩; (focus (go_simp; try rfl)); (focus (go_simp; try rfl)); (with_reducible refine ⟨2, _, _, _, _, get2, rfl, rfl, ?_, ?_, ?_, ?_⟩); (kernel_rfl); (simp [Value.cells]); (rfl); (clear st; intro w st))); (try simp only [nsl, Value.cells, unB] at st); (try clear hc); have hc := st.facts; (try simp only [nfl, nft, Nat.reduceAdd] at hc))
          refine (HQ.out _).mono ?_
          rintro en w ⟨rfl, hx⟩
          replace st := st.ext hx
          clear hx
          cases hmr : mgR (mg0 1 pl 0 nm) with
          | true =>
            have H1 : Hid (rdMg xs = .ok ((mg0 1 pl 0 nm), us)) := Lib.hid (by simp [rdMg, HR1.out, HR2.out, HR3.out, bdm, okMg, hmr])
            have hmr2 := hmr
            unfold mg0 at hmr2
            rw [hmr2]
            clear hmr hmr2 HQ
            (try simp only [nsl, Value.cells, unB] at st)
            (try clear hc); have hc := st.facts; (try simp only [nfl, nft, Nat.reduceAdd] at hc)
            go_wp2_with ((((with_reducible refine wl_store ?_ (fun K hK => ?_)); rfl; refine owp_store rfl st ?_; apply Exists.intro; apply Exists.intro; refine ⟨?_, ?_, ?_⟩; (focus (go_simp; try rfl)); (focus (go_simp; try rfl)); (with_reducible refine ⟨1, _, _, _, _, get1, rfl, rfl, ?_, ?_, ?_, ?_⟩); (kernel_rfl); (simp [Value.cells]); (rfl); (clear st; intro w st))); (try simp only [nsl, Value.cells, unB] at st); (try clear hc); have hc := st.facts; (try simp only [nfl, nft, Nat.reduceAdd] at hc))
            (try simp only [Exit.inBlock, Exit.then])
            refine bodyPost_cell rfl rfl (st.blk (i := 1) get1) Tryz.underlying25 rfl (by kernel_rfl) rfl ?_
            unfold RdC
            rw [H1.out]
            have st' := (((st.keep [0] (by decide) (by simp)).nilFl (α := Role)).nilFl (α := SgnT)).noSgs
            exact ⟨_, _, rfl, ⟨none, 0, none, 0, [], rfl, rfl, ⟨⟨Nat.le_refl _, by simp [maxLen]⟩, ⟨Nat.le_refl _, by simp [maxLen]⟩⟩, rfl⟩, by simpa [pick, mg0] using st'⟩
          | false =>
            have H1 : Hid (rdMg xs = .error 11) := Lib.hid (by simp [rdMg, HR1.out, HR2.out, HR3.out, bdm, okMg, hmr])
            have hmr2 := hmr
            unfold mg0 at hmr2
            rw [hmr2]
            clear hmr hmr2 HQ
            (try simp only [nsl, Value.cells, unB] at st)
            (try clear hc); have hc := st.facts; (try simp only [nfl, nft, Nat.reduceAdd] at hc)
            obtain ⟨_, sq, ⟨_, hrd⟩, _⟩ := st.get (i := 0) (I := rdI r us) get0
            have HRD := Lib.hid hrd.any
            clear hrd
            go_wp2_with fail
            refine (fail_any _ r 11 HRD.out (by decide)).mono ?_
            rintro en w' ⟨rfl, rfl⟩
            go_wp2_with fail
            refine ⟨rfl, ?_⟩
            unfold RdC
            rw [H1.out]
            have st' := (st.rdAny (i := 0) get0).keep [0] (by decide) (by simp)
            exact ⟨rfl, by simpa [pick] using st'⟩
    by_cases k2 : k = 2
    · subst k2
      clear k1
      go_wp2_with ((first
            | ((with_reducible refine wl_alloc ?_ (fun K hK => ?_)); rfl; refine owp_alloc (o := ⟨some 3, _, _, _, _, _⟩) rfl st ?_; apply Exists.intro; apply Exists.intro; refine ⟨?_, ?_⟩; (focus (first | (go_simp; done) | (go_simp; rfl))); (clear st; intro b3 w hb st; clear hb))
            | ((with_reducible refine wl_store ?_ (fun K hK => ?_)); rfl; refine owp_store rfl st ?_; apply Exists.intro; apply Exists.intro; refine ⟨?_, ?_, ?_⟩; (focus (go_simp; try rfl)); (focus (go_simp; try rfl)); (with_reducible refine ⟨2, _, _, _, _, get2, rfl, rfl, ?_, ?_, ?_, ?_⟩); (kernel_rfl); (simp [Value.cells]); (rfl); (clear st; intro w st))); (try simp only [nsl, Value.cells, unB] at st); (try clear hc); have hc := st.facts; (try simp only [nfl, nft, Nat.reduceAdd] at hc))
      obtain ⟨fr', al', st', back⟩ := st.sub [0] (by decide) (by simp)
      (try simp only [nsl, Value.cells, unB] at st')
      refine (number_c st' 16).mono ?_
      clear st'
      intro en w hen
      unfold RdC at hen
      cases hr : rdNumber 16 ys with
      | error e =>
        rw [hr] at hen
        obtain ⟨rfl, st'⟩ := hen
        replace st := back _ _ (by simp) st'
        clear back st'
        (try simp only [nsl, Value.cells, unB] at st)
        (try clear hc); have hc := st.facts; (try simp only [nfl, nft, Nat.reduceAdd] at hc)
        have H1 : Hid (rdMg xs = .error e) := Lib.hid (by simp [rdMg, HR1.out, hr, bdm])
        clear hr
        go_wp2_with fail
        refine ⟨rfl, ?_⟩
        unfold RdC
        rw [H1.out]
        have st' := st.keep [0] (by decide) (by simp)
        exact ⟨rfl, by simpa [pick] using st'⟩
      | ok p =>
        obtain ⟨n, zs⟩ := p
        have hl2 := rdNumber_leM hr
        rw [hr] at hen
        obtain ⟨v, M, rfl, ⟨rfl, rfl⟩, st'⟩ := hen
        replace st := back _ _ (by simp) st'
        clear back st'
        (try simp only [nsl, Value.cells, unB] at st)
        (try clear hc); have hc := st.facts; (try simp only [nfl, nft, Nat.reduceAdd] at hc)
        have HR2 := Lib.hid hr
        clear hr
        have hn : n ≤ 16 := by omega
        replace st := st.row_nil 45 2
        (try simp only [nsl, Value.cells, unB] at st)
        (try clear hc); have hc := st.facts; (try simp only [nfl, nft, Nat.reduceAdd] at hc)
        go_wp2_with fail
        go_loopg [21] n (fun kk i wr => ∃ (j : Nat) (out : List Role) (us : List UInt8) (va : Option Addr) (vc : Nat), j ≤ n ∧ kk = n - j ∧ i = .int .i64 (j : Int) ∧ Hid (rdN rdRole n zs = addN out (rdN rdRole (n - j) us)) ∧ Hid (j = out.length ∧ ∀ x ∈ out, roleR x = true) ∧ us.length ≤ 100000 ∧ Own fr al W [rdI r us, blkI b2 [.int .i64 0, .int .i64 0, .int .i64 0, .string ⟨#[]⟩, .slice none 0 0, .slice none 0 0], blkI b3 [.int .i64 2, .int .i64 0, .int .i64 0, .string ⟨#[]⟩, .slice va j vc, .slice none 0 0], rowI 45 2 (.slice va j vc) j (cellsL out)] wr)
        case atStart => exact ⟨0, [], zs, none, 0, by omega, by omega, rfl, Lib.hid (by rw [addN_nil]; rfl), Lib.hid ⟨rfl, by simp⟩, by omega, st⟩
        case round =>
          obtain ⟨j, out, us, va, vc, hj, rfl, rfl, HT, HJ, hul, st'⟩ := hrel
          clear st hc
          have st := st'
          clear st'
          (try simp only [nsl, Value.cells, unB] at st)
          (try clear hc); have hc := st.facts; (try simp only [nfl, nft, Nat.reduceAdd] at hc)
          by_cases hjn : j < n
          · obtain ⟨q, hq⟩ : ∃ q, n - j = q + 1 := ⟨n - j - 1, by omega⟩
            rw [hq] at HT
            have hq2 : n - (j + 1) = q := by omega
            clear hq
            go_wp2_with fail
            refine Rg4.wp_region6_eq #[0, 1, 0, 4, 12, 31, 63, 127] [1, 3, 4, 5, 7] [] (fun _ => True) [0, 2] 1 3 4 [5, 6, 7] (by kernel_rfl) (by rfl) (by rfl) (by rfl) (by rfl) (by rfl) (by kernel_rfl) (by kernel_rfl) (by kernel_rfl) (show Rg4.PB _ by repeat (first | with_reducible exact Rg4.pb_body | with_reducible exact Rg4.pb_bodyD rfl | with_reducible refine Rg4.pb_then ?_ | with_reducible refine Rg4.pb_inBlock ?_ | with_reducible refine Rg4.pb_noGoto ?_)) trivial ?_
            replace st := st.drew
            change Rg4.wp5 _ _ _ _ _ _ _ _ _ _ (World.drew _) _ _
            generalize World.drew _ = w at st ⊢
            (try clear hc); have hc := st.facts; (try simp only [nfl, nft, Nat.reduceAdd] at hc)
            iterate 2 (refine Rg4.w5_any (Rg4.want_none rfl) rfl ?_; apply Exists.intro; refine ⟨fun w' => ?_, ?_⟩; (focus (first | (go_simp; done) | (go_simp; first | rfl | (rw [if_neg] <;> first | rfl | omega) | (rw [if_pos] <;> first | rfl | omega)))); (try simp only [Rg4.nrm]))
            refine Rg4.w5_end ?_
            refine Rg4.tree_load' (show Rg4.PB _ by repeat (first | with_reducible exact Rg4.pb_body | with_reducible exact Rg4.pb_bodyD rfl | with_reducible refine Rg4.pb_then ?_ | with_reducible refine Rg4.pb_inBlock ?_ | with_reducible refine Rg4.pb_noGoto ?_)) (fun W' => Blk W' b3 [.int .i64 2, .int .i64 0, .int .i64 0, .string ⟨#[]⟩, .slice va j vc, .slice none 0 0]) (by rfl) (by rfl) rfl rfl rfl rfl rfl rfl (by kernel_rfl) (by kernel_rfl) nofun nofun nofun (fun _ => trivial) (st.blk (i := 2) get2) ?_
            apply Exists.intro; refine ⟨fun w' hcl => ?_, ?_⟩; (focus (have q4 := Blk.cell hcl 4; (try simp at q4); (focus (first | (go_simp; done) | (go_simp; first | rfl | (rw [if_neg] <;> first | rfl | omega) | (rw [if_pos] <;> first | rfl | omega)))))); (try simp only [Rg4.nrm])
            intro K hK
            go_wp2_with fail
            obtain ⟨fr', al', st', back⟩ := st.sub [0] (by decide) (by simp)
            (try simp only [nsl, Value.cells, unB] at st')
            refine (roleGet_c st' (by omega)).mono ?_
            clear st'
            intro en w hen
            unfold RdC at hen
            cases hr : rdRole us with
            | error e =>
              rw [hr] at hen
              obtain ⟨rfl, st'⟩ := hen
              replace st := back _ _ (by simp) st'
              clear back st'
              (try simp only [nsl, Value.cells, unB] at st)
              (try clear hc); have hc := st.facts; (try simp only [nfl, nft, Nat.reduceAdd] at hc)
              have H1 : Hid (rdMg xs = .error e) := Lib.hid (by simp [rdMg, HR1.out, HR2.out, HT.out, addN_er rdRole out q hr, bdm])
              clear hr
              go_wp2_with fail
              refine ⟨rfl, ?_⟩
              unfold RdC
              rw [H1.out]
              have st' := st.keep [0] (by decide) (by simp)
              exact ⟨rfl, by simpa [pick] using st'⟩
            | ok p =>
              obtain ⟨⟨ro, rd⟩, ts⟩ := p
              rw [hr] at hen
              obtain ⟨v, M, rfl, ⟨rfl, rfl⟩, st'⟩ := hen
              replace st := back _ _ (by simp) st'
              clear back st'
              (try simp only [nsl, Value.cells, unB] at st)
              (try clear hc); have hc := st.facts; (try simp only [nfl, nft, Nat.reduceAdd] at hc)
              have hl3 := rdRole_le hr
              have H1 : Hid (rdN rdRole n zs = addN (out ++ [(ro, rd)]) (rdN rdRole q ts)) := Lib.hid (by rw [HT.out]; exact addN_ok rdRole _ _ hr)
              have HRO := Lib.hid hl3.2
              clear hr
              unfold rV S
              refine hK _ _ ⟨st.blk (i := 2) get2, ?_⟩
              clear K hK
              intro K hK
              (try simp only [Rg4.nrm])
              (refine owp_buildSlice (o := ⟨some 27, _, _, _, _, _⟩) rfl st ?_; apply Exists.intro; apply Exists.intro; apply Exists.intro; apply Exists.intro; refine ⟨?_, ?_⟩; (focus (go_simp; (first | done | exact ⟨⟨rfl, rfl⟩, rfl⟩ | rfl))); (clear st; intro b27 w hb st; clear hb); (try simp only [nsl, Value.cells, unB] at st); (try clear hc); have hc := st.facts; (try simp only [nfl, nft, Nat.reduceAdd] at hc))
              refine hK _ _ ⟨st.blk (i := 2) get2, ?_⟩
              clear K hK
              (try simp only [Rg4.nrm])

              refine Rg4.w4_bar (Rg4.want_none rfl) rfl (fun w' hw' hcl _ K hK => ?_)
              subst hw'
              obtain ⟨inf, hinf, hz0, hz1, hz2⟩ := roleInfo
              refine owp_append rfl st 3 get3 Tryz.underlying22 hinf hz0 hz1 hz2 rfl (by decide) rfl rfl ((st.blk (i := 4) get4).flat rfl) (by simp [Value.oneCell']) (by simp only [maxLen]; omega) (by omega) ?_
              clear hinf hz0 hz1 hz2 inf
              clear st
              intro v' w st
              obtain ⟨va', vc', rfl⟩ := own_slice (st.row (i := 3) get3)
              (try simp only [nsl, Value.cells, unB] at st)
              (try clear hc); have hc := st.facts; (try simp only [nfl, nft, Nat.reduceAdd] at hc)
              refine hK _ _ ⟨trivial, ?_⟩
              clear hK
              (try simp only [Rg4.nrm])
              (refine Rg4.w4_any (Rg4.want_none rfl) rfl ?_; apply Exists.intro; refine ⟨fun w' => ?_, ?_⟩; (focus (first | (go_simp; done) | (go_simp; first | rfl | (rw [if_neg] <;> first | rfl | omega) | (rw [if_pos] <;> first | rfl | omega)))); (try simp only [Rg4.nrm]))
              (refine Rg4.w4_bar (Rg4.want_none rfl) rfl (fun w' hw' hcl' _ K hK => ?_); subst hw'; (refine owp_store rfl st ?_; apply Exists.intro; apply Exists.intro; refine ⟨?_, ?_, ?_⟩; (focus (go_simp; try rfl)); (focus (go_simp; try rfl)); (with_reducible refine ⟨2, _, _, _, _, get2, rfl, rfl, ?_, ?_, ?_, ?_⟩); (kernel_rfl); (simp [Value.cells]); (rfl); (clear st; intro w st); (try simp only [nsl, Value.cells, unB] at st); (try clear hc); have hc := st.facts; (try simp only [nfl, nft, Nat.reduceAdd] at hc)); refine hK _ _ ⟨trivial, ?_⟩; (try simp only [Rg4.nrm]))
              refine Rg4.w4_nil (fun w' hw' hcl' _ => ?_); subst hw'; clear hcl'
              go_wp2_with fail
              have st' := st.keep [0, 1, 2, 3] (by decide) (by simp)
              go_roundg (n - (j + 1))
              case measure => omega
              case rel =>
                refine ⟨j + 1, out ++ [(ro, rd)], ts, va', vc', by omega, by omega, by go_num, by rw [hq2]; exact H1, Lib.hid ⟨by simp [HJ.out.1], fun x hx => by
                  rcases List.mem_append.1 hx with z | z
                  · exact HJ.out.2 x z
                  · rw [List.mem_singleton.1 z]; exact HRO.out⟩, by omega, ?_⟩
                rw [cellsL_append, cellsL_one']
                exact st'
          · obtain rfl : j = n := by omega
            have HW : Hid (rdN rdRole j zs = .ok (out, us)) := Lib.hid (by rw [HT.out, Nat.sub_self]; exact addN_end rdRole _ _)
            clear HT
            go_wp2_with fail
            obtain ⟨fr', al', st', back⟩ := st.sub [0] (by decide) (by simp)
            (try simp only [nsl, Value.cells, unB] at st')
            refine (number_c st' 8).mono ?_
            clear st'
            intro en w hen
            unfold RdC at hen
            cases hr : rdNumber 8 us with
            | error e =>
              rw [hr] at hen
              obtain ⟨rfl, st'⟩ := hen
              replace st := back _ _ (by simp) st'
              clear back st'
              (try simp only [nsl, Value.cells, unB] at st)
              (try clear hc); have hc := st.facts; (try simp only [nfl, nft, Nat.reduceAdd] at hc)
              have H1 : Hid (rdMg xs = .error e) := Lib.hid (by simp [rdMg, HR1.out, HR2.out, HW.out, hr, bdm])
              clear hr
              go_wp2_with fail
              refine ⟨rfl, ?_⟩
              unfold RdC
              rw [H1.out]
              have st' := st.keep [0] (by decide) (by simp)
              exact ⟨rfl, by simpa [pick] using st'⟩
            | ok p =>
              obtain ⟨m, vs⟩ := p
              have hl3 := rdNumber_leM hr
              rw [hr] at hen
              obtain ⟨v, M, rfl, ⟨rfl, rfl⟩, st'⟩ := hen
              replace st := back _ _ (by simp) st'
              clear back st'
              (try simp only [nsl, Value.cells, unB] at st)
              (try clear hc); have hc := st.facts; (try simp only [nfl, nft, Nat.reduceAdd] at hc)
              have HR3 := Lib.hid hr
              clear hr
              have hm : m ≤ 8 := by omega
              replace st := (st.row_nil 61 10).noSgs
              (try simp only [nsl, Value.cells, unB] at st)
              (try clear hc); have hc := st.facts; (try simp only [nfl, nft, Nat.reduceAdd] at hc)
              go_wp2_with fail
              go_loopg [33] m (fun kk i wr => ∃ (q : Nat) (sl : List SgnT) (ts : List UInt8) (ta : Option Addr) (tc : Nat), q ≤ m ∧ kk = m - q ∧ i = .int .i64 (q : Int) ∧ Hid (rdN rdSg m vs = addN (sl.map stripS) (rdN rdSg (m - q) ts)) ∧ Hid (q = sl.length ∧ ∀ x ∈ sl, (credR x.c = true ∧ x.n = 8) ∧ (x.n ≤ x.m ∧ x.m ≤ maxLen)) ∧ ts.length ≤ 100000 ∧ Own fr al W [rdI r ts, blkI b2 [.int .i64 0, .int .i64 0, .int .i64 0, .string ⟨#[]⟩, .slice none 0 0, .slice none 0 0], blkI b3 [.int .i64 2, .int .i64 0, .int .i64 0, .string ⟨#[]⟩, .slice va j vc, .slice ta q tc], rowI 45 2 (.slice va j vc) j (cellsL out), rowI 61 10 (.slice ta q tc) q (cellsL sl), sgsI sl] wr)
              case atStart => exact ⟨0, [], vs, none, 0, by omega, by omega, rfl, Lib.hid (by rw [List.map_nil, addN_nil]; rfl), Lib.hid ⟨rfl, by simp⟩, by omega, st⟩
              case round =>
                obtain ⟨q, sl, ts, ta, tc, hq, rfl, rfl, HT, HQJ, htl, st'⟩ := hrel
                clear st hc
                have st := st'
                clear st'
                (try simp only [nsl, Value.cells, unB] at st)
                (try clear hc); have hc := st.facts; (try simp only [nfl, nft, Nat.reduceAdd] at hc)
                by_cases hqn : q < m
                · obtain ⟨d, hd⟩ : ∃ d, m - q = d + 1 := ⟨m - q - 1, by omega⟩
                  rw [hd] at HT
                  have hd2 : m - (q + 1) = d := by omega
                  clear hd
                  go_wp2_with fail
                  refine Rg4.wp_region6_eq #[0, 1, 0, 4, 12, 31, 63, 127] [1, 3, 4, 5, 7] [] (fun _ => True) [0, 2] 1 3 4 [5, 6, 7] (by kernel_rfl) (by rfl) (by rfl) (by rfl) (by rfl) (by rfl) (by kernel_rfl) (by kernel_rfl) (by kernel_rfl) (show Rg4.PB _ by repeat (first | with_reducible exact Rg4.pb_body | with_reducible exact Rg4.pb_bodyD rfl | with_reducible refine Rg4.pb_then ?_ | with_reducible refine Rg4.pb_inBlock ?_ | with_reducible refine Rg4.pb_noGoto ?_)) trivial ?_
                  replace st := st.drew
                  change Rg4.wp5 _ _ _ _ _ _ _ _ _ _ (World.drew _) _ _
                  generalize World.drew _ = w at st ⊢
                  (try clear hc); have hc := st.facts; (try simp only [nfl, nft, Nat.reduceAdd] at hc)
                  iterate 2 (refine Rg4.w5_any (Rg4.want_none rfl) rfl ?_; apply Exists.intro; refine ⟨fun w' => ?_, ?_⟩; (focus (first | (go_simp; done) | (go_simp; first | rfl | (rw [if_neg] <;> first | rfl | omega) | (rw [if_pos] <;> first | rfl | omega)))); (try simp only [Rg4.nrm]))
                  refine Rg4.w5_end ?_
                  refine Rg4.tree_load' (show Rg4.PB _ by repeat (first | with_reducible exact Rg4.pb_body | with_reducible exact Rg4.pb_bodyD rfl | with_reducible refine Rg4.pb_then ?_ | with_reducible refine Rg4.pb_inBlock ?_ | with_reducible refine Rg4.pb_noGoto ?_)) (fun W' => Blk W' b3 [.int .i64 2, .int .i64 0, .int .i64 0, .string ⟨#[]⟩, .slice va j vc, .slice ta q tc]) (by rfl) (by rfl) rfl rfl rfl rfl rfl rfl (by kernel_rfl) (by kernel_rfl) nofun nofun nofun (fun _ => trivial) (st.blk (i := 2) get2) ?_
                  apply Exists.intro; refine ⟨fun w' hcl => ?_, ?_⟩; (focus (have q5 := Blk.cell hcl 5; (try simp at q5); (focus (first | (go_simp; done) | (go_simp; first | rfl | (rw [if_neg] <;> first | rfl | omega) | (rw [if_pos] <;> first | rfl | omega)))))); (try simp only [Rg4.nrm])
                  intro K hK
                  go_wp2_with fail
                  obtain ⟨fr', al', st', back⟩ := st.sub [0] (by decide) (by simp)
                  (try simp only [nsl, Value.cells, unB] at st')
                  refine (keysGet_c st' (by omega)).mono ?_
                  clear st'
                  intro en w hen
                  unfold RdC at hen
                  cases hr : rdSg ts with
                  | error e =>
                    rw [hr] at hen
                    obtain ⟨rfl, st'⟩ := hen
                    replace st := back _ _ (by simp) st'
                    clear back st'
                    (try simp only [nsl, Value.cells, unB] at st)
                    (try clear hc); have hc := st.facts; (try simp only [nfl, nft, Nat.reduceAdd] at hc)
                    have H1 : Hid (rdMg xs = .error e) := Lib.hid (by simp [rdMg, HR1.out, HR2.out, HW.out, HR3.out, HT.out, addN_er rdSg (sl.map stripS) d hr, bdm])
                    clear hr
                    go_wp2_with fail
                    refine ⟨rfl, ?_⟩
                    unfold RdC
                    rw [H1.out]
                    have st' := st.keep [0] (by decide) (by simp)
                    exact ⟨rfl, by simpa [pick] using st'⟩
                  | ok p =>
                    obtain ⟨x, us2⟩ := p
                    rw [hr] at hen
                    obtain ⟨v, M, rfl, ⟨xa, xm, rfl, hxm, rfl⟩, st'⟩ := hen
                    replace st := back _ _ (by simp) st'
                    clear back st'
                    (try simp only [nsl, Value.cells, unB] at st)
                    (try clear hc); have hc := st.facts; (try simp only [nfl, nft, Nat.reduceAdd] at hc)
                    have hl4 := rdSg_le hr
                    have hcr := rdSg_cr hr
                    have hsx : stripS ⟨x.c, xa, 8, xm, x.xs⟩ = x := rdSg_strip hr xa xm
                    have H1 : Hid (rdN rdSg m vs = addN ((sl ++ [(⟨x.c, xa, 8, xm, x.xs⟩ : SgnT)]).map stripS) (rdN rdSg d us2)) := Lib.hid (by rw [HT.out, List.map_append, List.map_cons, List.map_nil, hsx]; exact addN_ok rdSg _ _ hr)
                    have HCR := Lib.hid hcr
                    clear hr hcr hsx
                    replace st := st.moreSgs (i := 5) (j := 6) (x := ⟨x.c, xa, 8, xm, x.xs⟩) get5 get6 hxm
                    have st9 := st.keep [0, 1, 2, 3, 4, 7] (by decide) (by simp)
                    clear st
                    have st := st9
                    clear st9
                    obtain ⟨⟨ck, ⟨ho, hd⟩, cw, ⟨bo, bd'⟩, ⟨co, cd⟩, we⟩, xa0, xn0, xm0, tg⟩ := x
                    unfold sgV S
                    simp only at st H1 HCR ⊢
                    (try simp only [nsl, Value.cells, unB] at st)
                    (try clear hc); have hc := st.facts; (try simp only [nfl, nft, Nat.reduceAdd] at hc)
                    refine hK _ _ ⟨st.blk (i := 2) get2, ?_⟩
                    clear K hK
                    intro K hK
                    (try simp only [Rg4.nrm])
                    (refine owp_buildSlice (o := ⟨some 39, _, _, _, _, _⟩) rfl st ?_; apply Exists.intro; apply Exists.intro; apply Exists.intro; apply Exists.intro; refine ⟨?_, ?_⟩; (focus (go_simp; (first | done | exact ⟨⟨rfl, rfl⟩, rfl⟩ | rfl))); (clear st; intro b39 w hb st; clear hb); (try simp only [nsl, Value.cells, unB] at st); (try clear hc); have hc := st.facts; (try simp only [nfl, nft, Nat.reduceAdd] at hc))
                    refine hK _ _ ⟨st.blk (i := 2) get2, ?_⟩
                    clear K hK
                    (try simp only [Rg4.nrm])

                    refine Rg4.w4_bar (Rg4.want_none rfl) rfl (fun w' hw' hcl _ K hK => ?_)
                    subst hw'
                    obtain ⟨inf, hinf, hz0, hz1, hz2⟩ := sgnInfo
                    refine owp_append rfl st 4 get4 Tryz.underlying23 hinf hz0 hz1 hz2 rfl (by decide) rfl rfl ((st.blk (i := 6) get6).flat rfl) (by simp [Value.oneCell']) (by simp only [maxLen]; omega) (by omega) ?_
                    clear hinf hz0 hz1 hz2 inf
                    clear st
                    intro v' w st
                    obtain ⟨ta', tc', rfl⟩ := own_slice (st.row (i := 4) get4)
                    (try simp only [nsl, Value.cells, unB] at st)
                    (try clear hc); have hc := st.facts; (try simp only [nfl, nft, Nat.reduceAdd] at hc)
                    refine hK _ _ ⟨trivial, ?_⟩
                    clear hK
                    (try simp only [Rg4.nrm])
                    (refine Rg4.w4_any (Rg4.want_none rfl) rfl ?_; apply Exists.intro; refine ⟨fun w' => ?_, ?_⟩; (focus (first | (go_simp; done) | (go_simp; first | rfl | (rw [if_neg] <;> first | rfl | omega) | (rw [if_pos] <;> first | rfl | omega)))); (try simp only [Rg4.nrm]))
                    (refine Rg4.w4_bar (Rg4.want_none rfl) rfl (fun w' hw' hcl' _ K hK => ?_); subst hw'; (refine owp_store rfl st ?_; apply Exists.intro; apply Exists.intro; refine ⟨?_, ?_, ?_⟩; (focus (go_simp; try rfl)); (focus (go_simp; try rfl)); (with_reducible refine ⟨2, _, _, _, _, get2, rfl, rfl, ?_, ?_, ?_, ?_⟩); (kernel_rfl); (simp [Value.cells]); (rfl); (clear st; intro w st); (try simp only [nsl, Value.cells, unB] at st); (try clear hc); have hc := st.facts; (try simp only [nfl, nft, Nat.reduceAdd] at hc)); refine hK _ _ ⟨trivial, ?_⟩; (try simp only [Rg4.nrm]))
                    refine Rg4.w4_nil (fun w' hw' hcl' _ => ?_); subst hw'; clear hcl'
                    go_wp2_with fail
                    have st' := st.keep [0, 1, 2, 3, 4, 5] (by decide) (by simp)
                    go_roundg (m - (q + 1))
                    case measure => omega
                    case rel =>
                      refine ⟨q + 1, sl ++ [(⟨⟨ck, (ho, hd), cw, (bo, bd'), (co, cd), we⟩, xa, 8, xm, tg⟩ : SgnT)], us2, ta', tc', by omega, by omega, by go_num, by rw [hd2]; exact H1, Lib.hid ⟨by simp [HQJ.out.1], fun x hx => by
                        rcases List.mem_append.1 hx with z | z
                        · exact HQJ.out.2 x z
                        · rw [List.mem_singleton.1 z]; exact ⟨⟨HCR.out, rfl⟩, hxm⟩⟩, by omega, ?_⟩
                      rw [cellsL_append, cellsL_one']
                      exact st'
                · obtain rfl : q = m := by omega
                  have HS : Hid (rdN rdSg q vs = .ok (sl.map stripS, ts)) := Lib.hid (by rw [HT.out, Nat.sub_self]; exact addN_end rdSg _ _)
                  clear HT
                  have hwf := rowFl' (α := Role) st (i := 3) get3
                  have hsf := rowFl' (α := SgnT) st (i := 4) get4
                  have HCP := Lib.hid (And.intro hwf.1 hsf.1)
                  have hby := st.sgsAt (i := 5) get5
                  have hok : ∀ w', Ext w w' → True := fun _ _ => trivial
                  have hmo : MgOk wr ⟨2, 0, 0, [], va, j, vc, out, ta, q, tc, sl⟩ := ⟨⟨hwf.1, hwf.2⟩, ⟨hsf.1, hsf.2⟩, hby⟩
                  have hml : MgL ⟨2, 0, 0, [], va, j, vc, out, ta, q, tc, sl⟩ := ⟨by simp only; omega, by simp only; omega, by simp, fun y hy => by have := roleR_len (HJ.out.2 y hy); omega, fun y hy => ⟨by have := (HQJ.out.2 y hy).1.2; omega, credR_S (HQJ.out.2 y hy).1.1⟩⟩
                  have HQ := Lib.hid (msgRight_any _ wr hmo hml)
                  unfold mgV S at HQ
                  simp only at HQ
                  rw [mgR_turn] at HQ
                  have HLJ := Lib.hid (And.intro HJ.out.1 HQJ.out.1)
                  clear hwf hsf hby hok hmo hml
                  go_wp2_with fail
                  refine HQ.out.mono ?_
                  rintro en w ⟨rfl, hx⟩
                  replace st := st.ext hx
                  clear hx
                  cases hmr : (wantsR out && showsR sl) with
                  | true =>
                    have H1 : Hid (rdMg xs = .ok (⟨2, 0, 0, [], none, j, 0, out, none, q, 0, sl.map stripS⟩, ts)) := Lib.hid (by simp [rdMg, HR1.out, HR2.out, HW.out, HR3.out, HS.out, bdm, okMg, mgR_turn, showsR_strip, hmr, ← HLJ.out.1, ← HLJ.out.2])
                    clear hmr HQ
                    (try simp only [nsl, Value.cells, unB] at st)
                    (try clear hc); have hc := st.facts; (try simp only [nfl, nft, Nat.reduceAdd] at hc)
                    go_wp2_with ((((with_reducible refine wl_store ?_ (fun K hK => ?_)); rfl; refine owp_store rfl st ?_; apply Exists.intro; apply Exists.intro; refine ⟨?_, ?_, ?_⟩; (focus (go_simp; try rfl)); (focus (go_simp; try rfl)); (with_reducible refine ⟨1, _, _, _, _, get1, rfl, rfl, ?_, ?_, ?_, ?_⟩); (kernel_rfl); (simp [Value.cells]); (rfl); (clear st; intro w st))); (try simp only [nsl, Value.cells, unB] at st); (try clear hc); have hc := st.facts; (try simp only [nfl, nft, Nat.reduceAdd] at hc))
                    (try simp only [Exit.inBlock, Exit.then])
                    refine bodyPost_cell rfl rfl (st.blk (i := 1) get1) Tryz.underlying25 rfl (by kernel_rfl) rfl ?_
                    unfold RdC
                    rw [H1.out]
                    have st' := ((st.rowToFl (α := Role) (i := 3) get3).rowToFl (α := SgnT) (i := 4) get4).keep [0, 3, 4, 5] (by decide) (by simp)
                    exact ⟨_, _, rfl, ⟨va, vc, ta, tc, sl, rfl, rfl, HCP.out, rfl⟩, by simpa [pick] using st'⟩
                  | false =>
                    have H1 : Hid (rdMg xs = .error 11) := Lib.hid (by simp [rdMg, HR1.out, HR2.out, HW.out, HR3.out, HS.out, bdm, okMg, mgR_turn, showsR_strip, hmr])
                    clear hmr HQ
                    (try simp only [nsl, Value.cells, unB] at st)
                    (try clear hc); have hc := st.facts; (try simp only [nfl, nft, Nat.reduceAdd] at hc)
                    obtain ⟨_, sq, ⟨_, hrd⟩, _⟩ := st.get (i := 0) (I := rdI r ts) get0
                    have HRD := Lib.hid hrd.any
                    clear hrd
                    go_wp2_with fail
                    refine (fail_any _ r 11 HRD.out (by decide)).mono ?_
                    rintro en w' ⟨rfl, rfl⟩
                    go_wp2_with fail
                    refine ⟨rfl, ?_⟩
                    unfold RdC
                    rw [H1.out]
                    have st' := (st.rdAny (i := 0) get0).keep [0] (by decide) (by simp)
                    exact ⟨rfl, by simpa [pick] using st'⟩
    have k1b : ((k : Int) == 1) = false := by simpa using (by omega : (k : Int) ≠ 1)
    have k2b : ((k : Int) == 2) = false := by simpa using (by omega : (k : Int) ≠ 2)
    by_cases k5 : k = 5
    · subst k5
      clear k1 k2
      go_wp2_with ((first
            | ((with_reducible refine wl_alloc ?_ (fun K hK => ?_)); rfl; refine owp_alloc (o := ⟨some 3, _, _, _, _, _⟩) rfl st ?_; apply Exists.intro; apply Exists.intro; refine ⟨?_, ?_⟩; (focus (first | (go_simp; done) | (go_simp; rfl))); (clear st; intro b3 w hb st; clear hb))
            | ((with_reducible refine wl_store ?_ (fun K hK => ?_)); rfl; refine owp_store rfl st ?_; apply Exists.intro; apply Exists.intro; refine ⟨?_, ?_, ?_⟩; (focus (go_simp; try rfl)); (focus (go_simp; try rfl)); (with_reducible refine ⟨2, _, _, _, _, get2, rfl, rfl, ?_, ?_, ?_, ?_⟩); (kernel_rfl); (simp [Value.cells]); (rfl); (clear st; intro w st))); (try simp only [nsl, Value.cells, unB] at st); (try clear hc); have hc := st.facts; (try simp only [nfl, nft, Nat.reduceAdd] at hc))
      obtain ⟨fr', al', st', back⟩ := st.sub [0] (by decide) (by simp)
      (try simp only [nsl, Value.cells, unB] at st')
      refine (number_c st' 99).mono ?_
      clear st'
      intro en w hen
      unfold RdC at hen
      cases hr : rdNumber 99 ys with
      | error e =>
        rw [hr] at hen
        obtain ⟨rfl, st'⟩ := hen
        replace st := back _ _ (by simp) st'
        clear back st'
        (try simp only [nsl, Value.cells, unB] at st)
        (try clear hc); have hc := st.facts; (try simp only [nfl, nft, Nat.reduceAdd] at hc)
        have H1 : Hid (rdMg xs = .error e) := Lib.hid (by simp [rdMg, HR1.out, hr, bdm])
        clear hr
        go_wp2_with fail
        refine ⟨rfl, ?_⟩
        unfold RdC
        rw [H1.out]
        have st' := st.keep [0] (by decide) (by simp)
        exact ⟨rfl, by simpa [pick] using st'⟩
      | ok p =>
        obtain ⟨en, us⟩ := p
        rw [hr] at hen
        obtain ⟨v, M, rfl, ⟨rfl, rfl⟩, st'⟩ := hen
        replace st := back _ _ (by simp) st'
        clear back st'
        (try simp only [nsl, Value.cells, unB] at st)
        (try clear hc); have hc := st.facts; (try simp only [nfl, nft, Nat.reduceAdd] at hc)
        have HR3 := Lib.hid hr
        clear hr
        have HQ := Lib.hid (fun W => msgRight_any (mg0 5 0 en []) W (mg0_ok W _ _ _ _) (mg0_L (by first | omega | simp)))
        unfold mgV mg0 S at HQ
        simp only at HQ
        go_wp2_with ((((with_reducible refine wl_store ?_ (fun K hK => ?_)); rfl; refine owp_store rfl st ?_; apply Exists.intro; apply Exists.intro; refine ⟨?_, ?_, ?_⟩; (focus (go_simp; try rfl)); (focus (go_simp; try rfl)); (with_reducible refine ⟨2, _, _, _, _, get2, rfl, rfl, ?_, ?_, ?_, ?_⟩); (kernel_rfl); (simp [Value.cells]); (rfl); (clear st; intro w st))); (try simp only [nsl, Value.cells, unB] at st); (try clear hc); have hc := st.facts; (try simp only [nfl, nft, Nat.reduceAdd] at hc))
        refine (HQ.out _).mono ?_
        rintro en w ⟨rfl, hx⟩
        replace st := st.ext hx
        clear hx
        cases hmr : mgR (mg0 5 0 en []) with
        | true =>
          have H1 : Hid (rdMg xs = .ok ((mg0 5 0 en []), us)) := Lib.hid (by simp [rdMg, HR1.out, HR3.out, bdm, okMg, hmr])
          have hmr2 := hmr
          unfold mg0 at hmr2
          rw [hmr2]
          clear hmr hmr2 HQ
          (try simp only [nsl, Value.cells, unB] at st)
          (try clear hc); have hc := st.facts; (try simp only [nfl, nft, Nat.reduceAdd] at hc)
          go_wp2_with ((((with_reducible refine wl_store ?_ (fun K hK => ?_)); rfl; refine owp_store rfl st ?_; apply Exists.intro; apply Exists.intro; refine ⟨?_, ?_, ?_⟩; (focus (go_simp; try rfl)); (focus (go_simp; try rfl)); (with_reducible refine ⟨1, _, _, _, _, get1, rfl, rfl, ?_, ?_, ?_, ?_⟩); (kernel_rfl); (simp [Value.cells]); (rfl); (clear st; intro w st))); (try simp only [nsl, Value.cells, unB] at st); (try clear hc); have hc := st.facts; (try simp only [nfl, nft, Nat.reduceAdd] at hc))
          (try simp only [Exit.inBlock, Exit.then])
          refine bodyPost_cell rfl rfl (st.blk (i := 1) get1) Tryz.underlying25 rfl (by kernel_rfl) rfl ?_
          unfold RdC
          rw [H1.out]
          have st' := (((st.keep [0] (by decide) (by simp)).nilFl (α := Role)).nilFl (α := SgnT)).noSgs
          exact ⟨_, _, rfl, ⟨none, 0, none, 0, [], rfl, rfl, ⟨⟨Nat.le_refl _, by simp [maxLen]⟩, ⟨Nat.le_refl _, by simp [maxLen]⟩⟩, rfl⟩, by simpa [pick, mg0] using st'⟩
        | false =>
          have H1 : Hid (rdMg xs = .error 11) := Lib.hid (by simp [rdMg, HR1.out, HR3.out, bdm, okMg, hmr])
          have hmr2 := hmr
          unfold mg0 at hmr2
          rw [hmr2]
          clear hmr hmr2 HQ
          (try simp only [nsl, Value.cells, unB] at st)
          (try clear hc); have hc := st.facts; (try simp only [nfl, nft, Nat.reduceAdd] at hc)
          obtain ⟨_, sq, ⟨_, hrd⟩, _⟩ := st.get (i := 0) (I := rdI r us) get0
          have HRD := Lib.hid hrd.any
          clear hrd
          go_wp2_with fail
          refine (fail_any _ r 11 HRD.out (by decide)).mono ?_
          rintro en w' ⟨rfl, rfl⟩
          go_wp2_with fail
          refine ⟨rfl, ?_⟩
          unfold RdC
          rw [H1.out]
          have st' := (st.rdAny (i := 0) get0).keep [0] (by decide) (by simp)
          exact ⟨rfl, by simpa [pick] using st'⟩
    · have k5b : ((k : Int) == 5) = false := by simpa using (by omega : (k : Int) ≠ 5)
      have HK := Lib.hid (And.intro k1 (And.intro k2 k5))
      clear k1 k2 k5
      have HQ := Lib.hid (fun W => msgRight_any (mg0 k 0 0 []) W (mg0_ok W _ _ _ _) (mg0_L (by first | omega | simp)))
      unfold mgV mg0 S at HQ
      simp only at HQ
      go_wp2_with ((first
            | ((with_reducible refine wl_alloc ?_ (fun K hK => ?_)); rfl; refine owp_alloc (o := ⟨some 3, _, _, _, _, _⟩) rfl st ?_; apply Exists.intro; apply Exists.intro; refine ⟨?_, ?_⟩; (focus (first | (go_simp; done) | (go_simp; rfl))); (clear st; intro b3 w hb st; clear hb))
            | ((with_reducible refine wl_store ?_ (fun K hK => ?_)); rfl; refine owp_store rfl st ?_; apply Exists.intro; apply Exists.intro; refine ⟨?_, ?_, ?_⟩; (focus (go_simp; try rfl)); (focus (go_simp; try rfl)); (with_reducible refine ⟨2, _, _, _, _, get2, rfl, rfl, ?_, ?_, ?_, ?_⟩); (kernel_rfl); (simp [Value.cells]); (rfl); (clear st; intro w st))); (try simp only [nsl, Value.cells, unB] at st); (try clear hc); have hc := st.facts; (try simp only [nfl, nft, Nat.reduceAdd] at hc))
      refine (HQ.out _).mono ?_
      rintro en w ⟨rfl, hx⟩
      replace st := st.ext hx
      clear hx
      cases hmr : mgR (mg0 k 0 0 []) with
      | true =>
        have H1 : Hid (rdMg xs = .ok ((mg0 k 0 0 []), ys)) := Lib.hid (by simp [rdMg, HR1.out, HK.out.1, HK.out.2.1, HK.out.2.2, bdm, okMg, hmr])
        have hmr2 := hmr
        unfold mg0 at hmr2
        rw [hmr2]
        clear hmr hmr2 HQ
        (try simp only [nsl, Value.cells, unB] at st)
        (try clear hc); have hc := st.facts; (try simp only [nfl, nft, Nat.reduceAdd] at hc)
        go_wp2_with ((((with_reducible refine wl_store ?_ (fun K hK => ?_)); rfl; refine owp_store rfl st ?_; apply Exists.intro; apply Exists.intro; refine ⟨?_, ?_, ?_⟩; (focus (go_simp; try rfl)); (focus (go_simp; try rfl)); (with_reducible refine ⟨1, _, _, _, _, get1, rfl, rfl, ?_, ?_, ?_, ?_⟩); (kernel_rfl); (simp [Value.cells]); (rfl); (clear st; intro w st))); (try simp only [nsl, Value.cells, unB] at st); (try clear hc); have hc := st.facts; (try simp only [nfl, nft, Nat.reduceAdd] at hc))
        (try simp only [Exit.inBlock, Exit.then])
        refine bodyPost_cell rfl rfl (st.blk (i := 1) get1) Tryz.underlying25 rfl (by kernel_rfl) rfl ?_
        unfold RdC
        rw [H1.out]
        have st' := (((st.keep [0] (by decide) (by simp)).nilFl (α := Role)).nilFl (α := SgnT)).noSgs
        exact ⟨_, _, rfl, ⟨none, 0, none, 0, [], rfl, rfl, ⟨⟨Nat.le_refl _, by simp [maxLen]⟩, ⟨Nat.le_refl _, by simp [maxLen]⟩⟩, rfl⟩, by simpa [pick, mg0] using st'⟩
      | false =>
        have H1 : Hid (rdMg xs = .error 11) := Lib.hid (by simp [rdMg, HR1.out, HK.out.1, HK.out.2.1, HK.out.2.2, bdm, okMg, hmr])
        have hmr2 := hmr
        unfold mg0 at hmr2
        rw [hmr2]
        clear hmr hmr2 HQ
        (try simp only [nsl, Value.cells, unB] at st)
        (try clear hc); have hc := st.facts; (try simp only [nfl, nft, Nat.reduceAdd] at hc)
        obtain ⟨_, sq, ⟨_, hrd⟩, _⟩ := st.get (i := 0) (I := rdI r ys) get0
        have HRD := Lib.hid hrd.any
        clear hrd
        go_wp2_with fail
        refine (fail_any _ r 11 HRD.out (by decide)).mono ?_
        rintro en w' ⟨rfl, rfl⟩
        go_wp2_with fail
        refine ⟨rfl, ?_⟩
        unfold RdC
        rw [H1.out]
        have st' := (st.rdAny (i := 0) get0).keep [0] (by decide) (by simp)
        exact ⟨rfl, by simpa [pick] using st'⟩
end Go.Proofs.YtekngjkjgmplpaaGreat

namespace Go.Proofs.YtekngjkjgmplpaaGreat
set_option linter.unusedSimpArgs false
set_option linter.unusedVariables false
open Go Go.RowKit
theorem rdCred_puts2 {x : CredT} (h : credR x = true) (zs : List UInt8) : rdCred (credB x ++ zs) = .ok (x, zs) := by
  obtain ⟨h1, hc⟩ := credR_cases h
  obtain ⟨k, hh, w, b, c, e⟩ := x
  simp only at h1 hc
  have hn : ∀ (k : Nat) (ys : List UInt8), k ≤ 4 → rdNumber 9223372036854775807 (numB k ++ ys) = .ok (k, ys) := fun k ys hk => rdNumber_put 9223372036854775807 k ys (by omega) (by decide)
  rcases hc with ⟨rfl, q1, rfl, rfl, rfl⟩ | ⟨rfl, q2, ⟨rfl, rfl, rfl⟩ | ⟨rfl, rfl, _, q5⟩ | ⟨rfl, rfl, q5, _⟩⟩
  · have e0 : credB ⟨1, hh, w, nR, nR, []⟩ ++ zs = numB 1 ++ (roleB hh ++ (numB w.length ++ w ++ zs)) := by simp [credB]
    unfold rdCred
    rw [e0, hn 1 _ (by decide), bd_ok, if_neg (by decide), rdRole_puts hh _ h1, bd_ok, if_pos rfl, rdName_put w zs q1, bd_ok, okCr, if_pos h]
  · have e0 : credB ⟨2, hh, [], b, nR, []⟩ ++ zs = numB 2 ++ (roleB hh ++ (roleB b ++ zs)) := by simp [credB]
    unfold rdCred
    rw [e0, hn 2 _ (by decide), bd_ok, if_neg (by decide), rdRole_puts hh _ h1, bd_ok, if_neg (by decide), rdRole_puts b _ q2, bd_ok, if_pos rfl, okCr, if_pos h]
  · have e0 : credB ⟨3, hh, [], b, nR, e⟩ ++ zs = numB 3 ++ (roleB hh ++ (roleB b ++ (numB e.length ++ e ++ zs))) := by simp [credB]
    unfold rdCred
    rw [e0, hn 3 _ (by decide), bd_ok, if_neg (by decide), rdRole_puts hh _ h1, bd_ok, if_neg (by decide), rdRole_puts b _ q2, bd_ok, if_neg (by decide), if_pos rfl, rdName_put e zs q5, bd_ok, okCr, if_pos h]
  · have e0 : credB ⟨4, hh, [], b, c, []⟩ ++ zs = numB 4 ++ (roleB hh ++ (roleB b ++ (roleB c ++ zs))) := by simp [credB]
    unfold rdCred
    rw [e0, hn 4 _ (by decide), bd_ok, if_neg (by decide), rdRole_puts hh _ h1, bd_ok, if_neg (by decide), rdRole_puts b _ q2, bd_ok, if_neg (by decide), if_neg (by decide), rdRole_puts c _ q5, bd_ok, okCr, if_pos h]
/-- A message without its places. -/
def stripM (m : MsgT) : MsgT := ⟨m.k, m.p, m.e, m.nm, none, m.wn, 0, m.ws, none, m.sn, 0, m.ss.map stripS⟩
theorem stripS_twice (l : List SgnT) : (l.map stripS).map stripS = l.map stripS := by
  rw [List.map_map]; rfl
theorem stripM_of {x d : MsgT} (h1 : x.k = d.k) (h2 : x.p = d.p) (h3 : x.e = d.e) (h4 : x.nm = d.nm) (h5 : x.wn = d.wn) (h6 : x.ws = d.ws) (h7 : x.sn = d.sn) (h8 : x.ss.map stripS = d.ss.map stripS) : stripM x = stripM d := by
  unfold stripM
  rw [h1, h2, h3, h4, h5, h6, h7, h8]
theorem sameSs_strip : ∀ l m : List SgnT, sameSs (l.map stripS) (m.map stripS) = sameSs l m
  | [], [] => rfl
  | x :: l, y :: m => by
    simp only [List.map_cons]
    unfold sameSs
    rw [sameSs_strip l m]
    rfl
  | [], _ :: _ => rfl
  | _ :: _, [] => rfl
theorem sameMg_strip (x y : MsgT) : sameMg (stripM x) (stripM y) = sameMg x y := by
  unfold sameMg stripM
  simp only
  rw [sameSs_strip]
theorem sameMg_of {x y : MsgT} (h : stripM x = stripM y) : sameMg x y = true := by
  rw [← sameMg_strip, h]
  unfold sameMg; rw [sameSs_refl]; simp
theorem bare_strip (x : MsgT) : stripM (bareMg x) = stripM (bareMg (stripM x)) := by
  have e : ∀ y : MsgT, bareMg (stripM y) = if y.k = 1 then ⟨y.k, y.p, 0, y.nm, none, 0, 0, [], none, 0, 0, []⟩ else if y.k = 2 then ⟨y.k, 0, 0, [], none, y.wn, 0, y.ws, none, y.sn, 0, y.ss.map stripS⟩ else if y.k = 5 then ⟨y.k, 0, y.e, [], none, 0, 0, [], none, 0, 0, []⟩ else ⟨y.k, 0, 0, [], none, 0, 0, [], none, 0, 0, []⟩ := fun y => rfl
  rw [e]
  unfold bareMg
  by_cases k1 : x.k = 1
  · rw [if_pos k1, if_pos k1]
  rw [if_neg k1, if_neg k1]
  by_cases k2 : x.k = 2
  · rw [if_pos k2, if_pos k2]
    unfold stripM
    simp only [stripS_twice]
  rw [if_neg k2, if_neg k2]
theorem mgR_strip (x : MsgT) : mgR (stripM x) = mgR x := by
  unfold mgR
  rw [← sameMg_strip (bareMg x) x, bare_strip, ← sameMg_strip (bareMg (stripM x)) (stripM x)]
  have e1 : stripM (stripM x) = stripM x := by unfold stripM; simp only [stripS_twice]
  rw [e1]
  congr 1
  unfold kindR stripM
  simp only
  rw [showsR_strip]
theorem sgB_strip (l : List SgnT) : (l.map stripS).flatMap sgB = l.flatMap sgB := by
  induction l with
  | nil => rfl
  | cons x l ih =>
    simp only [List.map_cons, List.flatMap_cons]
    rw [ih]
    rfl
/-- What is put is got. -/
theorem rdSg_put {x : SgnT} (hc : credR x.c = true) (hn : x.n = 8) (hl : x.xs.length = 8) (ys : List UInt8) : rdSg (sgB x ++ ys) = .ok (stripS x, ys) := by
  have e : rdText 8 (numB x.xs.length ++ x.xs ++ ys) = .ok (x.xs, ys) := rdText_put 8 x.xs ys (by omega) (by decide)
  rw [hl] at e
  unfold rdSg sgB
  rw [List.append_assoc, rdCred_puts2 hc, bdm_ok, hn, e, bdm_ok, if_pos hl]
  unfold stripS
  rw [hn]
theorem bare_0 {x : MsgT} (h : mgR x = true) (k : x.k ≠ 2) : x.ws = [] ∧ x.ss = [] ∧ (x.k ≠ 5 → x.e = 0) ∧ (x.k ≠ 1 → x.nm = [] ∧ x.p = 0) := by
  have hb : sameMg (bareMg x) x = true := by
    unfold mgR at h
    rw [Bool.and_eq_true] at h
    exact h.1
  unfold bareMg at hb
  rw [if_neg k] at hb
  unfold sameMg at hb
  by_cases k1 : x.k = 1
  · rw [if_pos k1] at hb
    simp only [sameSs_nil, Bool.and_eq_true, beq_iff_eq, decide_eq_true_eq] at hb
    exact ⟨hb.1.2.symm, hb.2, fun _ => hb.1.1.1.2.symm, fun q => absurd k1 q⟩
  · rw [if_neg k1] at hb
    by_cases k5 : x.k = 5
    · rw [if_pos k5] at hb
      simp only [sameSs_nil, Bool.and_eq_true, beq_iff_eq, decide_eq_true_eq] at hb
      exact ⟨hb.1.2.symm, hb.2, fun q => absurd k5 q, fun _ => ⟨hb.1.1.2.symm, hb.1.1.1.1.2.symm⟩⟩
    · rw [if_neg k5] at hb
      simp only [sameSs_nil, Bool.and_eq_true, beq_iff_eq, decide_eq_true_eq] at hb
      exact ⟨hb.1.2.symm, hb.2, fun _ => hb.1.1.1.2.symm, fun _ => ⟨hb.1.1.2.symm, hb.1.1.1.1.2.symm⟩⟩
theorem bare_2 {x : MsgT} (h : mgR x = true) (k : x.k = 2) : x.nm = [] ∧ x.p = 0 ∧ x.e = 0 := by
  have hb : sameMg (bareMg x) x = true := by
    unfold mgR at h
    rw [Bool.and_eq_true] at h
    exact h.1
  unfold bareMg at hb
  rw [if_neg (by omega), if_pos k] at hb
  unfold sameMg at hb
  simp only [Bool.and_eq_true, beq_iff_eq] at hb
  exact ⟨hb.1.1.2.symm, hb.1.1.1.1.2.symm, hb.1.1.1.2.symm⟩
theorem rdMg_put {W : World} {x : MsgT} (hx : MgOk W x) (h : mgR x = true) : rdMg (mgB x) = .ok (stripM x, []) := by
  have hR : mgR (stripM x) = true := by rw [mgR_strip, h]
  have hw : x.wn = x.ws.length := hx.1.2.1
  have hs : x.sn = x.ss.length := hx.2.1.2.1
  have hn : ∀ (k : Nat) (ys : List UInt8), k ≤ 5 → rdNumber 9223372036854775807 (numB k ++ ys) = .ok (k, ys) := fun k ys hk => rdNumber_put 9223372036854775807 k ys (by omega) (by decide)
  have hok : ∀ ys, okMg (stripM x) ys = .ok (stripM x, ys) := fun ys => by unfold okMg; rw [if_pos hR]
  by_cases k2 : x.k = 2
  · obtain ⟨b1, b2, b3⟩ := bare_2 h k2
    obtain ⟨h1, h2⟩ := mgR_2 h k2
    have w1 := wantsR_is h1
    have s1 := showsR_is h2
    have e : mgB x = numB 2 ++ (numB x.ws.length ++ (x.ws.flatMap roleB ++ (numB (x.ss.map stripS).length ++ ((x.ss.map stripS).flatMap sgB ++ [])))) := by
      unfold mgB
      rw [if_neg (by omega), if_pos k2, k2, hw, hs, sgB_strip, List.length_map]
      simp
    have n1 : rdNumber 16 (numB x.ws.length ++ (x.ws.flatMap roleB ++ (numB (x.ss.map stripS).length ++ ((x.ss.map stripS).flatMap sgB ++ [])))) = .ok (x.ws.length, _) := rdNumber_put 16 _ _ w1.1 (by decide)
    have n2 : rdNumber 8 (numB (x.ss.map stripS).length ++ ((x.ss.map stripS).flatMap sgB ++ [])) = .ok ((x.ss.map stripS).length, _) := rdNumber_put 8 _ _ (by rw [List.length_map]; exact s1.1) (by decide)
    unfold rdMg
    rw [e, hn 2 _ (by decide), bdm_ok, if_neg (by decide), if_pos rfl, n1, bdm_ok]
    rw [rdN_put rdRole roleB x.ws _ (fun r hr ys => rdRole_puts r ys (w1.2 r hr)), bdm_ok, n2, bdm_ok]
    rw [rdN_put rdSg sgB (x.ss.map stripS) [] (fun y hy ys => by
      obtain ⟨z, hz, rfl⟩ := List.mem_map.1 hy
      have hz8 := (s1.2 z hz).2
      have hl : z.xs.length = 8 := by have := (hx.2.2 z hz).2.1; omega
      exact rdSg_put (x := stripS z) (s1.2 z hz).1 hz8 hl ys), bdm_ok]
    have e2 : (⟨2, 0, 0, [], none, x.ws.length, 0, x.ws, none, (x.ss.map stripS).length, 0, x.ss.map stripS⟩ : MsgT) = stripM x := by
      unfold stripM
      rw [k2, b1, b2, b3, hw, hs, List.length_map]
    rw [e2, hok]
  · obtain ⟨b1, b2, b3, b4⟩ := bare_0 h k2
    have hw0 : x.wn = 0 := by rw [hw, b1]; rfl
    have hs0 : x.sn = 0 := by rw [hs, b2]; rfl
    have e2 : ∀ k p e nm, x.k = k → x.p = p → x.e = e → x.nm = nm → mg0 k p e nm = stripM x := fun k p e nm h1 h2 h3 h4 => by
      unfold stripM mg0
      rw [h1, h2, h3, h4, hw0, hs0, b1, b2]
      rfl
    rcases (mgR_k h).2 with k | k | k | k | k
    · obtain ⟨h1, h2⟩ := mgR_1 h k
      obtain ⟨p, hp, hp2⟩ : ∃ p : Nat, x.p = p ∧ p ≤ 2 := ⟨x.p.toNat, by omega, by omega⟩
      have n1 : rdNumber 2 (numB p ++ []) = .ok (p, []) := rdNumber_put 2 p [] hp2 (by decide)
      have e : mgB x = numB 1 ++ (numB x.nm.length ++ x.nm ++ (numB p ++ [])) := by
        unfold mgB
        rw [if_pos k, k, hp]
        simp
      unfold rdMg
      rw [e, hn 1 _ (by decide), bdm_ok, if_pos rfl, rdName_put x.nm _ h1, bdm_ok, n1, bdm_ok, e2 1 p 0 x.nm k hp (b3 (by omega)) rfl, hok]
    · exact absurd k k2
    · have e : mgB x = numB 3 ++ [] := by
        unfold mgB
        rw [if_neg (by omega), if_neg k2, if_neg (by omega), k]
        rfl
      unfold rdMg
      rw [e, hn 3 _ (by decide), bdm_ok, if_neg (by decide), if_neg (by decide), if_neg (by decide)]
      have := e2 3 0 0 [] k (b4 (by omega)).2 (b3 (by omega)) (b4 (by omega)).1
      rw [show (mg0 ((3 : Nat) : Int) 0 0 []) = stripM x from this, hok]
    · have e : mgB x = numB 4 ++ [] := by
        unfold mgB
        rw [if_neg (by omega), if_neg k2, if_neg (by omega), k]
        rfl
      unfold rdMg
      rw [e, hn 4 _ (by decide), bdm_ok, if_neg (by decide), if_neg (by decide), if_neg (by decide)]
      have := e2 4 0 0 [] k (b4 (by omega)).2 (b3 (by omega)) (b4 (by omega)).1
      rw [show (mg0 ((4 : Nat) : Int) 0 0 []) = stripM x from this, hok]
    · have h5 := mgR_5 h k
      obtain ⟨p, hp, hp2⟩ : ∃ p : Nat, x.e = p ∧ p ≤ 99 := ⟨x.e.toNat, by omega, by omega⟩
      have n1 : rdNumber 99 (numB p ++ []) = .ok (p, []) := rdNumber_put 99 p [] hp2 (by decide)
      have e : mgB x = numB 5 ++ (numB p ++ []) := by
        unfold mgB
        rw [if_neg (by omega), if_neg k2, if_pos k, k, hp]
        simp
      unfold rdMg
      rw [e, hn 5 _ (by decide), bdm_ok, if_neg (by decide), if_neg (by decide), if_pos rfl, n1, bdm_ok, e2 5 0 p [] k (b4 (by omega)).2 hp (b4 (by omega)).1, hok]
/-- How long the bytes are, at most. -/
theorem numB_1 {n : Nat} (h : n < 128) : (numB n).length = 1 := by
  unfold numB
  rw [numF_last _ _ (by omega)]
  rfl
theorem nameB_17 {s : List UInt8} (h : nameR s = true) : (numB s.length ++ s).length ≤ 17 := by
  have := (nameR_len h).2
  rw [List.length_append, numB_1 (by omega)]
  omega
theorem roleB_34 {r : Role} (h : roleR r = true) : (roleB r).length ≤ 34 := by
  obtain ⟨o, d⟩ := r
  have hr : nameR o = true ∧ nameR d = true := by simpa [roleR] using h
  have h1 := nameB_17 hr.1
  have h2 := nameB_17 hr.2
  unfold roleB
  rw [List.length_append]
  simp only
  omega
theorem credB_103 {x : CredT} (h : credR x = true) : (credB x).length ≤ 103 := by
  obtain ⟨h1, hc⟩ := credR_cases h
  obtain ⟨k, hh, w, b, c, e⟩ := x
  simp only at h1 hc
  have r1 := roleB_34 h1
  rcases hc with ⟨rfl, q1, rfl, rfl, rfl⟩ | ⟨rfl, q2, ⟨rfl, rfl, rfl⟩ | ⟨rfl, rfl, _, q5⟩ | ⟨rfl, rfl, q5, _⟩⟩
  · have := nameB_17 q1
    have e0 : credB ⟨1, hh, w, nR, nR, []⟩ = numB 1 ++ (roleB hh ++ (numB w.length ++ w)) := by simp [credB]
    rw [e0, List.length_append, List.length_append, numB_1 (by decide)]
    omega
  · have := roleB_34 q2
    have e0 : credB ⟨2, hh, [], b, nR, []⟩ = numB 2 ++ (roleB hh ++ roleB b) := by simp [credB]
    rw [e0, List.length_append, List.length_append, numB_1 (by decide)]
    omega
  · have := roleB_34 q2
    have := nameB_17 q5
    have e0 : credB ⟨3, hh, [], b, nR, e⟩ = numB 3 ++ (roleB hh ++ (roleB b ++ (numB e.length ++ e))) := by simp [credB]
    rw [e0, List.length_append, List.length_append, List.length_append, numB_1 (by decide)]
    omega
  · have := roleB_34 q2
    have := roleB_34 q5
    have e0 : credB ⟨4, hh, [], b, c, []⟩ = numB 4 ++ (roleB hh ++ (roleB b ++ roleB c)) := by simp [credB]
    rw [e0, List.length_append, List.length_append, List.length_append, numB_1 (by decide)]
    omega
theorem sgB_112 {x : SgnT} (h : credR x.c = true) (hn : x.n = 8) (hx : x.n = x.xs.length) : (sgB x).length ≤ 112 := by
  have h1 := credB_103 h
  unfold sgB
  rw [List.length_append, List.length_append, numB_1 (by omega)]
  omega
theorem mgB_2048 {W : World} {x : MsgT} (hx : MgOk W x) (h : mgR x = true) : (mgB x).length ≤ 2048 := by
  have hw : x.wn = x.ws.length := hx.1.2.1
  have hs : x.sn = x.ss.length := hx.2.1.2.1
  have hk := (mgR_k h).2
  have n1 : (numB x.k.toNat).length = 1 := numB_1 (by omega)
  unfold mgB
  rw [List.length_append]
  split
  · obtain ⟨h1, h2⟩ := mgR_1 h (by assumption)
    have := nameB_17 h1
    have n2 : (numB x.p.toNat).length = 1 := numB_1 (by omega)
    rw [List.length_append]
    omega
  · split
    · obtain ⟨h1, h2⟩ := mgR_2 h (by assumption)
      have w1 := wantsR_is h1
      have s1 := showsR_is h2
      have a1 := flatLen roleB 34 x.ws (fun y hy => roleB_34 (w1.2 y hy))
      have a2 := flatLen sgB 112 x.ss (fun y hy => sgB_112 (s1.2 y hy).1 (s1.2 y hy).2 (hx.2.2 y hy).2.1)
      have n2 : (numB x.wn).length = 1 := numB_1 (by omega)
      have n3 : (numB x.sn).length = 1 := numB_1 (by omega)
      simp only [List.length_append]
      omega
    · split
      · have h5 := mgR_5 h (by assumption)
        have n2 : (numB x.e.toNat).length = 1 := numB_1 (by omega)
        omega
      · simp; omega
end Go.Proofs.YtekngjkjgmplpaaGreat

namespace Go.Proofs.YtekngjkjgmplpaaGreat
set_option linter.unusedSimpArgs false
set_option linter.unusedVariables false
open Go Go.RowKit
def mgMC (d : MsgT) (cs : List Value) (M : List It) : Prop := ∃ wa wc sa sc ss, cs = mgC ⟨d.k, d.p, d.e, d.nm, wa, d.wn, wc, d.ws, sa, d.sn, sc, ss⟩ ∧ ss.map stripS = d.ss ∧ ((d.wn ≤ wc ∧ wc ≤ maxLen) ∧ (d.sn ≤ sc ∧ sc ≤ maxLen)) ∧ M = [flI wa d.wn d.ws, flI sa d.sn ss, sgsI ss]
theorem rdSg_er {xs : List UInt8} {e : Int} (h : rdSg xs = .error e) : e ≠ 0 := by
  unfold rdSg at h
  cases h1 : rdCred xs with
  | error e => rw [h1, bdm_er] at h; cases h; exact rdCred_er h1
  | ok p =>
    obtain ⟨c, us⟩ := p
    rw [h1, bdm_ok] at h
    cases h2 : rdText 8 us with
    | error e => rw [h2, bdm_er] at h; cases h; exact rdText_er h2
    | ok p =>
      obtain ⟨tg, vs⟩ := p
      rw [h2, bdm_ok] at h
      split at h
      · cases h
      · cases h; decide
theorem rdMg_er {xs : List UInt8} {e : Int} (h : rdMg xs = .error e) : e ≠ 0 := by
  have fin : ∀ {m ys}, okMg m ys = .error e → e ≠ 0 := fun {m ys} h => by
    unfold okMg at h; split at h
    · cases h
    · cases h; decide
  unfold rdMg at h
  cases h1 : rdNumber 9223372036854775807 xs with
  | error e => rw [h1, bdm_er] at h; cases h; exact rdNumber_er h1
  | ok p =>
    obtain ⟨k, us⟩ := p
    rw [h1, bdm_ok] at h
    split at h
    · cases h2 : rdName us with
      | error e => rw [h2, bdm_er] at h; cases h; exact rdName_er h2
      | ok p =>
        obtain ⟨nm, vs⟩ := p
        rw [h2, bdm_ok] at h
        cases h3 : rdNumber 2 vs with
        | error e => rw [h3, bdm_er] at h; cases h; exact rdNumber_er h3
        | ok p => obtain ⟨q, ts⟩ := p; rw [h3, bdm_ok] at h; exact fin h
    · split at h
      · cases h2 : rdNumber 16 us with
        | error e => rw [h2, bdm_er] at h; cases h; exact rdNumber_er h2
        | ok p =>
          obtain ⟨n, vs⟩ := p
          rw [h2, bdm_ok] at h
          cases h3 : rdN rdRole n vs with
          | error e => rw [h3, bdm_er] at h; cases h; exact rdN_er rdRole (fun _ _ q => rdRole_err q) h3
          | ok p =>
            obtain ⟨ws, ts⟩ := p
            rw [h3, bdm_ok] at h
            cases h4 : rdNumber 8 ts with
            | error e => rw [h4, bdm_er] at h; cases h; exact rdNumber_er h4
            | ok p =>
              obtain ⟨m, rs⟩ := p
              rw [h4, bdm_ok] at h
              cases h5 : rdN rdSg m rs with
              | error e => rw [h5, bdm_er] at h; cases h; exact rdN_er rdSg (fun _ _ q => rdSg_er q) h5
              | ok p => obtain ⟨ss, qs⟩ := p; rw [h5, bdm_ok] at h; exact fin h
      · split at h
        · cases h2 : rdNumber 99 us with
          | error e => rw [h2, bdm_er] at h; cases h; exact rdNumber_er h2
          | ok p => obtain ⟨n, vs⟩ := p; rw [h2, bdm_ok] at h; exact fin h
        · exact fin h
set_option maxRecDepth 100000 in
set_option maxHeartbeats 1000000 in
theorem msgRead1F_c {fr al : Nat → Prop} {W : World} {r b : Nat} {xs : List UInt8} (st : Own fr al W [rdI r xs, blkI b (mgC (mg0 0 0 0 []))] W) (hl : xs.length ≤ 100000) :
    Calls Tryz.prog 82 #[.pointer (some ⟨r, 0, none⟩), .pointer (some ⟨b, 0, none⟩)] W (GetPostM fr al W r b (rdMg xs) (mgC (mg0 0 0 0 [])) mgMC) := by
  go_enter Tryz.func82, Tryz.ntmps82
  go_wp2_with fail
  obtain ⟨fr', al', st', back⟩ := st.sub [0] (by decide) (by simp)
  (try simp only [nsl, Value.cells, unB] at st')
  refine (msgGet_c st' hl).mono ?_
  clear st'
  intro en w hen
  unfold RdC at hen
  cases hr : rdMg xs with
  | error e =>
    rw [hr] at hen
    obtain ⟨rfl, st'⟩ := hen
    replace st := back _ _ (by simp) st'
    clear back st'
    (try simp only [nsl, Value.cells, unB] at st)
    (try clear hc); have hc := st.facts; (try simp only [nfl, nft, Nat.reduceAdd] at hc)
    have HR := Lib.hid hr
    clear hr
    go_wp2_with fail
    refine ⟨rfl, ?_⟩
    unfold GetPostM
    (try rw [HR.out])
    exact ⟨rfl, st⟩
  | ok p =>
    obtain ⟨d, ys⟩ := p
    rw [hr] at hen
    obtain ⟨v, M, rfl, ⟨wa, wc, sa, sc, ss, rfl, hss, hcc, rfl⟩, st'⟩ := hen
    replace st := back _ _ (by simp) st'
    clear back st'
    (try simp only [nsl, Value.cells, unB] at st)
    (try clear hc); have hc := st.facts; (try simp only [nfl, nft, Nat.reduceAdd] at hc)
    have HR := Lib.hid hr
    have HS := Lib.hid (And.intro hss hcc)
    clear hr hss hcc
    unfold mgC at st
    unfold mgV S
    (try simp only [nsl, Value.cells, unB] at st)
    (try clear hc); have hc := st.facts; (try simp only [nfl, nft, Nat.reduceAdd] at hc)
    go_wp2_with ((((with_reducible refine wl_store ?_ (fun K hK => ?_)); rfl; refine owp_store rfl st ?_; apply Exists.intro; apply Exists.intro; refine ⟨?_, ?_, ?_⟩; (focus (go_simp; try rfl)); (focus (go_simp; try rfl)); (first | (with_reducible refine ⟨0, _, _, _, _, get0, rfl, rfl, ?_, ?_, ?_, ?_⟩) | (with_reducible refine ⟨1, _, _, _, _, get1, rfl, rfl, ?_, ?_, ?_, ?_⟩) | (with_reducible refine ⟨2, _, _, _, _, get2, rfl, rfl, ?_, ?_, ?_, ?_⟩) | (with_reducible refine ⟨3, _, _, _, _, get3, rfl, rfl, ?_, ?_, ?_, ?_⟩) | (with_reducible refine ⟨4, _, _, _, _, get4, rfl, rfl, ?_, ?_, ?_, ?_⟩) | (with_reducible refine ⟨5, _, _, _, _, get5, rfl, rfl, ?_, ?_, ?_, ?_⟩) | (with_reducible refine ⟨6, _, _, _, _, get6, rfl, rfl, ?_, ?_, ?_, ?_⟩)); (kernel_rfl); (simp [Value.cells]); (rfl); (clear st; intro w st))); (try simp only [nsl, Value.cells, unB] at st); (try clear hc); have hc := st.facts; (try simp only [nfl, nft, Nat.reduceAdd] at hc))
    go_end0
    unfold GetPostM
    (try rw [HR.out])
    exact ⟨rfl, _, _, ⟨wa, wc, sa, sc, ss, rfl, HS.out.1, HS.out.2, rfl⟩, by simpa [S, mgC] using st⟩
/-- What is read: the message that the bytes are, or the error. -/
def RdPost (res : Except Int (MsgT × List UInt8)) (m : MsgT) (er : Int) : Prop := match res with
  | .ok (d, []) => er = 0 ∧ stripM m = stripM d
  | .ok (_, _ :: _) => er = 13
  | .error e => er = e
theorem Own.weak {fr fr' al al' : Nat → Prop} {w0 w : World} {L : List It} (h : Own fr al w0 L w) (hf : ∀ b, fr b → fr' b) (ha : ∀ b, al b → al' b) : Own fr' al' w0 L w :=
  let ⟨hm, e, s, F⟩ := h
  ⟨hm.mono hf, e, s, F.holds, F.lo, fun i b hi he hb => hf _ (F.fr i b hi he hb), fun i b hi hb hl => ha _ (F.al i b hi hb hl), F.ee, F.es⟩
/-- What a call has laid anew comes beside what there was. -/
theorem Own.join {fr al : Nat → Prop} {w0 w w' : World} {L M : List It} (st : Own fr al w0 L w) (h : Own (fun _ => False) (fun _ => False) w M w') : Own fr al w0 (L ++ M) w' := by
  obtain ⟨fr', al', st', back⟩ := st.sub [] (by simp) (by simp)
  have := back M w' (by simp) (h.weak (fun _ q => q.elim) (fun _ q => q.elim))
  simpa [putIt] using this
set_option maxRecDepth 100000 in
set_option maxHeartbeats 2000000 in
theorem msgRead_f (a : Option Addr) (n c : Nat) (xs : List UInt8) (W : World) (h : By W a n xs) (hc : n ≤ c ∧ c ≤ maxLen) (hl : xs.length ≤ 100000) :
    Calls Tryz.prog 47 #[.slice a n c] W fun e w' => ∃ m er, e = .returned (.tuple #[mgV m, .int .i64 er]) ∧ RdPost (rdMg xs) m er ∧ ((m.wn ≤ m.wc ∧ m.wc ≤ maxLen) ∧ (m.sn ≤ m.sc ∧ m.sc ≤ maxLen)) ∧ Own (fun _ => False) (fun _ => False) W [flI m.wa m.wn m.ws, flI m.sa m.sn m.ss, sgsI m.ss] w' := by
  have st := Own.start (fun _ => False) (fun _ => False) W
  have HB := Lib.hid h
  have HC := Lib.hid hc
  have HN : Hid (n = xs.length) := Lib.hid h.1
  clear hc h
  (try simp only [nsl, Value.cells, unB] at st)
  (try clear hc); have hc := st.facts; (try simp only [nfl, nft, Nat.reduceAdd] at hc)
  go_enter Tryz.func47, Tryz.ntmps47
  go_wp2_with ((first
        | ((with_reducible refine wl_alloc ?_ (fun K hK => ?_)); rfl; refine owp_alloc (o := ⟨some 2, _, _, _, _, _⟩) rfl st ?_; apply Exists.intro; apply Exists.intro; refine ⟨?_, ?_⟩; (focus (first | (go_simp; done) | (go_simp; rfl))); (clear st; intro b2 w hb st; clear hb))
        | ((with_reducible refine wl_alloc ?_ (fun K hK => ?_)); rfl; refine owp_alloc (o := ⟨some 4, _, _, _, _, _⟩) rfl st ?_; apply Exists.intro; apply Exists.intro; refine ⟨?_, ?_⟩; (focus (first | (go_simp; done) | (go_simp; rfl))); (clear st; intro b4 w hb st; clear hb))
        | ((with_reducible refine wl_store ?_ (fun K hK => ?_)); rfl; refine owp_store rfl st ?_; apply Exists.intro; apply Exists.intro; refine ⟨?_, ?_, ?_⟩; (focus (go_simp; try rfl)); (focus (go_simp; try rfl)); (first | (with_reducible refine ⟨0, _, _, _, _, get0, rfl, rfl, ?_, ?_, ?_, ?_⟩) | (with_reducible refine ⟨1, _, _, _, _, get1, rfl, rfl, ?_, ?_, ?_, ?_⟩) | (with_reducible refine ⟨2, _, _, _, _, get2, rfl, rfl, ?_, ?_, ?_, ?_⟩) | (with_reducible refine ⟨3, _, _, _, _, get3, rfl, rfl, ?_, ?_, ?_, ?_⟩) | (with_reducible refine ⟨4, _, _, _, _, get4, rfl, rfl, ?_, ?_, ?_, ?_⟩) | (with_reducible refine ⟨5, _, _, _, _, get5, rfl, rfl, ?_, ?_, ?_, ?_⟩) | (with_reducible refine ⟨6, _, _, _, _, get6, rfl, rfl, ?_, ?_, ?_, ?_⟩)); (kernel_rfl); (simp [Value.cells]); (rfl); (clear st; intro w st))); (try simp only [nsl, Value.cells, unB] at st); (try clear hc); have hc := st.facts; (try simp only [nfl, nft, Nat.reduceAdd] at hc))
  refine (readGetM_c (i := 1) (b := b4) (z := mgC (mg0 0 0 0 [])) st get1 (HB.out.ext st.ext0) HC.out (by have := HN.out; omega) 82 (fun _ _ => by kernel_rfl) (rdMg xs) mgMC (fun fr al w r st => msgRead1F_c st hl)).mono ?_
  rintro en w ⟨r1, cs, M, rfl, hg, st'⟩
  clear st
  cases hr : rdMg xs with
  | error e =>
    have he := rdMg_er hr
    have heb : (e != 0) = true := by simpa using he
    rw [hr] at hg
    unfold GotM at hg
    obtain ⟨rfl, rfl⟩ := hg
    have HRD := Lib.hid hr
    clear hr he
    simp only [gotE, List.set, List.append_nil] at st' ⊢
    have st := st'.keep [1, 2] (by decide) (by simp)
    clear st'
    simp only [pick, List.map_cons, List.map_nil, List.getElem?_cons_zero, List.getElem?_cons_succ, Option.getD_some, mgC, mg0, S] at st
    (try simp only [nsl, Value.cells, unB] at st)
    (try clear hc); have hc := st.facts; (try simp only [nfl, nft, Nat.reduceAdd] at hc)
    go_wp2_with ((first
          | ((with_reducible refine wl_alloc ?_ (fun K hK => ?_)); rfl; refine owp_alloc (o := ⟨some 2, _, _, _, _, _⟩) rfl st ?_; apply Exists.intro; apply Exists.intro; refine ⟨?_, ?_⟩; (focus (first | (go_simp; done) | (go_simp; rfl))); (clear st; intro b2 w hb st; clear hb))
          | ((with_reducible refine wl_alloc ?_ (fun K hK => ?_)); rfl; refine owp_alloc (o := ⟨some 4, _, _, _, _, _⟩) rfl st ?_; apply Exists.intro; apply Exists.intro; refine ⟨?_, ?_⟩; (focus (first | (go_simp; done) | (go_simp; rfl))); (clear st; intro b4 w hb st; clear hb))
          | ((with_reducible refine wl_store ?_ (fun K hK => ?_)); rfl; refine owp_store rfl st ?_; apply Exists.intro; apply Exists.intro; refine ⟨?_, ?_, ?_⟩; (focus (go_simp; try rfl)); (focus (go_simp; try rfl)); (first | (with_reducible refine ⟨0, _, _, _, _, get0, rfl, rfl, ?_, ?_, ?_, ?_⟩) | (with_reducible refine ⟨1, _, _, _, _, get1, rfl, rfl, ?_, ?_, ?_, ?_⟩) | (with_reducible refine ⟨2, _, _, _, _, get2, rfl, rfl, ?_, ?_, ?_, ?_⟩) | (with_reducible refine ⟨3, _, _, _, _, get3, rfl, rfl, ?_, ?_, ?_, ?_⟩) | (with_reducible refine ⟨4, _, _, _, _, get4, rfl, rfl, ?_, ?_, ?_, ?_⟩) | (with_reducible refine ⟨5, _, _, _, _, get5, rfl, rfl, ?_, ?_, ?_, ?_⟩) | (with_reducible refine ⟨6, _, _, _, _, get6, rfl, rfl, ?_, ?_, ?_, ?_⟩)); (kernel_rfl); (simp [Value.cells]); (rfl); (clear st; intro w st))); (try simp only [nsl, Value.cells, unB] at st); (try clear hc); have hc := st.facts; (try simp only [nfl, nft, Nat.reduceAdd] at hc))
    (try simp only [Exit.inBlock, Exit.then])
    refine bodyPost_cell2 rfl rfl (st.blk (i := 0) get0) Tryz.underlying25 rfl (by kernel_rfl) rfl ?_
    have st' := (((st.keep [] (by decide) (by simp)).nilFl (α := Role)).nilFl (α := SgnT)).noSgs
    exact ⟨mg0 0 0 0 [], e, rfl, by unfold RdPost; rw [HRD.out], ⟨⟨Nat.le_refl _, by simp [maxLen, mg0]⟩, ⟨Nat.le_refl _, by simp [maxLen, mg0]⟩⟩, by simpa [pick, mg0] using st'⟩
  | ok p =>
    obtain ⟨d, ys⟩ := p
    rw [hr] at hg
    unfold GotM mgMC at hg
    obtain ⟨wa, wc, sa, sc, ss, rfl, hss, hcc, rfl⟩ := hg
    have HS := Lib.hid (And.intro hss hcc)
    have HRD := Lib.hid hr
    clear hr hss hcc
    simp only [gotE, List.set, List.cons_append, List.nil_append] at st' ⊢
    have st := st'.keep [1, 2, 3, 4, 5] (by decide) (by simp)
    clear st'
    simp only [pick, List.map_cons, List.map_nil, List.getElem?_cons_zero, List.getElem?_cons_succ, Option.getD_some, mgC, S] at st
    cases ys with
    | nil =>
      simp only [if_true]
      (try simp only [nsl, Value.cells, unB] at st)
      (try clear hc); have hc := st.facts; (try simp only [nfl, nft, Nat.reduceAdd] at hc)
      go_wp2_with ((first
            | ((with_reducible refine wl_alloc ?_ (fun K hK => ?_)); rfl; refine owp_alloc (o := ⟨some 2, _, _, _, _, _⟩) rfl st ?_; apply Exists.intro; apply Exists.intro; refine ⟨?_, ?_⟩; (focus (first | (go_simp; done) | (go_simp; rfl))); (clear st; intro b2 w hb st; clear hb))
            | ((with_reducible refine wl_alloc ?_ (fun K hK => ?_)); rfl; refine owp_alloc (o := ⟨some 4, _, _, _, _, _⟩) rfl st ?_; apply Exists.intro; apply Exists.intro; refine ⟨?_, ?_⟩; (focus (first | (go_simp; done) | (go_simp; rfl))); (clear st; intro b4 w hb st; clear hb))
            | ((with_reducible refine wl_store ?_ (fun K hK => ?_)); rfl; refine owp_store rfl st ?_; apply Exists.intro; apply Exists.intro; refine ⟨?_, ?_, ?_⟩; (focus (go_simp; try rfl)); (focus (go_simp; try rfl)); (first | (with_reducible refine ⟨0, _, _, _, _, get0, rfl, rfl, ?_, ?_, ?_, ?_⟩) | (with_reducible refine ⟨1, _, _, _, _, get1, rfl, rfl, ?_, ?_, ?_, ?_⟩) | (with_reducible refine ⟨2, _, _, _, _, get2, rfl, rfl, ?_, ?_, ?_, ?_⟩) | (with_reducible refine ⟨3, _, _, _, _, get3, rfl, rfl, ?_, ?_, ?_, ?_⟩) | (with_reducible refine ⟨4, _, _, _, _, get4, rfl, rfl, ?_, ?_, ?_, ?_⟩) | (with_reducible refine ⟨5, _, _, _, _, get5, rfl, rfl, ?_, ?_, ?_, ?_⟩) | (with_reducible refine ⟨6, _, _, _, _, get6, rfl, rfl, ?_, ?_, ?_, ?_⟩)); (kernel_rfl); (simp [Value.cells]); (rfl); (clear st; intro w st))); (try simp only [nsl, Value.cells, unB] at st); (try clear hc); have hc := st.facts; (try simp only [nfl, nft, Nat.reduceAdd] at hc))
      (try simp only [Exit.inBlock, Exit.then])
      refine bodyPost_cell2 rfl rfl (st.blk (i := 0) get0) Tryz.underlying25 rfl (by kernel_rfl) rfl ?_
      have st' := st.keep [2, 3, 4] (by decide) (by simp)
      refine ⟨⟨d.k, d.p, d.e, d.nm, wa, d.wn, wc, d.ws, sa, d.sn, sc, ss⟩, 0, rfl, ?_, HS.out.2, by simpa [pick] using st'⟩
      unfold RdPost
      rw [HRD.out]
      refine ⟨rfl, stripM_of rfl rfl rfl rfl rfl rfl rfl ?_⟩
      rw [← HS.out.1, stripS_twice]
    | cons y ys =>
      simp only [if_neg (List.cons_ne_nil y ys)]
      (try simp only [nsl, Value.cells, unB] at st)
      (try clear hc); have hc := st.facts; (try simp only [nfl, nft, Nat.reduceAdd] at hc)
      go_wp2_with ((first
            | ((with_reducible refine wl_alloc ?_ (fun K hK => ?_)); rfl; refine owp_alloc (o := ⟨some 2, _, _, _, _, _⟩) rfl st ?_; apply Exists.intro; apply Exists.intro; refine ⟨?_, ?_⟩; (focus (first | (go_simp; done) | (go_simp; rfl))); (clear st; intro b2 w hb st; clear hb))
            | ((with_reducible refine wl_alloc ?_ (fun K hK => ?_)); rfl; refine owp_alloc (o := ⟨some 4, _, _, _, _, _⟩) rfl st ?_; apply Exists.intro; apply Exists.intro; refine ⟨?_, ?_⟩; (focus (first | (go_simp; done) | (go_simp; rfl))); (clear st; intro b4 w hb st; clear hb))
            | ((with_reducible refine wl_store ?_ (fun K hK => ?_)); rfl; refine owp_store rfl st ?_; apply Exists.intro; apply Exists.intro; refine ⟨?_, ?_, ?_⟩; (focus (go_simp; try rfl)); (focus (go_simp; try rfl)); (first | (with_reducible refine ⟨0, _, _, _, _, get0, rfl, rfl, ?_, ?_, ?_, ?_⟩) | (with_reducible refine ⟨1, _, _, _, _, get1, rfl, rfl, ?_, ?_, ?_, ?_⟩) | (with_reducible refine ⟨2, _, _, _, _, get2, rfl, rfl, ?_, ?_, ?_, ?_⟩) | (with_reducible refine ⟨3, _, _, _, _, get3, rfl, rfl, ?_, ?_, ?_, ?_⟩) | (with_reducible refine ⟨4, _, _, _, _, get4, rfl, rfl, ?_, ?_, ?_, ?_⟩) | (with_reducible refine ⟨5, _, _, _, _, get5, rfl, rfl, ?_, ?_, ?_, ?_⟩) | (with_reducible refine ⟨6, _, _, _, _, get6, rfl, rfl, ?_, ?_, ?_, ?_⟩)); (kernel_rfl); (simp [Value.cells]); (rfl); (clear st; intro w st))); (try simp only [nsl, Value.cells, unB] at st); (try clear hc); have hc := st.facts; (try simp only [nfl, nft, Nat.reduceAdd] at hc))
      (try simp only [Exit.inBlock, Exit.then])
      refine bodyPost_cell2 rfl rfl (st.blk (i := 0) get0) Tryz.underlying25 rfl (by kernel_rfl) rfl ?_
      have st' := (((st.keep [] (by decide) (by simp)).nilFl (α := Role)).nilFl (α := SgnT)).noSgs
      exact ⟨mg0 0 0 0 [], 13, rfl, by unfold RdPost; rw [HRD.out], ⟨⟨Nat.le_refl _, by simp [maxLen, mg0]⟩, ⟨Nat.le_refl _, by simp [maxLen, mg0]⟩⟩, by simpa [pick, mg0] using st'⟩
theorem MgL_by {x y : MsgT} (h : stripM x = stripM y) (hy : MgL y) : MgL x := by
  unfold stripM at h
  injection h with h1 h2 h3 h4 _ h5 _ h6 _ h7 _ h8
  refine ⟨by rw [h5]; exact hy.1, by rw [h7]; exact hy.2.1, by rw [h4]; exact hy.2.2.1, by rw [h6]; exact hy.2.2.2.1, fun z hz => ?_⟩
  have hm : stripS z ∈ y.ss.map stripS := by rw [← h8]; exact List.mem_map.2 ⟨z, hz, rfl⟩
  obtain ⟨u, hu, e⟩ := List.mem_map.1 hm
  unfold stripS at e
  injection e with e1 _ e2
  rw [← e1, ← e2]
  exact hy.2.2.2.2 u hu
end Go.Proofs.YtekngjkjgmplpaaGreat

namespace Go.Proofs.YtekngjkjgmplpaaGreat
set_option linter.unusedSimpArgs false
set_option linter.unusedVariables false
open Go Go.RowKit

def fnvStep (h : Int) (c : UInt8) : Int := IntKind.u64.wrap (bits BinOp.xor IntKind.u64 h (IntKind.u64.wrap (c.toNat : Int)) * 1099511628211)
def fnv (h : Int) (xs : List UInt8) : Int := xs.foldl fnvStep h
theorem fnv_append (h : Int) (xs ys : List UInt8) : fnv h (xs ++ ys) = fnv (fnv h xs) ys := List.foldl_append
def fnv0 : Int := 14695981039346656037

theorem take_succ_of {α : Type} (l : List α) (k : Nat) (h : k < l.length) : l.take (k + 1) = l.take k ++ [l[k]] := by
  rw [List.take_succ_eq_append_getElem h]
theorem fnv_take (h : Int) (l : List UInt8) (k : Nat) (hk : k < l.length) : fnv h (l.take (k + 1)) = fnvStep (fnv h (l.take k)) l[k] := by
  rw [take_succ_of l k hk, fnv_append]; rfl
theorem fnv_flat (h : Int) (l : List (List UInt8)) (k : Nat) (hk : k < l.length) : fnv h (l.take (k + 1)).flatten = fnv (fnv h (l.take k).flatten) l[k] := by
  rw [take_succ_of l k hk, List.flatten_append, fnv_append]; simp

abbrev Bys (w : World) (a : Option Addr) (n : Nat) (xss : List (List UInt8)) : Prop := Arr 1 sliceR w a n xss
theorem Bys.at {w : World} {a : Option Addr} {n : Nat} {xs : List (List UInt8)} (h : Bys w a n xs) {k : Nat} (hk : k < n) :
    ∃ b off a' n' c', a = some ⟨b, off, none⟩ ∧ w.cell? ⟨b, off + k, none⟩ = some (.slice a' n' c') ∧ n' ≤ maxLen ∧ ∃ h' : k < xs.length, By w a' n' xs[k] := by
  obtain ⟨b, off, ha, hc⟩ := h.2 (by omega)
  have hk' : k < xs.length := h.1 ▸ hk
  obtain ⟨v, h1, a', n', c', rfl, h2, h3, h4⟩ := hc k xs[k] (List.getElem?_eq_getElem hk')
  rw [Nat.mul_one] at h1
  exact ⟨b, off, a', n', c', ha, h1, Nat.le_trans h2 h3, hk', h4⟩

set_option maxHeartbeats 400000 in
theorem sum_any (a : Option Addr) (n c : Nat) (xss : List (List UInt8)) (w : World) (hn : n ≤ maxLen) (h : Bys w a n xss) :
    Calls Tryz.prog 75 #[.slice a n c] w fun e w' => e = .returned (.int .u64 (fnv fnv0 xss.flatten)) ∧ w = w' := by
  unfold maxLen at hn
  have hl := h.1
  have HL := Lib.hid hl; clear hl
  have HB := Lib.hid h; clear h
  go_enter Tryz.func75, Tryz.ntmps75
  go_wp2
  go_loop [3, 10] (fun h i => ∃ k : Nat, k ≤ n ∧ i = .int .i64 k ∧ h = .int .u64 (fnv fnv0 (xss.take k).flatten)) (fun _ i => n - (intOf i).toNat)
  case atStart => exact ⟨0, Nat.zero_le _, rfl, rfl⟩
  case round =>
    obtain ⟨k, hk, rfl, rfl⟩ := hrel
    by_cases hlt : k < n
    · obtain ⟨b, off, a', n', c', rfl, hcell, hn', hk', hb⟩ := HB.out.at hlt
      have HI := Lib.hid hb; clear hb
      unfold maxLen at hn'
      go_wp2
      go_loop [3, 16] (fun h i => ∃ j : Nat, j ≤ n' ∧ i = .int .i64 j ∧ h = .int .u64 (fnv (fnv fnv0 (xss.take k).flatten) (xss[k].take j))) (fun _ i => n' - (intOf i).toNat)
      case atStart => exact ⟨0, Nat.zero_le _, rfl, rfl⟩
      case round =>
        obtain ⟨j, hj, rfl, rfl⟩ := hrel
        by_cases hlt' : j < n'
        · obtain ⟨b', off', rfl, _, hj', hc'⟩ := HI.out.at hlt'
          go_wp2
          go_round
          case rel => exact ⟨j + 1, by omega, by go_num, by rw [fnv_take _ _ _ hj']; rfl⟩
          case measure => simp [intOf]; omega
        · go_wp2
          go_round
          case rel => exact ⟨k + 1, by omega, by go_num, by rw [fnv_flat _ _ _ hk', List.take_of_length_le (l := xss[k]) (by have := HI.out.1; omega)]⟩
          case measure => simp [intOf]; omega
    · go_wp2
      go_ret
      exact ⟨by rw [List.take_of_length_le (by have := HL.out; omega)]; rfl, rfl⟩
end Go.Proofs.YtekngjkjgmplpaaGreat

namespace Go.Proofs.YtekngjkjgmplpaaGreat
set_option linter.unusedSimpArgs false
set_option linter.unusedVariables false
open Go Go.RowKit

/-- The bytes of a number, the highest first. -/
def byteAt (h : Int) (j : Nat) : UInt8 := UInt8.ofNat (h / 2 ^ (8 * (7 - j)) % 256).toNat
def be8 (h : Int) : List UInt8 := (List.range 8).map (byteAt h)
theorem B_mod (x : Int) : B (UInt8.ofNat (x % 256).toNat) = .int .u8 (x % 256) := by
  unfold B
  congr 1
  have h1 : 0 ≤ x % 256 := Int.emod_nonneg _ (by omega)
  have h2 : x % 256 < 256 := Int.emod_lt_of_pos _ (by omega)
  simp
  omega
theorem be8_fill (h : Int) (vs : List Value) (hl : vs.length = 8) (hv : ∀ i, i < 8 → vs[i]? = some (B (byteAt h i))) : vs = (be8 h).map B := by
  apply List.ext_getElem?
  intro i
  by_cases hi : i < 8
  · rw [hv i hi]; simp [be8, List.getElem?_range, hi]
  · rw [List.getElem?_eq_none (by omega), List.getElem?_eq_none (by simp [be8]; omega)]
end Go.Proofs.YtekngjkjgmplpaaGreat

namespace Go.Proofs.YtekngjkjgmplpaaGreat
set_option linter.unusedSimpArgs false
set_option linter.unusedVariables false
open Go Go.RowKit
theorem byteAt_lo (h : Int) (i : Nat) (hi : i < 8) : byteAt h (7 - i) = UInt8.ofNat (h / 2 ^ (8 * i) % 256).toNat := by
  unfold byteAt
  rw [show 7 - (7 - i) = i by omega]
theorem div_next (h : Int) (i : Nat) : h / 2 ^ (8 * i) / 256 = h / 2 ^ (8 * (i + 1)) := by
  rw [Int.ediv_ediv_of_nonneg (by exact Int.le_of_lt (Int.pow_pos (by decide))), show 8 * (i + 1) = 8 * i + 8 by omega, Int.pow_add]
  rfl
end Go.Proofs.YtekngjkjgmplpaaGreat

namespace Go.Proofs.YtekngjkjgmplpaaGreat
set_option linter.unusedSimpArgs false
set_option linter.unusedVariables false
open Go Go.RowKit
theorem wrap_u64 (n : Int) : IntKind.u64.wrap n = n % 18446744073709551616 := by
  unfold IntKind.wrap; simp [IntKind.signed, IntKind.bits]
theorem mul_inj (x y : Int) (hx : 0 ≤ x ∧ x < 18446744073709551616) (hy : 0 ≤ y ∧ y < 18446744073709551616) (h : (x * 1099511628211) % 18446744073709551616 = (y * 1099511628211) % 18446744073709551616) : x = y := by
  have e : ∀ z : Int, (((z * 1099511628211) % 18446744073709551616) * 14886173955864302971) % 18446744073709551616 = z % 18446744073709551616 := fun z => by
    rw [Int.mul_emod, Int.emod_emod_of_dvd _ (Int.dvd_refl _), ← Int.mul_emod, Int.mul_assoc, Int.mul_emod]
    rw [show (1099511628211 * 14886173955864302971 : Int) % 18446744073709551616 = 1 by decide +kernel]
    simp
  have h1 := e x
  have h2 := e y
  rw [h] at h1
  rw [h1] at h2
  rwa [Int.emod_eq_of_lt hx.1 hx.2, Int.emod_eq_of_lt hy.1 hy.2] at h2
theorem xor_lt (a b : Nat) (ha : a < 18446744073709551616) (hb : b < 18446744073709551616) : a ^^^ b < 18446744073709551616 := Nat.xor_lt_two_pow (n := 64) ha hb
theorem fnvStep_nat (h : Nat) (c : UInt8) (hh : h < 18446744073709551616) : fnvStep (h : Int) c = (((h ^^^ c.toNat : Nat) : Int) * 1099511628211) % 18446744073709551616 := by
  unfold fnvStep
  rw [wrap_u64, wrap_u64]
  have hc : c.toNat < 256 := c.toNat_lt
  have e1 : ((c.toNat : Int) % 18446744073709551616) = (c.toNat : Int) := Int.emod_eq_of_lt (by omega) (by omega)
  rw [e1, u64_xor_nat _ _ hh (by omega)]
theorem xor_cancel (a b c : Nat) (h : a ^^^ c = b ^^^ c) : a = b := by
  have := congrArg (· ^^^ c) h
  simpa [Nat.xor_assoc] using this
theorem mul_inj_nat (u v : Nat) (hu : u < 18446744073709551616) (hv : v < 18446744073709551616) (h : ((u : Int) * 1099511628211) % 18446744073709551616 = ((v : Int) * 1099511628211) % 18446744073709551616) : u = v := by
  have a1 : (0 : Int) ≤ u ∧ (u : Int) < 18446744073709551616 := by clear h; omega
  have a2 : (0 : Int) ≤ v ∧ (v : Int) < 18446744073709551616 := by clear h; omega
  have := mul_inj (u : Int) (v : Int) a1 a2 h
  clear h
  omega
theorem fnvStep_nat_inj (n1 n2 : Nat) (c1 c2 : UInt8) (l1 : n1 < 18446744073709551616) (l2 : n2 < 18446744073709551616) (h : fnvStep (n1 : Int) c1 = fnvStep (n2 : Int) c2) : n1 ^^^ c1.toNat = n2 ^^^ c2.toNat := by
  rw [fnvStep_nat _ _ l1, fnvStep_nat _ _ l2] at h
  have hc1 : c1.toNat < 18446744073709551616 := by have h9 : c1.toNat < 256 := c1.toNat_lt; omega
  have hc2 : c2.toNat < 18446744073709551616 := by have h9 : c2.toNat < 256 := c2.toNat_lt; omega
  exact mul_inj_nat _ _ (xor_lt _ _ l1 hc1) (xor_lt _ _ l2 hc2) h
theorem fnvStep_inj (h1 h2 : Int) (c1 c2 : UInt8) (b1 : 0 ≤ h1 ∧ h1 < 18446744073709551616) (b2 : 0 ≤ h2 ∧ h2 < 18446744073709551616) (h : fnvStep h1 c1 = fnvStep h2 c2) : h1.toNat ^^^ c1.toNat = h2.toNat ^^^ c2.toNat := by
  refine fnvStep_nat_inj _ _ _ _ (by omega) (by omega) ?_
  rw [Int.toNat_of_nonneg b1.1, Int.toNat_of_nonneg b2.1]
  exact h
theorem fnvStep_bd (h : Int) (c : UInt8) : 0 ≤ fnvStep h c ∧ fnvStep h c < 18446744073709551616 := by
  unfold fnvStep; rw [wrap_u64]
  exact ⟨Int.emod_nonneg _ (by decide), Int.emod_lt_of_pos _ (by decide)⟩
theorem fnv_bd (h : Int) (l : List UInt8) (b : 0 ≤ h ∧ h < 18446744073709551616) : 0 ≤ fnv h l ∧ fnv h l < 18446744073709551616 := by
  unfold fnv
  induction l generalizing h with
  | nil => exact b
  | cons c l ih => exact ih _ (fnvStep_bd h c)
theorem fnv_inj (h1 h2 : Int) (l : List UInt8) (b1 : 0 ≤ h1 ∧ h1 < 18446744073709551616) (b2 : 0 ≤ h2 ∧ h2 < 18446744073709551616) (h : fnv h1 l = fnv h2 l) : h1 = h2 := by
  unfold fnv at h
  induction l generalizing h1 h2 with
  | nil => exact h
  | cons c l ih =>
    have := ih _ _ (fnvStep_bd h1 c) (fnvStep_bd h2 c) h
    have := xor_cancel _ _ _ (fnvStep_inj h1 h2 c c b1 b2 this)
    omega
theorem fnv_one (h : Int) (xs ys : List UInt8) (c d : UInt8) (b : 0 ≤ h ∧ h < 18446744073709551616) (hh : fnv h (xs ++ c :: ys) = fnv h (xs ++ d :: ys)) : c = d := by
  rw [fnv_append, fnv_append] at hh
  have hb := fnv_bd h xs b
  have h1 : fnvStep (fnv h xs) c = fnvStep (fnv h xs) d := fnv_inj _ _ ys (fnvStep_bd _ _) (fnvStep_bd _ _) hh
  have h2 := fnvStep_inj _ _ _ _ hb hb h1
  rw [Nat.xor_comm _ c.toNat, Nat.xor_comm _ d.toNat] at h2
  exact UInt8.toNat.inj (xor_cancel _ _ _ h2)
end Go.Proofs.YtekngjkjgmplpaaGreat

namespace Go.Proofs.YtekngjkjgmplpaaGreat
set_option linter.unusedSimpArgs false
set_option linter.unusedVariables false
open Go Go.RowKit
theorem byteAt_inj2 (h1 h2 : Int) (i : Nat) (hi : i < 8) (h : byteAt h1 (7 - i) = byteAt h2 (7 - i)) : h1 / 2 ^ (8 * i) % 256 = h2 / 2 ^ (8 * i) % 256 := by
  rw [byteAt_lo _ _ hi, byteAt_lo _ _ hi] at h
  have e := congrArg B h
  rw [B_mod, B_mod] at e
  injection e
theorem be8_inj2 (h1 h2 : Int) (b1 : 0 ≤ h1 ∧ h1 < 18446744073709551616) (b2 : 0 ≤ h2 ∧ h2 < 18446744073709551616) (h : be8 h1 = be8 h2) : h1 = h2 := by
  have hb : ∀ j, j < 8 → byteAt h1 j = byteAt h2 j := fun j hj => by
    have := congrArg (·[j]?) h
    simpa [be8, List.getElem?_range, hj] using this
  have key : ∀ n i, i + n = 8 → h1 / 2 ^ (8 * i) = h2 / 2 ^ (8 * i) := by
    intro n
    induction n with
    | zero =>
      intro i hi
      obtain rfl : i = 8 := by omega
      rw [show (2 : Int) ^ (8 * 8) = 18446744073709551616 by decide, Int.ediv_eq_zero_of_lt b1.1 b1.2, Int.ediv_eq_zero_of_lt b2.1 b2.2]
    | succ n ih =>
      intro i hi
      have h3 := ih (i + 1) (by omega)
      have h4 := byteAt_inj2 h1 h2 i (by omega) (hb _ (by omega))
      rw [← div_next, ← div_next] at h3
      generalize h1 / 2 ^ (8 * i) = x at *
      generalize h2 / 2 ^ (8 * i) = y at *
      omega
  have := key 8 0 rfl
  simpa using this
/-- The sum of a number and a body. -/
def sumB (n : Nat) (b : List UInt8) : List UInt8 := be8 (fnv fnv0 (numB n ++ b))
theorem sumB_len (n : Nat) (b : List UInt8) : (sumB n b).length = 8 := by simp [sumB, be8]
/-- The frame of a number and a body; and with any check at its end. -/
def frameC (n : Nat) (b c : List UInt8) : List UInt8 := numB n ++ ((numB b.length ++ b) ++ (numB c.length ++ c))
def frameB (n : Nat) (b : List UInt8) : List UInt8 := frameC n b (sumB n b)
theorem sumB_one (n : Nat) (xs ys : List UInt8) (c d : UInt8) (h : sumB n (xs ++ c :: ys) = sumB n (xs ++ d :: ys)) : c = d := by
  have b0 : (0 : Int) ≤ fnv0 ∧ fnv0 < 18446744073709551616 := by unfold fnv0; decide
  unfold sumB at h
  have h1 := be8_inj2 _ _ (fnv_bd _ _ b0) (fnv_bd _ _ b0) h
  rw [← List.append_assoc, ← List.append_assoc] at h1
  exact fnv_one _ _ _ _ _ b0 h1
theorem sumB_set (n j : Nat) (b : List UInt8) (c : UInt8) (hj : j < b.length) (hc : b[j]? ≠ some c) : sumB n (b.set j c) ≠ sumB n b := fun h => by
  have e1 : b = b.take j ++ b[j] :: b.drop (j + 1) := by rw [← List.drop_eq_getElem_cons hj, List.take_append_drop]
  have e2 : b.set j c = b.take j ++ c :: b.drop (j + 1) := by rw [List.set_eq_take_append_cons_drop, if_pos hj]
  rw [e2] at h
  have h2 : sumB n (b.take j ++ c :: b.drop (j + 1)) = sumB n (b.take j ++ b[j] :: b.drop (j + 1)) := by rw [h, ← e1]
  have := sumB_one _ _ _ _ _ h2
  exact hc (by rw [List.getElem?_eq_getElem hj, this])
/-- The length, and where the body and the check stand. -/
theorem frameC_len (n : Nat) (b c : List UInt8) (hc : c.length = 8) : (frameC n b c).length = (numB n).length + (numB b.length).length + b.length + 9 := by
  unfold frameC
  have : (numB c.length).length = 1 := numB_1 (by omega)
  simp only [List.length_append]
  omega
theorem frameC_body (n i : Nat) (b c : List UInt8) (x : UInt8) (hc : c.length = 8) (hi : i < b.length) : (frameC n b c).set ((frameC n b c).length - 9 - b.length + i) x = frameC n (b.set i x) c := by
  rw [frameC_len n b c hc]
  have e : (numB n).length + (numB b.length).length + b.length + 9 - 9 - b.length + i = (numB n).length + ((numB b.length).length + i) := by omega
  rw [e]
  unfold frameC
  rw [List.set_append_right _ _ (by omega), Nat.add_sub_cancel_left, List.set_append_left _ _ (by rw [List.length_append]; omega), List.set_append_right _ _ (by omega), Nat.add_sub_cancel_left, List.length_set]
theorem frameC_check (n i : Nat) (b c : List UInt8) (x : UInt8) (hc : c.length = 8) (hi : i < 8) : (frameC n b c).set ((frameC n b c).length - 8 + i) x = frameC n b (c.set i x) := by
  rw [frameC_len n b c hc]
  have n1 : (numB c.length).length = 1 := numB_1 (by omega)
  have e : (numB n).length + (numB b.length).length + b.length + 9 - 8 + i = (numB n).length + (((numB b.length ++ b).length) + ((numB c.length).length + i)) := by rw [n1, List.length_append]; omega
  rw [e]
  unfold frameC
  rw [List.set_append_right _ _ (by omega), Nat.add_sub_cancel_left, List.set_append_right _ _ (by omega), Nat.add_sub_cancel_left, List.set_append_right _ _ (by omega), Nat.add_sub_cancel_left, List.length_set]
end Go.Proofs.YtekngjkjgmplpaaGreat

namespace Go.Proofs.YtekngjkjgmplpaaGreat
set_option linter.unusedSimpArgs false
set_option linter.unusedVariables false
open Go Go.RowKit
set_option maxRecDepth 100000 in
set_option maxHeartbeats 1000000 in
theorem frNumber_any (n : Nat) (W : World) (hn : n < 9223372036854775808) :
    Calls Tryz.prog 76 #[.int .i64 (n : Int)] W fun e w' => ∃ a c, e = .returned (.slice a (numB n).length c) ∧ FreshI W w' (rowI 5 1 (.slice a (numB n).length c) (numB n).length ((numB n).map B)) := by
  have st := Own.startOld W
  have hl : (numB n).length ≤ 10 := numF_len 10 n
  obtain ⟨u, hu⟩ : ∃ u, numB n = u := ⟨_, rfl⟩
  rw [hu] at hl ⊢
  have HU := Lib.hid hu
  clear hu
  (try simp only [nsl, Value.cells, unB] at st)
  (try clear hc); have hc := st.facts; (try simp only [nfl, nft, Nat.reduceAdd] at hc)
  go_enter Tryz.func76, Tryz.ntmps76
  go_wp2_with ((((with_reducible refine wl_box ?_ (fun K hK => ?_)); rfl; refine owp_box (o := ⟨some 5, _, _, _, _, _⟩) rfl st ?_; apply Exists.intro; refine ⟨?_, ?_⟩; (focus (go_simp; try rfl)); (clear st; intro b5 w hb st; clear hb))); (try simp only [nsl, Value.cells, unB] at st); (try clear hc); have hc := st.facts; (try simp only [nfl, nft, Nat.reduceAdd] at hc))
  replace st := st.newPen (i := 1) get1
  (try simp only [nsl, Value.cells, unB] at st)
  (try clear hc); have hc := st.facts; (try simp only [nfl, nft, Nat.reduceAdd] at hc)
  obtain ⟨fr', al', st', back⟩ := st.sub [1] (by decide) (by simp)
  (try simp only [nsl, Value.cells, unB] at st')
  refine (penNumber_c st' n hn (by simp)).mono ?_
  clear st'
  rintro en w ⟨rfl, st'⟩
  replace st := back _ _ (by simp) st'
  clear back st'
  (try simp only [nsl, Value.cells, unB] at st)
  (try clear hc); have hc := st.facts; (try simp only [nfl, nft, Nat.reduceAdd] at hc)
  (try simp only [List.nil_append] at st)
  rw [HU.out] at st
  go_wp2_with ((((with_reducible refine wl_box ?_ (fun K hK => ?_)); rfl; refine owp_box (o := ⟨some 5, _, _, _, _, _⟩) rfl st ?_; apply Exists.intro; refine ⟨?_, ?_⟩; (focus (go_simp; try rfl)); (clear st; intro b5 w hb st; clear hb))); (try simp only [nsl, Value.cells, unB] at st); (try clear hc); have hc := st.facts; (try simp only [nfl, nft, Nat.reduceAdd] at hc))
  obtain ⟨fr', al', st', back⟩ := st.sub [1] (by decide) (by simp)
  (try simp only [nsl, Value.cells, unB] at st')
  refine (penBytesRow_c st' (by omega)).mono ?_
  clear st'
  rintro en w ⟨pa, pc, rfl, hpc, st'⟩
  replace st := back _ _ (by simp) st'
  clear back st'
  (try simp only [nsl, Value.cells, unB] at st)
  (try clear hc); have hc := st.facts; (try simp only [nfl, nft, Nat.reduceAdd] at hc)
  go_wp2_with ((((with_reducible refine wl_box ?_ (fun K hK => ?_)); rfl; refine owp_box (o := ⟨some 5, _, _, _, _, _⟩) rfl st ?_; apply Exists.intro; refine ⟨?_, ?_⟩; (focus (go_simp; try rfl)); (clear st; intro b5 w hb st; clear hb))); (try simp only [nsl, Value.cells, unB] at st); (try clear hc); have hc := st.facts; (try simp only [nfl, nft, Nat.reduceAdd] at hc))
  go_ret
  exact ⟨_, _, rfl, st.toFresh (i := 2) get2⟩
set_option maxRecDepth 100000 in
set_option maxHeartbeats 400000 in
theorem frSum_f (n : Nat) (a : Option Addr) (m c : Nat) (b : List UInt8) (w : World) (hn : n < 9223372036854775808) (hc : m ≤ c ∧ c ≤ maxLen) (h : By w a m b) :
    Calls Tryz.prog 43 #[.int .i64 (n : Int), .slice a m c] w fun e w' => ∃ bb, e = .returned (.slice (some ⟨bb, 0, none⟩) 8 8) ∧ w.heap.size ≤ bb ∧ Ext w w' ∧ Blk w' bb ((sumB n b).map B) := by
  have H := Lib.hid h; clear h
  have HC := Lib.hid hc; clear hc
  have HNB := Lib.hid (fun W => frNumber_any n W hn)
  clear hn
  go_enter Tryz.func43, Tryz.ntmps43
  go_wp2_with fail
  refine (HNB.out _).mono ?_
  rintro e w1 ⟨pa, pc, rfl, hfr⟩
  have HX1 := Lib.hid hfr.ext
  have HP := Lib.hid hfr.by
  clear hfr HNB
  obtain ⟨u, hu⟩ : ∃ u, numB n = u := ⟨_, rfl⟩
  rw [hu] at HP ⊢
  have HU := Lib.hid hu; clear hu
  go_wp2_with fail
  have hx2 := Ext.new w1 (Obj.cells #[Value.slice pa u.length pc, Value.slice a m c] 26)
  refine (sum_any _ _ _ [u, b] _ (by simp [maxLen]) (Bys.lit _ [_, _] _ _ _ _ _ (by simp) rfl ⟨(HP.out.2.ext hx2).isSl HP.out.1.1 HP.out.1.2, ((H.out.ext HX1.out).ext hx2).isSl HC.out.1 HC.out.2, trivial⟩)).mono ?_
  rintro e w' ⟨rfl, rfl⟩
  have HX := Lib.hid (HX1.out.trans hx2); clear hx2
  obtain ⟨h, hh⟩ : ∃ h, fnv fnv0 [u, b].flatten = h := ⟨_, rfl⟩
  rw [hh]
  have HH := Lib.hid hh; clear hh
  have hmk : ∀ w, (Instr.makeSlice 26 (.int .i64 8) (.int .i64 8)).run Tryz.prog w = .ok (.slice (some ⟨w.heap.size, 0, none⟩) 8 8) (w.alloc (.cells [.int .u8 0, .int .u8 0, .int .u8 0, .int .u8 0, .int .u8 0, .int .u8 0, .int .u8 0, .int .u8 0].toArray 5)) := fun _ => by kernel_rfl
  go_wp2_with fail
  go_loopw [7, 16] (fun _ i wr => ∃ j : Nat, j ≤ 8 ∧ i = .int .i64 j ∧ Ext w wr ∧ ∃ vs, vs.length = 8 ∧ (∀ i, i < j → vs[i]? = some (B (byteAt h i))) ∧ Blk wr (w1.heap.size + 1) vs) (fun _ i _ => 8 - (intOf i).toNat)
  case atStart =>
    exact ⟨0, by omega, rfl, HX.out.alloc _, _, rfl, fun i hi => by omega, Blk.lit _ [_, _, _, _, _, _, _, _] _ _ (by simp)⟩
  case round =>
    obtain ⟨j, hj, rfl, hext, vs, hvs, hvv, hblk⟩ := hrel
    have HV := Lib.hid hvs; clear hvs hmk
    have HVV := Lib.hid hvv; clear hvv
    have HB := Lib.hid hblk
    have HE := Lib.hid hext; clear hext
    by_cases hlt : j < 8
    · obtain ⟨x, hc1⟩ : ∃ x, wr.cell? ⟨w1.heap.size + 1, j, none⟩ = some x := ⟨_, (hblk.cell j).trans (List.getElem?_eq_getElem (by have := HV.out; omega))⟩
      have hc2 : wr.frozen? ⟨w1.heap.size + 1, j, none⟩ = false := hblk.free j
      clear hblk
      go_wp2
      go_roundw
      case rel =>
        refine ⟨j + 1, by omega, by go_num, HE.out.setCell (by show _ ≤ w1.heap.size + 1; have := HX1.out.le; omega) _, vs.set j _, by simp [HV.out], fun i hi => ?_, HB.out.set j _⟩
        by_cases hij : i = j
        · subst hij
          rw [List.getElem?_set_self (by have := HV.out; omega)]
          unfold byteAt
          rw [B_mod]
        · rw [List.getElem?_set_ne (Ne.symm hij)]
          exact HVV.out i (by omega)
      case measure => simp [intOf]; omega
    · clear hblk
      go_wp2
      go_ret
      refine ⟨_, rfl, by have := HX1.out.le; omega, HE.out, ?_⟩
      have h8 := be8_fill h vs HV.out (fun i hi => HVV.out i (by omega))
      have hb8 := HB.out
      rw [h8] at hb8
      have e : be8 h = sumB n b := by
        rw [← HH.out, ← HU.out]
        unfold sumB
        simp
      rw [e] at hb8
      exact hb8
theorem Own.addBlk2 {fr al : Nat → Prop} {w0 w w' : World} {L : List It} (st : Own fr al w0 L w) (hx : Ext w w') {b : Nat} {vs : List Value} (h : Blk w' b vs) (hb : w.heap.size ≤ b) : Own fr al w0 (L ++ [blkI b vs]) w' :=
  st.new hx (I := blkI b vs) (e' := fun k => k = b) (s' := fun _ => False) ⟨rfl, h⟩ (fun k hk => by subst hk; exact ⟨h.lt, hb⟩) (fun _ q => q.elim) (fun _ _ q => q)
theorem Own.blkToBy2 {fr al : Nat → Prop} {w0 w : World} {L : List It} (st : Own fr al w0 L w) {i b n : Nat} {xs : List UInt8} (hi : L[i]? = some (blkI b (xs.map B))) (hn : xs.length = n) : Own fr al w0 (L.set i (byI (some ⟨b, 0, none⟩) n xs)) w :=
  st.conv hi fun e s ⟨h1, h2⟩ h3 => ⟨fun _ => False, fun k => k = b, ⟨by subst hn; exact h2.by, fun _ ad had => by cases had; rfl⟩, fun _ q => q.elim, fun k hk => .inl (hk ▸ h1), fun _ q => q.elim⟩
end Go.Proofs.YtekngjkjgmplpaaGreat

namespace Go.Proofs.YtekngjkjgmplpaaGreat
set_option linter.unusedSimpArgs false
set_option linter.unusedVariables false
open Go Go.RowKit
set_option maxRecDepth 100000 in
set_option maxHeartbeats 1000000 in
theorem frSeal_no (v : Int) (a : Option Addr) (m c : Nat) (W : World) (h : v < 1 ∨ 1099511627776 < v ∨ 2048 < m) :
    Calls Tryz.prog 12 #[.int .i64 v, .slice a m c] W fun e w' => e = .returned (.slice none 0 0) ∧ Ext W w' := by
  have st := Own.startOld W
  (try simp only [nsl, Value.cells, unB] at st)
  (try clear hc); have hc := st.facts; (try simp only [nfl, nft, Nat.reduceAdd] at hc)
  by_cases h1 : v < 1
  · skip
    go_enter Tryz.func12, Tryz.ntmps12
    go_wp2_with fail
    go_ret
    exact ⟨rfl, st.ext0⟩
  by_cases h2 : 1099511627776 < v
  · skip
    go_enter Tryz.func12, Tryz.ntmps12
    go_wp2_with fail
    go_ret
    exact ⟨rfl, st.ext0⟩
  have h3 : 2048 < m := by omega
  clear h
  go_enter Tryz.func12, Tryz.ntmps12
  go_wp2_with fail
  go_ret
  exact ⟨rfl, st.ext0⟩
set_option maxRecDepth 100000 in
set_option maxHeartbeats 1000000 in
theorem frSeal_yes (n : Nat) (a : Option Addr) (m c : Nat) (b : List UInt8) (W : World) (h : By W a m b) (hc : m ≤ c ∧ c ≤ maxLen) (h1 : 1 ≤ n) (h2 : n ≤ 1099511627776) (hm : m ≤ 2048) :
    Calls Tryz.prog 12 #[.int .i64 (n : Int), .slice a m c] W fun e w' => ∃ a' c', e = .returned (.slice a' (frameB n b).length c') ∧ FreshI W w' (rowI 5 1 (.slice a' (frameB n b).length c') (frameB n b).length ((frameB n b).map B)) := by
  have HC := Lib.hid hc
  have HM : Hid (m = b.length) := Lib.hid h.1
  have HSL := Lib.hid (sumB_len n b)
  have st := (Own.startOld W).addOldBy (i := 0) rfl h
  have hl : (numB n).length ≤ 10 := numF_len 10 n
  have hl2 : (numB m).length ≤ 10 := numF_len 10 m
  clear h hc
  have HF : Hid (frameB n b = numB n ++ (numB m ++ b) ++ (numB 8 ++ sumB n b)) := Lib.hid (by unfold frameB frameC; rw [HSL.out, HM.out]; simp)
  generalize hS : sumB n b = s at *
  obtain ⟨F, hF⟩ : ∃ F, frameB n b = F := ⟨_, rfl⟩
  rw [hF] at HF ⊢
  clear hF
  have HS := Lib.hid hS
  clear hS
  (try simp only [nsl, Value.cells, unB] at st)
  (try clear hc); have hc := st.facts; (try simp only [nfl, nft, Nat.reduceAdd] at hc)
  go_enter Tryz.func12, Tryz.ntmps12
  go_wp2_with ((((with_reducible refine wl_box ?_ (fun K hK => ?_)); rfl; refine owp_box (o := ⟨some 18, _, _, _, _, _⟩) rfl st ?_; apply Exists.intro; refine ⟨?_, ?_⟩; (focus (go_simp; try rfl)); (clear st; intro b18 w hb st; clear hb))); (try simp only [nsl, Value.cells, unB] at st); (try clear hc); have hc := st.facts; (try simp only [nfl, nft, Nat.reduceAdd] at hc))
  replace st := st.newPen (i := 2) get2
  (try simp only [nsl, Value.cells, unB] at st)
  (try clear hc); have hc := st.facts; (try simp only [nfl, nft, Nat.reduceAdd] at hc)
  obtain ⟨fr', al', st', back⟩ := st.sub [2] (by decide) (by simp)
  (try simp only [nsl, Value.cells, unB] at st')
  refine (penNumber_c st' n (by omega) (by simp)).mono ?_
  clear st'
  rintro en w ⟨rfl, st'⟩
  replace st := back _ _ (by simp) st'
  clear back st'
  (try simp only [nsl, Value.cells, unB] at st)
  (try clear hc); have hc := st.facts; (try simp only [nfl, nft, Nat.reduceAdd] at hc)
  (try simp only [List.nil_append] at st)
  go_wp2_with fail
  obtain ⟨fr', al', st', back⟩ := st.sub [2, 1] (by decide) (by simp)
  (try simp only [nsl, Value.cells, unB] at st')
  refine (penText_c st' (by omega) (by omega)).mono ?_
  clear st'
  rintro en w ⟨rfl, st'⟩
  replace st := back _ _ (by simp) st'
  clear back st'
  (try simp only [nsl, Value.cells, unB] at st)
  (try clear hc); have hc := st.facts; (try simp only [nfl, nft, Nat.reduceAdd] at hc)
  go_wp2_with fail
  refine (frSum_f n a m c b _ (by omega) HC.out (st.by (i := 1) get1)).mono ?_
  rintro en w ⟨bb, rfl, hbb, hx, hblk⟩
  rw [HS.out] at hblk
  replace st := (st.addBlk2 hx hblk hbb).blkToBy2 (i := 3) (n := 8) (xs := s) get3 HSL.out
  clear hx hblk hbb
  (try simp only [nsl, Value.cells, unB] at st)
  (try clear hc); have hc := st.facts; (try simp only [nfl, nft, Nat.reduceAdd] at hc)
  go_wp2_with fail
  have hl3 : (numB n ++ (numB m ++ b)).length ≤ 5000 := by simp only [List.length_append]; have := HM.out; omega
  obtain ⟨fr', al', st', back⟩ := st.sub [2, 3] (by decide) (by simp)
  (try simp only [nsl, Value.cells, unB] at st')
  refine (penText_c st' (by decide) (by omega)).mono ?_
  clear st'
  rintro en w ⟨rfl, st'⟩
  replace st := back _ _ (by simp) st'
  clear back st'
  (try simp only [nsl, Value.cells, unB] at st)
  (try clear hc); have hc := st.facts; (try simp only [nfl, nft, Nat.reduceAdd] at hc)
  rw [← HF.out] at st
  have hl4 : F.length ≤ 6000 := by rw [HF.out]; simp only [List.length_append] at hl3 ⊢; have := HSL.out; have : (numB 8).length ≤ 10 := numF_len 10 8; omega
  clear hl3
  go_wp2_with fail
  obtain ⟨fr', al', st', back⟩ := st.sub [2] (by decide) (by simp)
  (try simp only [nsl, Value.cells, unB] at st')
  refine (penBytesRow_c st' (by omega)).mono ?_
  clear st'
  rintro en w ⟨pa, pc, rfl, hpc, st'⟩
  replace st := back _ _ (by simp) st'
  clear back st'
  (try simp only [nsl, Value.cells, unB] at st)
  (try clear hc); have hc := st.facts; (try simp only [nfl, nft, Nat.reduceAdd] at hc)
  go_wp2_with fail
  go_ret
  exact ⟨_, _, rfl, st.toFresh (i := 4) get4⟩
set_option maxRecDepth 100000 in
set_option maxHeartbeats 2000000 in
theorem frMake_no (v : Int) (x : MsgT) (W : World) (hx : MgOk W x) (lx : MgL x) (h : mgR x = false ∨ v < 1 ∨ 1099511627776 < v) :
    Calls Tryz.prog 11 #[.int .i64 v, mgV x] W fun e w' => e = .returned (.slice none 0 0) ∧ Ext W w' := by
  have HMR := Lib.hid (fun W' (h : Ext W W') => msgRight_any x W' (hx.ext h) lx)
  have HBY := Lib.hid (fun W' (h : Ext W W') => msgBytes_any x W' (hx.ext h) lx)
  have HNO : Hid (mgR x = true → ∀ a m c W, Calls Tryz.prog 12 #[.int .i64 v, .slice a m c] W fun e w' => e = .returned (.slice none 0 0) ∧ Ext W w') := Lib.hid (fun q a m c W => frSeal_no v a m c W (by rcases h with h | h; (rw [q] at h; cases h); omega))
  clear lx hx h
  have st := Own.startOld W
  generalize mgR x = mr at *
  generalize mgBy x = u at *
  obtain ⟨k, p, e, nm, wa, wn, wc, ws, sa, sn, sc, ss⟩ := x
  unfold mgV S at *
  (try simp only [nsl, Value.cells, unB] at st)
  (try clear hc); have hc := st.facts; (try simp only [nfl, nft, Nat.reduceAdd] at hc)
  cases mr with
  | false =>
    go_enter Tryz.func11, Tryz.ntmps11
    go_wp2_with ((((with_reducible refine wl_box ?_ (fun K hK => ?_)); rfl; refine owp_box (o := ⟨some 3, _, _, _, _, _⟩) rfl st ?_; apply Exists.intro; refine ⟨?_, ?_⟩; (focus (go_simp; try rfl)); (clear st; intro b3 w hb st; clear hb))); (try simp only [nsl, Value.cells, unB] at st); (try clear hc); have hc := st.facts; (try simp only [nfl, nft, Nat.reduceAdd] at hc))
    refine (HMR.out _ st.ext0).mono ?_
    rintro en w ⟨rfl, hx⟩
    replace st := st.ext hx
    clear hx
    (try clear hc); have hc := st.facts; (try simp only [nfl, nft, Nat.reduceAdd] at hc)
    go_wp2_with fail
    go_ret
    exact ⟨rfl, st.ext0⟩
  | true =>
    go_enter Tryz.func11, Tryz.ntmps11
    go_wp2_with ((((with_reducible refine wl_box ?_ (fun K hK => ?_)); rfl; refine owp_box (o := ⟨some 3, _, _, _, _, _⟩) rfl st ?_; apply Exists.intro; refine ⟨?_, ?_⟩; (focus (go_simp; try rfl)); (clear st; intro b3 w hb st; clear hb))); (try simp only [nsl, Value.cells, unB] at st); (try clear hc); have hc := st.facts; (try simp only [nfl, nft, Nat.reduceAdd] at hc))
    refine (HMR.out _ st.ext0).mono ?_
    rintro en w ⟨rfl, hx⟩
    replace st := st.ext hx
    clear hx
    (try clear hc); have hc := st.facts; (try simp only [nfl, nft, Nat.reduceAdd] at hc)
    go_wp2_with fail
    refine (HBY.out _ st.ext0).mono ?_
    rintro en w ⟨qa, qn, qc, rfl, hfr⟩
    replace st := st.ext hfr.ext
    clear hfr
    (try simp only [nsl, Value.cells, unB] at st)
    (try clear hc); have hc := st.facts; (try simp only [nfl, nft, Nat.reduceAdd] at hc)
    go_wp2_with fail
    refine (HNO.out (by trivial) _ _ _ _).mono ?_
    rintro en w ⟨rfl, hx⟩
    replace st := st.ext hx
    clear hx
    (try clear hc); have hc := st.facts; (try simp only [nfl, nft, Nat.reduceAdd] at hc)
    go_wp2_with fail
    go_ret
    exact ⟨rfl, st.ext0⟩
set_option maxRecDepth 100000 in
set_option maxHeartbeats 2000000 in
theorem frMake_yes (n : Nat) (x : MsgT) (W : World) (hx : MgOk W x) (lx : MgL x) (hr : mgR x = true) (h1 : 1 ≤ n) (h2 : n ≤ 1099511627776) :
    Calls Tryz.prog 11 #[.int .i64 (n : Int), mgV x] W fun e w' => ∃ a' c', e = .returned (.slice a' (frameB n (mgB x)).length c') ∧ FreshI W w' (rowI 5 1 (.slice a' (frameB n (mgB x)).length c') (frameB n (mgB x)).length ((frameB n (mgB x)).map B)) := by
  have HMR := Lib.hid (fun W' (h : Ext W W') => msgRight_any x W' (hx.ext h) lx)
  have HBY := Lib.hid (fun W' (h : Ext W W') => msgBytes_any x W' (hx.ext h) lx)
  have HUL := Lib.hid (mgB_2048 hx hr)
  rw [hr] at HMR
  rw [show mgBy x = mgB x by unfold mgBy; rw [if_pos hr]] at HBY
  generalize mgB x = u at *
  have HSY := Lib.hid (fun a c W' (h : By W' a u.length u) hc => frSeal_yes n a u.length c u W' h hc h1 h2 HUL.out)
  generalize frameB n u = F at *
  clear lx hx hr
  have st := Own.startOld W
  obtain ⟨k, p, e, nm, wa, wn, wc, ws, sa, sn, sc, ss⟩ := x
  unfold mgV S at *
  (try simp only [nsl, Value.cells, unB] at st)
  (try clear hc); have hc := st.facts; (try simp only [nfl, nft, Nat.reduceAdd] at hc)
  go_enter Tryz.func11, Tryz.ntmps11
  go_wp2_with ((((with_reducible refine wl_box ?_ (fun K hK => ?_)); rfl; refine owp_box (o := ⟨some 3, _, _, _, _, _⟩) rfl st ?_; apply Exists.intro; refine ⟨?_, ?_⟩; (focus (go_simp; try rfl)); (clear st; intro b3 w hb st; clear hb))); (try simp only [nsl, Value.cells, unB] at st); (try clear hc); have hc := st.facts; (try simp only [nfl, nft, Nat.reduceAdd] at hc))
  refine (HMR.out _ st.ext0).mono ?_
  rintro en w ⟨rfl, hx⟩
  replace st := st.ext hx
  clear hx
  (try clear hc); have hc := st.facts; (try simp only [nfl, nft, Nat.reduceAdd] at hc)
  go_wp2_with fail
  refine (HBY.out _ st.ext0).mono ?_
  rintro en w ⟨qa, qn, qc, rfl, hfr⟩
  have hqn : qn = u.length := (hfr.by).2.1
  subst hqn
  have HQ := Lib.hid hfr.by
  replace st := st.ext hfr.ext
  clear hfr
  (try simp only [nsl, Value.cells, unB] at st)
  (try clear hc); have hc := st.facts; (try simp only [nfl, nft, Nat.reduceAdd] at hc)
  go_wp2_with fail
  refine (HSY.out _ _ _ HQ.out.2 HQ.out.1).mono ?_
  rintro en w' ⟨ra, rc, rfl, hfr⟩
  replace st := st.fresh hfr
  clear hfr
  (try simp only [nsl, Value.cells, unB] at st)
  (try clear hc); have hc := st.facts; (try simp only [nfl, nft, Nat.reduceAdd] at hc)
  go_wp2_with fail
  go_ret
  exact ⟨_, _, rfl, st.toFresh (i := 2) get2⟩
end Go.Proofs.YtekngjkjgmplpaaGreat

namespace Go.Proofs.YtekngjkjgmplpaaGreat
set_option linter.unusedSimpArgs false
set_option linter.unusedVariables false
open Go Go.RowKit
section
variable {P : Program} {fn : Func} {R : Ending → World → Prop} {a : Act} {w : World}
theorem run_loadVar_one (w : World) (ty : TypeId) (x : Addr) (v : Value) (d : TypeDesc) (hu : P.underlying ty = some d) (hd : (match d with | .struct _ | .array _ _ => true | _ => false) = false) (hc : w.cell? x = some v) : (loadVar ty x).run P w = .ok v w := by
  have hagg : (isAgg ty).run P w = .ok false w := by
    unfold isAgg
    rw [Sem.run_bind, run_underlying hu w]
    cases d <;> simp_all
  simp [loadVar, Sem.run_bind, hagg, hc]
theorem bodyPost_cells3 {p1 p2 p3 u b1 b2 b3 : Nat} {t1 t2 t3 : TypeId} {d1 d2 d3 : TypeDesc} {v1 v2 v3 : Value} (h : fn.results = #[.cell p1 t1, .cell p2 t2, .cell p3 t3, .tmp u])
    (hp1 : a.tmps.getD p1 undef = .pointer (some ⟨b1, 0, none⟩)) (hp2 : a.tmps.getD p2 undef = .pointer (some ⟨b2, 0, none⟩)) (hp3 : a.tmps.getD p3 undef = .pointer (some ⟨b3, 0, none⟩))
    (hb1 : w.cell? ⟨b1, 0, none⟩ = some v1) (hb2 : w.cell? ⟨b2, 0, none⟩ = some v2) (hb3 : w.cell? ⟨b3, 0, none⟩ = some v3)
    (hu1 : P.underlying t1 = some d1) (hu2 : P.underlying t2 = some d2) (hu3 : P.underlying t3 = some d3)
    (hd1 : (match d1 with | .struct _ | .array _ _ => true | _ => false) = false) (hd2 : (match d2 with | .struct _ | .array _ _ => true | _ => false) = false) (hd3 : (match d3 with | .struct _ | .array _ _ => true | _ => false) = false)
    (hdef : a.defers = []) (hR : R (.returned (.tuple #[v1, v2, v3, a.tmps.getD u undef])) w) : bodyPost P fn R .ret a w := by
  have h1 : a.tmps[p1]?.getD undef = .pointer (some ⟨b1, 0, none⟩) := by simpa using hp1
  have h2 : a.tmps[p2]?.getD undef = .pointer (some ⟨b2, 0, none⟩) := by simpa using hp2
  have h3 : a.tmps[p3]?.getD undef = .pointer (some ⟨b3, 0, none⟩) := by simpa using hp3
  refine bodyPost_ret (v := .tuple #[v1, v2, v3, a.tmps.getD u undef]) ?_ hdef hR
  simp only [results, h]
  simp [Sem.run_bind, Result.andThen, h1, h2, h3, asAddr, run_loadVar_one w t1 _ v1 d1 hu1 hd1 hb1, run_loadVar_one w t2 _ v2 d2 hu2 hd2 hb2, run_loadVar_one w t3 _ v3 d3 hu3 hd3 hb3]
theorem bodyPost_tct {p u1 u2 g : Nat} {ty : TypeId} {d : TypeDesc} {vs : List Value} (h : fn.results = #[.tmp u1, .cell p ty, .tmp u2]) (hp : a.tmps.getD p undef = .pointer (some ⟨g, 0, none⟩)) (hb : Blk w g vs) (hu : P.underlying ty = some d) (hd : (match d with | .struct _ | .array _ _ => true | _ => false) = true) (hi : (P.info? ty).map (·.size) = some vs.length)
    (hdef : a.defers = []) (hR : R (.returned (.tuple #[a.tmps.getD u1 undef, .agg vs.toArray, a.tmps.getD u2 undef])) w) : bodyPost P fn R .ret a w := by
  have hp' : a.tmps[p]?.getD undef = .pointer (some ⟨g, 0, none⟩) := by simpa using hp
  obtain ⟨t, hb⟩ := hb
  refine bodyPost_ret (v := .tuple #[a.tmps.getD u1 undef, .agg vs.toArray, a.tmps.getD u2 undef]) ?_ hdef hR
  simp only [results, h]
  simp [Sem.run_bind, Result.andThen, hp', asAddr, run_loadVar_row w g t ty vs.toArray (0, 0) d hb hu hd (by simpa using hi)]
end
end Go.Proofs.YtekngjkjgmplpaaGreat
