/- The bytes of any credential, as a slice of one's own. -/
import Derived.Test.YtekngjkjgmplpaaSlRoleE
import Derived.Deep.Onto
import Derived.Test.YtekngjkjgmplpaaMsgE
import Derived.Test.YtekngjkjgmplpaaCredA
namespace Go.Proofs.Ytekngjkjgmplpaa
set_option linter.unusedSimpArgs false
set_option linter.unusedVariables false
open Go Go.RowKit
theorem penBytesRow_c {fr al : Nat → Prop} {w : World} {p : Nat} {xs : List UInt8} (st : Own fr al w [penI p xs] w) (hl : xs.length ≤ 100000000000000) :
    Calls Try.prog 45 #[.pointer (some ⟨p, 0, none⟩)] w fun e w' => ∃ a c, e = .returned (.slice a xs.length c) ∧ (xs.length ≤ c ∧ c ≤ maxLen) ∧ Own fr al w [penI p xs, rowI 5 1 (.slice a xs.length c) xs.length (xs.map B)] w' := by
  obtain ⟨g, hp⟩ := st.pen (i := 0) rfl
  refine (penBytes_own p g xs w hp hl).mono ?_
  rintro e w' ⟨v, rfl, h, hx⟩
  obtain ⟨a, m, c, rfl, h1, h2, h3⟩ := own_by h
  obtain rfl : m = xs.length := h3.1
  refine ⟨a, c, rfl, ⟨h1, h2⟩, ?_⟩
  have := st.new (I := rowI 5 1 (.slice a xs.length c) xs.length (xs.map B)) hx (e' := fun b => (Value.slice a xs.length c).ownBlock = some b) (s' := fun _ => False) ⟨h.mono (Nat.zero_le _), fun k hk => hk⟩ (fun b hb => ⟨(h.lt b hb).2, (h.lt b hb).1⟩) (fun _ q => q.elim) (fun _ _ q => q)
  simpa using this
theorem FreshI.by {w w' : World} {a : Option Addr} {n c : Nat} {xs : List UInt8} (h : FreshI w w' (rowI 5 1 (.slice a n c) n (xs.map B))) : (n ≤ c ∧ c ≤ maxLen) ∧ By w' a n xs := by
  obtain ⟨_, e, ⟨h1, _⟩, _⟩ := h
  obtain ⟨a', m, c', hv, h2, h3, h4⟩ := own_by h1
  injection hv with q1 q2 q3
  subst q1 q2 q3
  exact ⟨⟨h2, h3⟩, h4⟩
theorem Own.rowBy {fr al : Nat → Prop} {w0 w : World} {L : List It} (st : Own fr al w0 L w) {i : Nat} {a : Option Addr} {n c : Nat} {xs : List UInt8} (hi : L[i]? = some (rowI 5 1 (.slice a n c) n (xs.map B))) : (n ≤ c ∧ c ≤ maxLen) ∧ By w a n xs := by
  obtain ⟨a', m, c', hv, h2, h3, h4⟩ := own_by (st.row hi)
  injection hv with q1 q2 q3
  subst q1 q2 q3
  exact ⟨⟨h2, h3⟩, h4⟩
theorem Own.rowFl3 {α : Type} [Flt α] {fr al : Nat → Prop} {w0 w : World} {L : List It} (st : Own fr al w0 L w) {i n c : Nat} {a : Option Addr} {E : TypeId} {xs : List α} (hi : L[i]? = some (rowI E (Flt.k α) (.slice a n c) n (cellsL xs))) : (n ≤ c ∧ c ≤ maxLen) ∧ Fl w a n xs := by
  obtain ⟨a1, c1, hv, hc1, hfl⟩ := st.rowFl hi
  injection hv with hv1 _ hv3
  subst hv1 hv3
  exact ⟨hc1, hfl⟩
set_option maxRecDepth 100000 in
set_option maxHeartbeats 1000000 in
theorem credBytes_f (x : CredT) (W : World) (hl : CredL 100000 x) :
    Calls Try.prog 119 #[cV x] W fun e w' => ∃ a n c, e = .returned (.slice a n c) ∧ FreshI W w' (rowI 5 1 (.slice a n c) n ((credBy x).map B)) := by
  have HR := Lib.hid (fun W => credRight_any x W (by unfold CredL at hl; omega))
  have HE := Lib.hid (show credBy x = if credR x = true then credB x else [] from rfl)
  generalize credBy x = r at *
  cases hr : credR x with
  | false =>
    have H := Lib.hid hr
    obtain ⟨k, ⟨ho, hd⟩, nw, ⟨bo, bd⟩, ⟨co, cd⟩, we⟩ := x
    clear hl hr
    have st := Own.startOld W
    unfold cV S at *
    simp only at HR
    (try simp only [nsl, Value.cells, unB] at st)
    (try clear hc); have hc := st.facts; (try simp only [nfl, nft, Nat.reduceAdd] at hc)
    go_enter Try.func119, Try.ntmps119
    go_wp2_with ((((with_reducible refine wl_box ?_ (fun K hK => ?_)); rfl; refine owp_box (o := ⟨some 1, _, _, _, _, _⟩) rfl st ?_; apply Exists.intro; refine ⟨?_, ?_⟩; (focus (go_simp; try rfl)); (clear st; intro b1 w hb st; clear hb))); (try simp only [nsl, Value.cells, unB] at st); (try clear hc); have hc := st.facts; (try simp only [nfl, nft, Nat.reduceAdd] at hc))
    refine (HR.out _).mono ?_
    rintro en w ⟨rfl, hx⟩
    replace st := st.ext hx
    clear hx
    (try clear hc); have hc := st.facts; (try simp only [nfl, nft, Nat.reduceAdd] at hc)
    rw [H.out]
    go_wp2_with fail
    go_ret
    exact ⟨none, 0, 0, rfl, by rw [HE.out, H.out]; exact (st.row_nil 5 1).toFresh (i := 2) get2⟩
  | true =>
    obtain ⟨hh, hcs⟩ := credR_cases hr
    have H := Lib.hid hr
    obtain ⟨k, ⟨ho, hd⟩, nw, ⟨bo, bd⟩, ⟨co, cd⟩, we⟩ := x
    simp only at hh hcs
    have hb1 := roleB_len hh
    have HH := Lib.hid hh
    clear hl hr hh
    have st := Own.startOld W
    unfold cV S at *
    simp only at HR
    (try simp only [nsl, Value.cells, unB] at st)
    (try clear hc); have hc := st.facts; (try simp only [nfl, nft, Nat.reduceAdd] at hc)
    rcases hcs with ⟨rfl, hw, -, -, -⟩ | ⟨-, hbr, ⟨rfl, -, -⟩ | ⟨rfl, -, -, he⟩ | ⟨rfl, -, hcr, -⟩⟩
    · have hl2 := (nameR_len hw).2
      have hb2 : (numB nw.length).length ≤ 10 := numF_len 10 nw.length
      have hnk : (numB 1).length = 1 := by decide +kernel
      have HW := Lib.hid hw
      clear hw
      go_enter Try.func119, Try.ntmps119
      go_wp2_with ((((with_reducible refine wl_box ?_ (fun K hK => ?_)); rfl; refine owp_box (o := ⟨some 1, _, _, _, _, _⟩) rfl st ?_; apply Exists.intro; refine ⟨?_, ?_⟩; (focus (go_simp; try rfl)); (clear st; intro b1 w hb st; clear hb))); (try simp only [nsl, Value.cells, unB] at st); (try clear hc); have hc := st.facts; (try simp only [nfl, nft, Nat.reduceAdd] at hc))
      refine (HR.out _).mono ?_
      rintro en w ⟨rfl, hx⟩
      replace st := st.ext hx
      clear hx
      (try clear hc); have hc := st.facts; (try simp only [nfl, nft, Nat.reduceAdd] at hc)
      rw [H.out]
      go_wp2_with ((((with_reducible refine wl_box ?_ (fun K hK => ?_)); rfl; refine owp_box (o := ⟨some 8, _, _, _, _, _⟩) rfl st ?_; apply Exists.intro; refine ⟨?_, ?_⟩; (focus (go_simp; try rfl)); (clear st; intro b8 w hb st; clear hb))); (try simp only [nsl, Value.cells, unB] at st); (try clear hc); have hc := st.facts; (try simp only [nfl, nft, Nat.reduceAdd] at hc))
      replace st := st.newPen (i := 2) get2
      (try simp only [nsl, Value.cells, unB] at st)
      (try clear hc); have hc := st.facts; (try simp only [nfl, nft, Nat.reduceAdd] at hc)
      obtain ⟨fr', al', st', back⟩ := st.sub [2] (by decide) (by simp)
      (try simp only [nsl, Value.cells, unB] at st')
      refine (penNumber_c st' 1 (by decide) (by simp)).mono ?_
      clear st'
      rintro en w ⟨rfl, st'⟩
      replace st := back _ _ (by simp) st'
      clear back st'
      (try simp only [nsl, Value.cells, unB] at st)
      (try clear hc); have hc := st.facts; (try simp only [nfl, nft, Nat.reduceAdd] at hc)
      go_wp2_with fail
      (try rw [List.nil_append] at st)
      obtain ⟨fr', al', st', back⟩ := st.sub [2] (by decide) (by simp)
      (try simp only [nsl, Value.cells, unB] at st')
      refine (rolePut_yes st' (ho, hd) HH.out (by omega)).mono ?_
      clear st'
      rintro en w ⟨rfl, st'⟩
      replace st := back _ _ (by simp) st'
      clear back st'
      (try simp only [nsl, Value.cells, unB] at st)
      (try clear hc); have hc := st.facts; (try simp only [nfl, nft, Nat.reduceAdd] at hc)
      go_wp2_with fail
      obtain ⟨fr', al', st', back⟩ := st.sub [2] (by decide) (by simp)
      (try simp only [nsl, Value.cells, unB] at st')
      refine (namePut_yes st' nw HW.out (by simp; omega)).mono ?_
      clear st'
      rintro en w ⟨rfl, st'⟩
      replace st := back _ _ (by simp) st'
      clear back st'
      (try simp only [nsl, Value.cells, unB] at st)
      (try clear hc); have hc := st.facts; (try simp only [nfl, nft, Nat.reduceAdd] at hc)
      obtain ⟨u, hu⟩ : ∃ u, (numB 1 ++ roleB (ho, hd) ++ (numB nw.length ++ nw)) = u := ⟨_, rfl⟩
      rw [hu] at st
      have HU : Hid (r = u) := Lib.hid (by rw [HE.out, if_pos H.out, ← hu]; simp [credB])
      have hul : u.length ≤ 300 := by rw [← hu]; simp; omega
      clear hu
      go_wp2_with fail
      obtain ⟨fr', al', st', back⟩ := st.sub [2] (by decide) (by simp)
      (try simp only [nsl, Value.cells, unB] at st')
      refine (penBytesRow_c st' (by omega)).mono ?_
      clear st'
      rintro en w ⟨pa, pc, rfl, hpc, st'⟩
      replace st := back _ _ (by simp) st'
      clear back st'
      (try simp only [nsl, Value.cells, unB] at st)
      (try clear hc); have hc := st.facts; (try simp only [nfl, nft, Nat.reduceAdd] at hc)
      go_wp2_with fail
      go_ret
      exact ⟨_, _, _, rfl, by rw [HU.out]; exact st.toFresh (i := 3) get3⟩
    · have hb2 := roleB_len hbr
      have HW := Lib.hid hbr
      have hnk : (numB 2).length = 1 := by decide +kernel
      clear hbr
      go_enter Try.func119, Try.ntmps119
      go_wp2_with ((((with_reducible refine wl_box ?_ (fun K hK => ?_)); rfl; refine owp_box (o := ⟨some 1, _, _, _, _, _⟩) rfl st ?_; apply Exists.intro; refine ⟨?_, ?_⟩; (focus (go_simp; try rfl)); (clear st; intro b1 w hb st; clear hb))); (try simp only [nsl, Value.cells, unB] at st); (try clear hc); have hc := st.facts; (try simp only [nfl, nft, Nat.reduceAdd] at hc))
      refine (HR.out _).mono ?_
      rintro en w ⟨rfl, hx⟩
      replace st := st.ext hx
      clear hx
      (try clear hc); have hc := st.facts; (try simp only [nfl, nft, Nat.reduceAdd] at hc)
      rw [H.out]
      go_wp2_with ((((with_reducible refine wl_box ?_ (fun K hK => ?_)); rfl; refine owp_box (o := ⟨some 8, _, _, _, _, _⟩) rfl st ?_; apply Exists.intro; refine ⟨?_, ?_⟩; (focus (go_simp; try rfl)); (clear st; intro b8 w hb st; clear hb))); (try simp only [nsl, Value.cells, unB] at st); (try clear hc); have hc := st.facts; (try simp only [nfl, nft, Nat.reduceAdd] at hc))
      replace st := st.newPen (i := 2) get2
      (try simp only [nsl, Value.cells, unB] at st)
      (try clear hc); have hc := st.facts; (try simp only [nfl, nft, Nat.reduceAdd] at hc)
      obtain ⟨fr', al', st', back⟩ := st.sub [2] (by decide) (by simp)
      (try simp only [nsl, Value.cells, unB] at st')
      refine (penNumber_c st' 2 (by decide) (by simp)).mono ?_
      clear st'
      rintro en w ⟨rfl, st'⟩
      replace st := back _ _ (by simp) st'
      clear back st'
      (try simp only [nsl, Value.cells, unB] at st)
      (try clear hc); have hc := st.facts; (try simp only [nfl, nft, Nat.reduceAdd] at hc)
      go_wp2_with fail
      (try rw [List.nil_append] at st)
      obtain ⟨fr', al', st', back⟩ := st.sub [2] (by decide) (by simp)
      (try simp only [nsl, Value.cells, unB] at st')
      refine (rolePut_yes st' (ho, hd) HH.out (by omega)).mono ?_
      clear st'
      rintro en w ⟨rfl, st'⟩
      replace st := back _ _ (by simp) st'
      clear back st'
      (try simp only [nsl, Value.cells, unB] at st)
      (try clear hc); have hc := st.facts; (try simp only [nfl, nft, Nat.reduceAdd] at hc)
      go_wp2_with fail
      obtain ⟨fr', al', st', back⟩ := st.sub [2] (by decide) (by simp)
      (try simp only [nsl, Value.cells, unB] at st')
      refine (rolePut_yes st' (bo, bd) HW.out (by simp; omega)).mono ?_
      clear st'
      rintro en w ⟨rfl, st'⟩
      replace st := back _ _ (by simp) st'
      clear back st'
      (try simp only [nsl, Value.cells, unB] at st)
      (try clear hc); have hc := st.facts; (try simp only [nfl, nft, Nat.reduceAdd] at hc)
      obtain ⟨u, hu⟩ : ∃ u, (numB 2 ++ roleB (ho, hd) ++ roleB (bo, bd)) = u := ⟨_, rfl⟩
      rw [hu] at st
      have HU : Hid (r = u) := Lib.hid (by rw [HE.out, if_pos H.out, ← hu]; simp [credB])
      have hul : u.length ≤ 300 := by rw [← hu]; simp; omega
      clear hu
      go_wp2_with fail
      obtain ⟨fr', al', st', back⟩ := st.sub [2] (by decide) (by simp)
      (try simp only [nsl, Value.cells, unB] at st')
      refine (penBytesRow_c st' (by omega)).mono ?_
      clear st'
      rintro en w ⟨pa, pc, rfl, hpc, st'⟩
      replace st := back _ _ (by simp) st'
      clear back st'
      (try simp only [nsl, Value.cells, unB] at st)
      (try clear hc); have hc := st.facts; (try simp only [nfl, nft, Nat.reduceAdd] at hc)
      go_wp2_with fail
      go_ret
      exact ⟨_, _, _, rfl, by rw [HU.out]; exact st.toFresh (i := 3) get3⟩
    · have hb2 := roleB_len hbr
      have HW := Lib.hid hbr
      have HN := Lib.hid he
      have hl2 := (nameR_len he).2
      have hb3 : (numB we.length).length ≤ 10 := numF_len 10 we.length
      have hnk : (numB 3).length = 1 := by decide +kernel
      clear hbr he
      go_enter Try.func119, Try.ntmps119
      go_wp2_with ((((with_reducible refine wl_box ?_ (fun K hK => ?_)); rfl; refine owp_box (o := ⟨some 1, _, _, _, _, _⟩) rfl st ?_; apply Exists.intro; refine ⟨?_, ?_⟩; (focus (go_simp; try rfl)); (clear st; intro b1 w hb st; clear hb))); (try simp only [nsl, Value.cells, unB] at st); (try clear hc); have hc := st.facts; (try simp only [nfl, nft, Nat.reduceAdd] at hc))
      refine (HR.out _).mono ?_
      rintro en w ⟨rfl, hx⟩
      replace st := st.ext hx
      clear hx
      (try clear hc); have hc := st.facts; (try simp only [nfl, nft, Nat.reduceAdd] at hc)
      rw [H.out]
      go_wp2_with ((((with_reducible refine wl_box ?_ (fun K hK => ?_)); rfl; refine owp_box (o := ⟨some 8, _, _, _, _, _⟩) rfl st ?_; apply Exists.intro; refine ⟨?_, ?_⟩; (focus (go_simp; try rfl)); (clear st; intro b8 w hb st; clear hb))); (try simp only [nsl, Value.cells, unB] at st); (try clear hc); have hc := st.facts; (try simp only [nfl, nft, Nat.reduceAdd] at hc))
      replace st := st.newPen (i := 2) get2
      (try simp only [nsl, Value.cells, unB] at st)
      (try clear hc); have hc := st.facts; (try simp only [nfl, nft, Nat.reduceAdd] at hc)
      obtain ⟨fr', al', st', back⟩ := st.sub [2] (by decide) (by simp)
      (try simp only [nsl, Value.cells, unB] at st')
      refine (penNumber_c st' 3 (by decide) (by simp)).mono ?_
      clear st'
      rintro en w ⟨rfl, st'⟩
      replace st := back _ _ (by simp) st'
      clear back st'
      (try simp only [nsl, Value.cells, unB] at st)
      (try clear hc); have hc := st.facts; (try simp only [nfl, nft, Nat.reduceAdd] at hc)
      go_wp2_with fail
      (try rw [List.nil_append] at st)
      obtain ⟨fr', al', st', back⟩ := st.sub [2] (by decide) (by simp)
      (try simp only [nsl, Value.cells, unB] at st')
      refine (rolePut_yes st' (ho, hd) HH.out (by omega)).mono ?_
      clear st'
      rintro en w ⟨rfl, st'⟩
      replace st := back _ _ (by simp) st'
      clear back st'
      (try simp only [nsl, Value.cells, unB] at st)
      (try clear hc); have hc := st.facts; (try simp only [nfl, nft, Nat.reduceAdd] at hc)
      go_wp2_with fail
      obtain ⟨fr', al', st', back⟩ := st.sub [2] (by decide) (by simp)
      (try simp only [nsl, Value.cells, unB] at st')
      refine (rolePut_yes st' (bo, bd) HW.out (by simp; omega)).mono ?_
      clear st'
      rintro en w ⟨rfl, st'⟩
      replace st := back _ _ (by simp) st'
      clear back st'
      (try simp only [nsl, Value.cells, unB] at st)
      (try clear hc); have hc := st.facts; (try simp only [nfl, nft, Nat.reduceAdd] at hc)
      go_wp2_with fail
      obtain ⟨fr', al', st', back⟩ := st.sub [2] (by decide) (by simp)
      (try simp only [nsl, Value.cells, unB] at st')
      refine (namePut_yes st' we HN.out (by simp; omega)).mono ?_
      clear st'
      rintro en w ⟨rfl, st'⟩
      replace st := back _ _ (by simp) st'
      clear back st'
      (try simp only [nsl, Value.cells, unB] at st)
      (try clear hc); have hc := st.facts; (try simp only [nfl, nft, Nat.reduceAdd] at hc)
      obtain ⟨u, hu⟩ : ∃ u, (numB 3 ++ roleB (ho, hd) ++ roleB (bo, bd) ++ (numB we.length ++ we)) = u := ⟨_, rfl⟩
      rw [hu] at st
      have HU : Hid (r = u) := Lib.hid (by rw [HE.out, if_pos H.out, ← hu]; simp [credB])
      have hul : u.length ≤ 300 := by rw [← hu]; simp; omega
      clear hu
      go_wp2_with fail
      obtain ⟨fr', al', st', back⟩ := st.sub [2] (by decide) (by simp)
      (try simp only [nsl, Value.cells, unB] at st')
      refine (penBytesRow_c st' (by omega)).mono ?_
      clear st'
      rintro en w ⟨pa, pc, rfl, hpc, st'⟩
      replace st := back _ _ (by simp) st'
      clear back st'
      (try simp only [nsl, Value.cells, unB] at st)
      (try clear hc); have hc := st.facts; (try simp only [nfl, nft, Nat.reduceAdd] at hc)
      go_wp2_with fail
      go_ret
      exact ⟨_, _, _, rfl, by rw [HU.out]; exact st.toFresh (i := 3) get3⟩
    · have hb2 := roleB_len hbr
      have hb3 := roleB_len hcr
      have HW := Lib.hid hbr
      have HN := Lib.hid hcr
      have hnk : (numB 4).length = 1 := by decide +kernel
      clear hbr hcr
      go_enter Try.func119, Try.ntmps119
      go_wp2_with ((((with_reducible refine wl_box ?_ (fun K hK => ?_)); rfl; refine owp_box (o := ⟨some 1, _, _, _, _, _⟩) rfl st ?_; apply Exists.intro; refine ⟨?_, ?_⟩; (focus (go_simp; try rfl)); (clear st; intro b1 w hb st; clear hb))); (try simp only [nsl, Value.cells, unB] at st); (try clear hc); have hc := st.facts; (try simp only [nfl, nft, Nat.reduceAdd] at hc))
      refine (HR.out _).mono ?_
      rintro en w ⟨rfl, hx⟩
      replace st := st.ext hx
      clear hx
      (try clear hc); have hc := st.facts; (try simp only [nfl, nft, Nat.reduceAdd] at hc)
      rw [H.out]
      go_wp2_with ((((with_reducible refine wl_box ?_ (fun K hK => ?_)); rfl; refine owp_box (o := ⟨some 8, _, _, _, _, _⟩) rfl st ?_; apply Exists.intro; refine ⟨?_, ?_⟩; (focus (go_simp; try rfl)); (clear st; intro b8 w hb st; clear hb))); (try simp only [nsl, Value.cells, unB] at st); (try clear hc); have hc := st.facts; (try simp only [nfl, nft, Nat.reduceAdd] at hc))
      replace st := st.newPen (i := 2) get2
      (try simp only [nsl, Value.cells, unB] at st)
      (try clear hc); have hc := st.facts; (try simp only [nfl, nft, Nat.reduceAdd] at hc)
      obtain ⟨fr', al', st', back⟩ := st.sub [2] (by decide) (by simp)
      (try simp only [nsl, Value.cells, unB] at st')
      refine (penNumber_c st' 4 (by decide) (by simp)).mono ?_
      clear st'
      rintro en w ⟨rfl, st'⟩
      replace st := back _ _ (by simp) st'
      clear back st'
      (try simp only [nsl, Value.cells, unB] at st)
      (try clear hc); have hc := st.facts; (try simp only [nfl, nft, Nat.reduceAdd] at hc)
      go_wp2_with fail
      (try rw [List.nil_append] at st)
      obtain ⟨fr', al', st', back⟩ := st.sub [2] (by decide) (by simp)
      (try simp only [nsl, Value.cells, unB] at st')
      refine (rolePut_yes st' (ho, hd) HH.out (by omega)).mono ?_
      clear st'
      rintro en w ⟨rfl, st'⟩
      replace st := back _ _ (by simp) st'
      clear back st'
      (try simp only [nsl, Value.cells, unB] at st)
      (try clear hc); have hc := st.facts; (try simp only [nfl, nft, Nat.reduceAdd] at hc)
      go_wp2_with fail
      obtain ⟨fr', al', st', back⟩ := st.sub [2] (by decide) (by simp)
      (try simp only [nsl, Value.cells, unB] at st')
      refine (rolePut_yes st' (bo, bd) HW.out (by simp; omega)).mono ?_
      clear st'
      rintro en w ⟨rfl, st'⟩
      replace st := back _ _ (by simp) st'
      clear back st'
      (try simp only [nsl, Value.cells, unB] at st)
      (try clear hc); have hc := st.facts; (try simp only [nfl, nft, Nat.reduceAdd] at hc)
      go_wp2_with fail
      obtain ⟨fr', al', st', back⟩ := st.sub [2] (by decide) (by simp)
      (try simp only [nsl, Value.cells, unB] at st')
      refine (rolePut_yes st' (co, cd) HN.out (by simp; omega)).mono ?_
      clear st'
      rintro en w ⟨rfl, st'⟩
      replace st := back _ _ (by simp) st'
      clear back st'
      (try simp only [nsl, Value.cells, unB] at st)
      (try clear hc); have hc := st.facts; (try simp only [nfl, nft, Nat.reduceAdd] at hc)
      obtain ⟨u, hu⟩ : ∃ u, (numB 4 ++ roleB (ho, hd) ++ roleB (bo, bd) ++ roleB (co, cd)) = u := ⟨_, rfl⟩
      rw [hu] at st
      have HU : Hid (r = u) := Lib.hid (by rw [HE.out, if_pos H.out, ← hu]; simp [credB])
      have hul : u.length ≤ 300 := by rw [← hu]; simp; omega
      clear hu
      go_wp2_with fail
      obtain ⟨fr', al', st', back⟩ := st.sub [2] (by decide) (by simp)
      (try simp only [nsl, Value.cells, unB] at st')
      refine (penBytesRow_c st' (by omega)).mono ?_
      clear st'
      rintro en w ⟨pa, pc, rfl, hpc, st'⟩
      replace st := back _ _ (by simp) st'
      clear back st'
      (try simp only [nsl, Value.cells, unB] at st)
      (try clear hc); have hc := st.facts; (try simp only [nfl, nft, Nat.reduceAdd] at hc)
      go_wp2_with fail
      go_ret
      exact ⟨_, _, _, rfl, by rw [HU.out]; exact st.toFresh (i := 3) get3⟩
end Go.Proofs.Ytekngjkjgmplpaa

namespace Go.Proofs.Ytekngjkjgmplpaa
set_option linter.unusedSimpArgs false
set_option linter.unusedVariables false
open Go Go.RowKit
def sgB (x : SgnT) : List UInt8 := credB x.c ++ (numB x.n ++ x.xs)
def mgB (x : MsgT) : List UInt8 := numB x.k.toNat ++
  (if x.k = 1 then (numB x.nm.length ++ x.nm) ++ numB x.p.toNat else if x.k = 2 then numB x.wn ++ x.ws.flatMap roleB ++ numB x.sn ++ x.ss.flatMap sgB else if x.k = 5 then numB x.e.toNat else [])
/-- The bytes of any message. -/
def mgBy (x : MsgT) : List UInt8 := if mgR x = true then mgB x else []
theorem sgB_len {x : SgnT} (h : credR x.c = true) (hn : x.n = 8) (hx : x.n = x.xs.length) : (sgB x).length ≤ 400 := by
  have h1 := credB_len2 h
  have h2 : (numB x.n).length ≤ 10 := numF_len 10 x.n
  unfold sgB
  simp only [List.length_append]
  omega
theorem showsR_is {l : List SgnT} (h : showsR l = true) : l.length ≤ 8 ∧ ∀ x ∈ l, credR x.c = true ∧ x.n = 8 := by
  unfold showsR at h
  rw [Bool.and_eq_true, decide_eq_true_eq, List.all_eq_true] at h
  refine ⟨h.2, fun x hx => ?_⟩
  obtain ⟨j, hj, rfl⟩ := List.mem_iff_getElem.1 hx
  have := h.1 j (by simpa using hj)
  unfold shAt at this
  rw [List.getElem?_eq_getElem hj] at this
  simp only [Bool.and_eq_true, beq_iff_eq] at this
  exact ⟨this.1.1, this.1.2⟩
theorem wantsR_is {l : List Role} (h : wantsR l = true) : l.length ≤ 16 ∧ ∀ x ∈ l, roleR x = true := by
  unfold wantsR at h
  rw [Bool.and_eq_true, decide_eq_true_eq, decide_eq_true_eq] at h
  refine ⟨h.1, fun x hx => ?_⟩
  rw [← h.2] at hx
  exact ((roleSet_set l).2 x).1 hx |>.2
theorem mgR_k {x : MsgT} (h : mgR x = true) : kindR x = true ∧ (x.k = 1 ∨ x.k = 2 ∨ x.k = 3 ∨ x.k = 4 ∨ x.k = 5) := by
  unfold mgR at h
  rw [Bool.and_eq_true] at h
  refine ⟨h.2, ?_⟩
  have h2 := h.2
  unfold kindR at h2
  split at h2
  · exact .inl (by assumption)
  · split at h2
    · exact .inr (.inl (by assumption))
    · split at h2
      · exact .inr (.inr (.inr (.inr (by assumption))))
      · simp at h2
        rcases h2 with q | q
        · exact .inr (.inr (.inl q))
        · exact .inr (.inr (.inr (.inl q)))
theorem mgR_1 {x : MsgT} (h : mgR x = true) (k : x.k = 1) : nameR x.nm = true ∧ (x.p = 1 ∨ x.p = 2) := by
  have := (mgR_k h).1
  unfold kindR at this
  rw [if_pos k] at this
  simpa using this
theorem mgR_2 {x : MsgT} (h : mgR x = true) (k : x.k = 2) : wantsR x.ws = true ∧ showsR x.ss = true := by
  have := (mgR_k h).1
  unfold kindR at this
  rw [if_neg (by omega), if_pos k] at this
  simpa using this
theorem mgR_5 {x : MsgT} (h : mgR x = true) (k : x.k = 5) : 1 ≤ x.e ∧ x.e ≤ 99 := by
  have := (mgR_k h).1
  unfold kindR at this
  rw [if_neg (by omega), if_neg (by omega), if_pos k] at this
  simpa using this
theorem flatLen {α : Type} (f : α → List UInt8) (n : Nat) : ∀ l : List α, (∀ x ∈ l, (f x).length ≤ n) → (l.flatMap f).length ≤ n * l.length
  | [], _ => by simp
  | x :: l, h => by
    have h1 := h x (by simp)
    have h2 := flatLen f n l fun y hy => h y (by simp [hy])
    simp only [List.flatMap_cons, List.length_append, List.length_cons, Nat.mul_add, Nat.mul_one]
    omega
set_option maxRecDepth 100000 in
set_option maxHeartbeats 2000000 in
theorem keysPut_yes {fr al : Nat → Prop} {W : World} {p : Nat} {xs : List UInt8} (x : SgnT) (st : Own fr al W [penI p xs, byI x.a x.n x.xs] W) (hr : credR x.c = true) (hn : x.n = 8) (hl : xs.length ≤ 1000000) :
    Calls Try.prog 146 #[.pointer (some ⟨p, 0, none⟩), sgV x] W fun e w' => e = .returned (.bool true) ∧ Own fr al W [penI p (xs ++ sgB x), byI x.a x.n x.xs] w' := by
  have hb1 := credB_len2 hr
  have HC1 : Hid (credBy x.c = credB x.c) := Lib.hid (by unfold credBy; rw [if_pos hr])
  have HQ := Lib.hid (fun W => credBytes_f x.c W (credR_L hr))
  rw [HC1.out] at HQ
  have HCR := Lib.hid (fun W => credRight_any x.c W (credR_S hr))
  rw [hr] at HCR
  obtain ⟨u, hu⟩ : ∃ u, credB x.c = u := ⟨_, rfl⟩
  have HX : Hid (sgB x = u ++ (numB x.n ++ x.xs)) := Lib.hid (by rw [← hu]; rfl)
  rw [hu] at HQ hb1
  clear hu HC1 hr
  obtain ⟨⟨ck, ⟨ho, hd⟩, cw, ⟨bo, bd⟩, ⟨co, cd⟩, we⟩, a1, n1, m1, tg⟩ := x
  simp only at st hn HX
  subst hn
  unfold cV S at HQ HCR
  unfold sgV S
  simp only at HQ HCR ⊢
  (try simp only [nsl, Value.cells, unB] at st)
  (try clear hc); have hc := st.facts; (try simp only [nfl, nft, Nat.reduceAdd] at hc)
  go_enter Try.func146, Try.ntmps146
  go_wp2_with ((((with_reducible refine wl_box ?_ (fun K hK => ?_)); rfl; refine owp_box (o := ⟨some 3, _, _, _, _, _⟩) rfl st ?_; apply Exists.intro; refine ⟨?_, ?_⟩; (focus (go_simp; try rfl)); (clear st; intro b3 w hb st; clear hb))); (try simp only [nsl, Value.cells, unB] at st); (try clear hc); have hc := st.facts; (try simp only [nfl, nft, Nat.reduceAdd] at hc))
  refine (HCR.out _).mono ?_
  rintro en w ⟨rfl, hx⟩
  replace st := st.ext hx
  clear hx
  (try clear hc); have hc := st.facts; (try simp only [nfl, nft, Nat.reduceAdd] at hc)
  go_wp2_with fail
  refine (HQ.out _).mono ?_
  rintro en w ⟨pa, pn, pc, rfl, hfr⟩
  have hpn : pn = u.length := (hfr.by).2.1
  subst hpn
  replace st := st.fresh hfr
  clear hfr
  (try simp only [nsl, Value.cells, unB] at st)
  (try clear hc); have hc := st.facts; (try simp only [nfl, nft, Nat.reduceAdd] at hc)
  replace st := st.freezeRow (i := 3) get3
  (try simp only [nsl, Value.cells, unB] at st)
  (try clear hc); have hc := st.facts; (try simp only [nfl, nft, Nat.reduceAdd] at hc)
  go_wp2_with fail
  obtain ⟨fr', al', st', back⟩ := st.sub [0, 3] (by decide) (by simp)
  (try simp only [nsl, Value.cells, unB] at st')
  refine (penRaw_c st' (by omega)).mono ?_
  clear st'
  rintro en w ⟨rfl, st'⟩
  replace st := back _ _ (by simp) st'
  clear back st'
  (try simp only [nsl, Value.cells, unB] at st)
  (try clear hc); have hc := st.facts; (try simp only [nfl, nft, Nat.reduceAdd] at hc)
  go_wp2_with fail
  obtain ⟨fr', al', st', back⟩ := st.sub [0, 1] (by decide) (by simp)
  (try simp only [nsl, Value.cells, unB] at st')
  refine (penText_c st' (by omega) (by simp; omega)).mono ?_
  clear st'
  rintro en w ⟨rfl, st'⟩
  replace st := back _ _ (by simp) st'
  clear back st'
  (try simp only [nsl, Value.cells, unB] at st)
  (try clear hc); have hc := st.facts; (try simp only [nfl, nft, Nat.reduceAdd] at hc)
  go_wp2_with fail
  go_ret
  have st' := st.keep [0, 1] (by decide) (by simp)
  exact ⟨rfl, by rw [HX.out]; simpa [pick] using st'⟩
theorem Own.oldMg {fr al : Nat → Prop} {w0 w W0 : World} {L : List It} (st : Own fr al w0 L w) {i : Nat} (hi : L[i]? = some (oldI W0)) {x : MsgT} (h : MgOk W0 x) : MgOk w x :=
  ⟨⟨h.1.1, st.oldFl hi h.1.2⟩, ⟨h.2.1.1, st.oldFl hi h.2.1.2⟩, fun y hy => ⟨(h.2.2 y hy).1, st.oldBy hi (h.2.2 y hy).2⟩⟩
set_option maxRecDepth 100000 in
set_option maxHeartbeats 8000000 in
theorem msgPut_yes {fr al : Nat → Prop} {W W0 : World} {p : Nat} {xs : List UInt8} (x : MsgT) (st : Own fr al W [penI p xs, oldI W0] W) (hx0 : MgOk W0 x) (lx : MgL x) (hr : mgR x = true) (hl : xs.length ≤ 100000) :
    Calls Try.prog 72 #[.pointer (some ⟨p, 0, none⟩), mgV x] W fun e w' => e = .returned (.bool true) ∧ Own fr al W [penI p (xs ++ mgB x), oldI W0] w' := by
  have HMR := Lib.hid (fun W' (h : MgOk W' x) => msgRight_any x W' h lx)
  rw [hr] at HMR
  have hk := (mgR_k hr).2
  have HX0 := Lib.hid hx0
  have HX := Lib.hid hx0
  have HB : Hid (mgB x = numB x.k.toNat ++
    (if x.k = 1 then (numB x.nm.length ++ x.nm) ++ numB x.p.toNat else if x.k = 2 then numB x.wn ++ x.ws.flatMap roleB ++ numB x.sn ++ x.ss.flatMap sgB else if x.k = 5 then numB x.e.toNat else [])) := Lib.hid rfl
  have H1 := Lib.hid (mgR_1 hr)
  have H2 := Lib.hid (fun q => (And.intro (wantsR_is (mgR_2 hr q).1) (showsR_is (mgR_2 hr q).2)))
  have H5 := Lib.hid (mgR_5 hr)
  have lnm := lx.2.2.1
  clear hx0 lx hr
  obtain ⟨k, pl, e, nm, wa, wn, wc, ws, sa, sn, sc, ss⟩ := x
  simp only at hk HB H1 H2 H5 lnm
  unfold mgV S at HMR
  unfold MgOk at HX
  simp only at HX
  unfold mgV S
  (try simp only [nsl, Value.cells, unB] at st)
  (try clear hc); have hc := st.facts; (try simp only [nfl, nft, Nat.reduceAdd] at hc)
  rcases hk with rfl | rfl | rfl | rfl | rfl
  · obtain ⟨hn1, hp1⟩ := H1.out rfl
    obtain ⟨pn, rfl⟩ : ∃ q : Nat, pl = (q : Int) := ⟨pl.toNat, by omega⟩
    have HN1 := Lib.hid hn1
    have hl3 := (nameR_len hn1).2
    have hb3 : (numB nm.length).length ≤ 10 := numF_len 10 nm.length
    have hb1 : (numB 1).length ≤ 10 := numF_len 10 1
    have HF : Hid (mgB { k := 1, p := (pn : Int), e := e, nm := nm, wa := wa, wn := wn, wc := wc, ws := ws, sa := sa, sn := sn, sc := sc, ss := ss } = numB 1 ++ (numB nm.length ++ nm) ++ numB pn) := Lib.hid (by rw [HB.out, if_pos rfl]; simp)
    have hpn : pn ≤ 2 := by omega
    clear hn1 hp1 HB H1 H2 H5
    go_enter Try.func72, Try.ntmps72
    go_wp2_with ((((with_reducible refine wl_box ?_ (fun K hK => ?_)); rfl; refine owp_box (o := ⟨some 3, _, _, _, _, _⟩) rfl st ?_; apply Exists.intro; refine ⟨?_, ?_⟩; (focus (go_simp; try rfl)); (clear st; intro b3 w hb st; clear hb))); (try simp only [nsl, Value.cells, unB] at st); (try clear hc); have hc := st.facts; (try simp only [nfl, nft, Nat.reduceAdd] at hc))
    refine (HMR.out _ (st.oldMg (i := 1) get1 HX0.out)).mono ?_
    rintro en w ⟨rfl, hx⟩
    replace st := st.ext hx
    clear hx
    (try simp only [nsl, Value.cells, unB] at st)
    (try clear hc); have hc := st.facts; (try simp only [nfl, nft, Nat.reduceAdd] at hc)
    go_wp2_with fail
    obtain ⟨fr', al', st', back⟩ := st.sub [0] (by decide) (by simp)
    (try simp only [nsl, Value.cells, unB] at st')
    refine (penNumber_c st' 1 (by decide) (by omega)).mono ?_
    clear st'
    rintro en w ⟨rfl, st'⟩
    replace st := back _ _ (by simp) st'
    clear back st'
    (try simp only [nsl, Value.cells, unB] at st)
    (try clear hc); have hc := st.facts; (try simp only [nfl, nft, Nat.reduceAdd] at hc)
    go_wp2_with fail
    obtain ⟨fr', al', st', back⟩ := st.sub [0] (by decide) (by simp)
    (try simp only [nsl, Value.cells, unB] at st')
    refine (namePut_yes st' nm HN1.out (by simp; omega)).mono ?_
    clear st'
    rintro en w ⟨rfl, st'⟩
    replace st := back _ _ (by simp) st'
    clear back st'
    (try simp only [nsl, Value.cells, unB] at st)
    (try clear hc); have hc := st.facts; (try simp only [nfl, nft, Nat.reduceAdd] at hc)
    go_wp2_with fail
    obtain ⟨fr', al', st', back⟩ := st.sub [0] (by decide) (by simp)
    (try simp only [nsl, Value.cells, unB] at st')
    refine (penNumber_c st' pn (by omega) (by simp; omega)).mono ?_
    clear st'
    rintro en w ⟨rfl, st'⟩
    replace st := back _ _ (by simp) st'
    clear back st'
    (try simp only [nsl, Value.cells, unB] at st)
    (try clear hc); have hc := st.facts; (try simp only [nfl, nft, Nat.reduceAdd] at hc)
    go_wp2_with fail
    go_ret
    have st' := st.keep [0, 1] (by decide) (by simp)
    exact ⟨rfl, by rw [HF.out]; simpa [pick] using st'⟩
  · obtain ⟨⟨hwl, hwr⟩, hsl, hsr⟩ := H2.out rfl
    have HF : Hid (mgB { k := 2, p := pl, e := e, nm := nm, wa := wa, wn := wn, wc := wc, ws := ws, sa := sa, sn := sn, sc := sc, ss := ss } = numB 2 ++ (numB wn ++ ws.flatMap roleB ++ numB sn ++ ss.flatMap sgB)) := Lib.hid (by rw [HB.out, if_neg (by decide), if_pos rfl]; rfl)
    have hw1 : wn = ws.length := HX.out.1.2.1
    have hs1 : sn = ss.length := HX.out.2.1.2.1
    have HWR := Lib.hid (And.intro hwr hw1)
    have HSR := Lib.hid (And.intro hsr hs1)
    have hwn : wn ≤ 16 := by omega
    have hsn : sn ≤ 8 := by omega
    have hb1 : (numB 2).length ≤ 10 := numF_len 10 2
    have hb2 : (numB wn).length ≤ 10 := numF_len 10 wn
    have hb3 : (numB sn).length ≤ 10 := numF_len 10 sn
    clear hwl hwr hsl hsr HB H1 H2 H5 hw1 hs1
    go_enter Try.func72, Try.ntmps72
    go_wp2_with ((((with_reducible refine wl_box ?_ (fun K hK => ?_)); rfl; refine owp_box (o := ⟨some 3, _, _, _, _, _⟩) rfl st ?_; apply Exists.intro; refine ⟨?_, ?_⟩; (focus (go_simp; try rfl)); (clear st; intro b3 w hb st; clear hb))); (try simp only [nsl, Value.cells, unB] at st); (try clear hc); have hc := st.facts; (try simp only [nfl, nft, Nat.reduceAdd] at hc))
    refine (HMR.out _ (st.oldMg (i := 1) get1 HX0.out)).mono ?_
    rintro en w ⟨rfl, hx⟩
    replace st := st.ext hx
    clear hx
    (try simp only [nsl, Value.cells, unB] at st)
    (try clear hc); have hc := st.facts; (try simp only [nfl, nft, Nat.reduceAdd] at hc)
    go_wp2_with fail
    obtain ⟨fr', al', st', back⟩ := st.sub [0] (by decide) (by simp)
    (try simp only [nsl, Value.cells, unB] at st')
    refine (penNumber_c st' 2 (by decide) (by omega)).mono ?_
    clear st'
    rintro en w ⟨rfl, st'⟩
    replace st := back _ _ (by simp) st'
    clear back st'
    (try simp only [nsl, Value.cells, unB] at st)
    (try clear hc); have hc := st.facts; (try simp only [nfl, nft, Nat.reduceAdd] at hc)
    go_wp2_with fail
    obtain ⟨fr', al', st', back⟩ := st.sub [0] (by decide) (by simp)
    (try simp only [nsl, Value.cells, unB] at st')
    refine (penNumber_c st' wn (by omega) (by simp; omega)).mono ?_
    clear st'
    rintro en w ⟨rfl, st'⟩
    replace st := back _ _ (by simp) st'
    clear back st'
    (try simp only [nsl, Value.cells, unB] at st)
    (try clear hc); have hc := st.facts; (try simp only [nfl, nft, Nat.reduceAdd] at hc)
    go_wp2_with fail
    obtain ⟨y0, hy0⟩ : ∃ y, xs ++ numB 2 ++ numB wn = y := ⟨_, rfl⟩
    have hyl : y0.length ≤ 100020 := by rw [← hy0]; simp; omega
    rw [hy0] at st
    have HY0 := Lib.hid hy0
    clear hy0
    go_loopg [42] wn (fun kk i wr => ∃ (j m : Nat) (ys : List UInt8), j ≤ wn ∧ kk = wn - j ∧ i = .int .i64 (j : Int) ∧ Hid (ys = y0 ++ (ws.take j).flatMap roleB) ∧ Hid (m = ys.length) ∧ m ≤ 100020 + 100 * j ∧ Own fr al W [penI p ys, oldI W0, blkI b3 [.int .i64 2, .int .i64 pl, .int .i64 e, .string ⟨nm.toArray⟩, .slice wa wn wc, .slice sa sn sc]] wr)
    case atStart => exact ⟨0, _, y0, by omega, by omega, rfl, Lib.hid (by simp), Lib.hid rfl, by omega, st⟩
    case round =>
      obtain ⟨j, m, ys, hj, rfl, rfl, HY, HM, hm, st'⟩ := hrel
      clear st hc
      have st := st'
      clear st'
      (try simp only [nsl, Value.cells, unB] at st)
      (try clear hc); have hc := st.facts; (try simp only [nfl, nft, Nat.reduceAdd] at hc)
      by_cases hjn : j < wn
      · obtain ⟨b, off, ha, hcell⟩ := HX.out.1.2.role (by omega)
        have hjl : j < ws.length := by have := HWR.out.2; omega
        obtain ⟨r0, r1⟩ := hcell j ws[j] (List.getElem?_eq_getElem hjl)
        replace r0 := st.oldCell (i := 1) get1 r0
        replace r1 := st.oldCell (i := 1) get1 r1
        have hts : ws.take (j + 1) = ws.take j ++ [ws[j]] := (List.take_append_getElem hjl).symm
        have hR := HWR.out.1 ws[j] (List.getElem_mem hjl)
        have hbl := roleB_len hR
        clear hcell
        generalize ws[j] = x at *
        obtain ⟨ro, rd⟩ := x
        have HX2 := Lib.hid (And.intro hts hR)
        clear hts hR hjl
        subst ha
        simp only at r0 r1
        unfold S at r0 r1
        have hml : ys.length ≤ 100020 + 100 * j := by have := HM.out; omega
        go_wp2_with ((first
              | ((with_reducible refine wl_alloc ?_ (fun K hK => ?_)); rfl; refine owp_alloc (o := ⟨some 6, _, _, _, _, _⟩) rfl st ?_; apply Exists.intro; apply Exists.intro; refine ⟨?_, ?_⟩; (focus (first | (go_simp; done) | (go_simp; rfl))); (clear st; intro b6 w hb st; clear hb))
              | ((with_reducible refine wl_store ?_ (fun K hK => ?_)); rfl; refine owp_store rfl st ?_; apply Exists.intro; apply Exists.intro; refine ⟨?_, ?_, ?_⟩; (focus (go_simp; try rfl)); (focus (go_simp; try rfl)); (with_reducible refine ⟨3, _, _, _, _, get3, rfl, rfl, ?_, ?_, ?_, ?_⟩); (kernel_rfl); (simp [Value.cells]); (rfl); (clear st; intro w st))); (try simp only [nsl, Value.cells, unB] at st); (try clear hc); have hc := st.facts; (try simp only [nfl, nft, Nat.reduceAdd] at hc))
        obtain ⟨fr', al', st', back⟩ := st.sub [0] (by decide) (by simp)
        (try simp only [nsl, Value.cells, unB] at st')
        refine (rolePut_yes st' (ro, rd) HX2.out.2 (by omega)).mono ?_
        clear st'
        rintro en w ⟨rfl, st'⟩
        replace st := back _ _ (by simp) st'
        clear back st'
        (try simp only [nsl, Value.cells, unB] at st)
        (try clear hc); have hc := st.facts; (try simp only [nfl, nft, Nat.reduceAdd] at hc)
        go_wp2_with fail
        have st' := st.keep [0, 1, 2] (by decide) (by simp)
        go_roundg (wn - (j + 1))
        case measure => omega
        case rel => exact ⟨j + 1, _, ys ++ roleB (ro, rd), by omega, by omega, by go_num, Lib.hid (by rw [HX2.out.1, List.flatMap_append, ← List.append_assoc, ← HY.out]; simp), Lib.hid rfl, by simp; omega, by simpa [pick] using st'⟩
      · obtain rfl : j = wn := by omega
        have HF2 : Hid (mgB { k := 2, p := pl, e := e, nm := nm, wa := wa, wn := j, wc := wc, ws := ws, sa := sa, sn := sn, sc := sc, ss := ss } = numB 2 ++ (numB j ++ ws.flatMap roleB ++ numB sn ++ ss.flatMap sgB)) := Lib.hid HF.out
        have HYE : Hid (xs ++ numB 2 ++ numB j ++ ws.flatMap roleB = ys) := Lib.hid (by rw [HY.out, HY0.out, List.take_of_length_le (by have := HWR.out.2; omega)])
        have hml : ys.length ≤ 102000 := by have := HM.out; omega
        clear HY HM hm HY0
        go_wp2_with fail
        obtain ⟨fr', al', st', back⟩ := st.sub [0] (by decide) (by simp)
        (try simp only [nsl, Value.cells, unB] at st')
        refine (penNumber_c st' sn (by omega) (by omega)).mono ?_
        clear st'
        rintro en w ⟨rfl, st'⟩
        replace st := back _ _ (by simp) st'
        clear back st'
        (try simp only [nsl, Value.cells, unB] at st)
        (try clear hc); have hc := st.facts; (try simp only [nfl, nft, Nat.reduceAdd] at hc)
        go_wp2_with fail
        obtain ⟨z0, hz0⟩ : ∃ z, ys ++ numB sn = z := ⟨_, rfl⟩
        have hzl : z0.length ≤ 102010 := by rw [← hz0]; simp; omega
        rw [hz0] at st
        have HZ0 := Lib.hid hz0
        clear hz0
        go_loopg [58] sn (fun kk i wr => ∃ (q m : Nat) (zs : List UInt8), q ≤ sn ∧ kk = sn - q ∧ i = .int .i64 (q : Int) ∧ Hid (zs = z0 ++ (ss.take q).flatMap sgB) ∧ Hid (m = zs.length) ∧ m ≤ 102010 + 400 * q ∧ Own fr al W [penI p zs, oldI W0, blkI b3 [.int .i64 2, .int .i64 pl, .int .i64 e, .string ⟨nm.toArray⟩, .slice wa j wc, .slice sa sn sc]] wr)
        case atStart => exact ⟨0, _, z0, by omega, by omega, rfl, Lib.hid (by simp), Lib.hid rfl, by omega, st⟩
        case round =>
          obtain ⟨q, m, zs, hq, rfl, rfl, HZ, HM, hm, st'⟩ := hrel
          clear st hc
          have st := st'
          clear st'
          (try simp only [nsl, Value.cells, unB] at st)
          (try clear hc); have hc := st.facts; (try simp only [nfl, nft, Nat.reduceAdd] at hc)
          by_cases hqn : q < sn
          · obtain ⟨b, off, ha, hcell⟩ := HX.out.2.1.2.sgn (by omega)
            have hql : q < ss.length := by have := HSR.out.2; omega
            obtain ⟨r0, r1, r2, r3, r4, r5, r6, r7, r8, r9⟩ := hcell q ss[q] (List.getElem?_eq_getElem hql)
            replace r0 := st.oldCell (i := 1) get1 r0
            replace r1 := st.oldCell (i := 1) get1 r1
            replace r2 := st.oldCell (i := 1) get1 r2
            replace r3 := st.oldCell (i := 1) get1 r3
            replace r4 := st.oldCell (i := 1) get1 r4
            replace r5 := st.oldCell (i := 1) get1 r5
            replace r6 := st.oldCell (i := 1) get1 r6
            replace r7 := st.oldCell (i := 1) get1 r7
            replace r8 := st.oldCell (i := 1) get1 r8
            replace r9 := st.oldCell (i := 1) get1 r9
            have hts : ss.take (q + 1) = ss.take q ++ [ss[q]] := (List.take_append_getElem hql).symm
            have hR := HSR.out.1 ss[q] (List.getElem_mem hql)
            have hSO := HX.out.2.2 ss[q] (List.getElem_mem hql)
            have hbl := sgB_len hR.1 hR.2 hSO.2.1
            replace st := st.addOldBy (i := 1) get1 hSO.2
            clear hcell
            generalize ss[q] = x at *
            have HX2 := Lib.hid (And.intro hts hR)
            have HKP := Lib.hid (fun (fr al : Nat → Prop) (W : World) (zs : List UInt8) (st : Own fr al W [penI p zs, byI x.a x.n x.xs] W) hl => keysPut_yes x st hR.1 hR.2 hl)
            obtain ⟨sb, hsb⟩ : ∃ s, sgB x = s := ⟨_, rfl⟩
            rw [hsb] at hbl HKP
            have HSB := Lib.hid hsb
            clear hts hR hql hSO hsb
            obtain ⟨⟨ck, ⟨ho, hd⟩, cw, ⟨bo, bd⟩, ⟨co, cd⟩, we⟩, a1, n1, m1, tg⟩ := x
            subst ha
            simp only at r0 r1 r2 r3 r4 r5 r6 r7 r8 r9
            unfold S at r1 r2 r3 r4 r5 r6 r7 r8
            unfold sgV S at HKP
            simp only at HKP st
            have hml : zs.length ≤ 102010 + 400 * q := by have := HM.out; omega
            (try simp only [nsl, Value.cells, unB] at st)
            (try clear hc); have hc := st.facts; (try simp only [nfl, nft, Nat.reduceAdd] at hc)
            go_wp2_with ((first
                  | ((with_reducible refine wl_store ?_ (fun K hK => ?_)); rfl; refine owp_store rfl st ?_; apply Exists.intro; apply Exists.intro; refine ⟨?_, ?_, ?_⟩; (focus (go_simp; try rfl)); (focus (go_simp; try rfl)); (with_reducible refine ⟨4, _, _, _, _, get4, rfl, rfl, ?_, ?_, ?_, ?_⟩); (kernel_rfl); (simp [Value.cells]); (rfl); (clear st; intro w st))
                  | ((with_reducible refine wl_alloc ?_ (fun K hK => ?_)); rfl; refine owp_alloc (o := ⟨some 8, _, _, _, _, _⟩) rfl st ?_; apply Exists.intro; apply Exists.intro; refine ⟨?_, ?_⟩; (focus (first | (go_simp; done) | (go_simp; rfl))); (clear st; intro b8 w hb st; clear hb))); (try simp only [nsl, Value.cells, unB] at st); (try clear hc); have hc := st.facts; (try simp only [nfl, nft, Nat.reduceAdd] at hc))
            obtain ⟨fr', al', st', back⟩ := st.sub [0, 3] (by decide) (by simp)
            (try simp only [nsl, Value.cells, unB] at st')
            refine (HKP.out _ _ _ _ st' (by omega)).mono ?_
            clear st'
            rintro en w ⟨rfl, st'⟩
            replace st := back _ _ (by simp) st'
            clear back st'
            (try simp only [nsl, Value.cells, unB] at st)
            (try clear hc); have hc := st.facts; (try simp only [nfl, nft, Nat.reduceAdd] at hc)
            go_wp2_with fail
            have st' := st.keep [0, 1, 2] (by decide) (by simp)
            go_roundg (sn - (q + 1))
            case measure => omega
            case rel => exact ⟨q + 1, _, zs ++ sb, by omega, by omega, by go_num, Lib.hid (by rw [HX2.out.1, List.flatMap_append, ← List.append_assoc, ← HZ.out]; simp [HSB.out]), Lib.hid rfl, by simp; omega, by simpa [pick] using st'⟩
          · obtain rfl : q = sn := by omega
            have HFF : Hid (xs ++ mgB { k := 2, p := pl, e := e, nm := nm, wa := wa, wn := j, wc := wc, ws := ws, sa := sa, sn := q, sc := sc, ss := ss } = zs) := Lib.hid (by rw [HF2.out, HZ.out, ← HZ0.out, ← HYE.out, List.take_of_length_le (by have := HSR.out.2; omega)]; simp)
            rw [← HFF.out] at st
            go_wp2_with fail
            go_ret
            have st' := st.keep [0, 1] (by decide) (by simp)
            exact ⟨rfl, by simpa [pick] using st'⟩
  · have HF : Hid (mgB { k := 3, p := pl, e := e, nm := nm, wa := wa, wn := wn, wc := wc, ws := ws, sa := sa, sn := sn, sc := sc, ss := ss } = numB 3) := Lib.hid (by rw [HB.out, if_neg (by decide), if_neg (by decide), if_neg (by decide)]; simp)
    clear HB H1 H2 H5
    go_enter Try.func72, Try.ntmps72
    go_wp2_with ((((with_reducible refine wl_box ?_ (fun K hK => ?_)); rfl; refine owp_box (o := ⟨some 3, _, _, _, _, _⟩) rfl st ?_; apply Exists.intro; refine ⟨?_, ?_⟩; (focus (go_simp; try rfl)); (clear st; intro b3 w hb st; clear hb))); (try simp only [nsl, Value.cells, unB] at st); (try clear hc); have hc := st.facts; (try simp only [nfl, nft, Nat.reduceAdd] at hc))
    refine (HMR.out _ (st.oldMg (i := 1) get1 HX0.out)).mono ?_
    rintro en w ⟨rfl, hx⟩
    replace st := st.ext hx
    clear hx
    (try simp only [nsl, Value.cells, unB] at st)
    (try clear hc); have hc := st.facts; (try simp only [nfl, nft, Nat.reduceAdd] at hc)
    go_wp2_with fail
    obtain ⟨fr', al', st', back⟩ := st.sub [0] (by decide) (by simp)
    (try simp only [nsl, Value.cells, unB] at st')
    refine (penNumber_c st' 3 (by decide) (by omega)).mono ?_
    clear st'
    rintro en w ⟨rfl, st'⟩
    replace st := back _ _ (by simp) st'
    clear back st'
    (try simp only [nsl, Value.cells, unB] at st)
    (try clear hc); have hc := st.facts; (try simp only [nfl, nft, Nat.reduceAdd] at hc)
    go_wp2_with fail
    go_ret
    have st' := st.keep [0, 1] (by decide) (by simp)
    exact ⟨rfl, by rw [HF.out]; simpa [pick] using st'⟩
  · have HF : Hid (mgB { k := 4, p := pl, e := e, nm := nm, wa := wa, wn := wn, wc := wc, ws := ws, sa := sa, sn := sn, sc := sc, ss := ss } = numB 4) := Lib.hid (by rw [HB.out, if_neg (by decide), if_neg (by decide), if_neg (by decide)]; simp)
    clear HB H1 H2 H5
    go_enter Try.func72, Try.ntmps72
    go_wp2_with ((((with_reducible refine wl_box ?_ (fun K hK => ?_)); rfl; refine owp_box (o := ⟨some 3, _, _, _, _, _⟩) rfl st ?_; apply Exists.intro; refine ⟨?_, ?_⟩; (focus (go_simp; try rfl)); (clear st; intro b3 w hb st; clear hb))); (try simp only [nsl, Value.cells, unB] at st); (try clear hc); have hc := st.facts; (try simp only [nfl, nft, Nat.reduceAdd] at hc))
    refine (HMR.out _ (st.oldMg (i := 1) get1 HX0.out)).mono ?_
    rintro en w ⟨rfl, hx⟩
    replace st := st.ext hx
    clear hx
    (try simp only [nsl, Value.cells, unB] at st)
    (try clear hc); have hc := st.facts; (try simp only [nfl, nft, Nat.reduceAdd] at hc)
    go_wp2_with fail
    obtain ⟨fr', al', st', back⟩ := st.sub [0] (by decide) (by simp)
    (try simp only [nsl, Value.cells, unB] at st')
    refine (penNumber_c st' 4 (by decide) (by omega)).mono ?_
    clear st'
    rintro en w ⟨rfl, st'⟩
    replace st := back _ _ (by simp) st'
    clear back st'
    (try simp only [nsl, Value.cells, unB] at st)
    (try clear hc); have hc := st.facts; (try simp only [nfl, nft, Nat.reduceAdd] at hc)
    go_wp2_with fail
    go_ret
    have st' := st.keep [0, 1] (by decide) (by simp)
    exact ⟨rfl, by rw [HF.out]; simpa [pick] using st'⟩
  · obtain ⟨he1, he2⟩ := H5.out rfl
    obtain ⟨en, rfl⟩ : ∃ q : Nat, e = (q : Int) := ⟨e.toNat, by omega⟩
    have HF : Hid (mgB { k := 5, p := pl, e := (en : Int), nm := nm, wa := wa, wn := wn, wc := wc, ws := ws, sa := sa, sn := sn, sc := sc, ss := ss } = numB 5 ++ numB en) := Lib.hid (by rw [HB.out, if_neg (by decide), if_neg (by decide), if_pos rfl]; simp)
    have hb1 : (numB 5).length ≤ 10 := numF_len 10 5
    have hen : en ≤ 99 := by omega
    clear HB H1 H2 H5 he1 he2
    go_enter Try.func72, Try.ntmps72
    go_wp2_with ((((with_reducible refine wl_box ?_ (fun K hK => ?_)); rfl; refine owp_box (o := ⟨some 3, _, _, _, _, _⟩) rfl st ?_; apply Exists.intro; refine ⟨?_, ?_⟩; (focus (go_simp; try rfl)); (clear st; intro b3 w hb st; clear hb))); (try simp only [nsl, Value.cells, unB] at st); (try clear hc); have hc := st.facts; (try simp only [nfl, nft, Nat.reduceAdd] at hc))
    refine (HMR.out _ (st.oldMg (i := 1) get1 HX0.out)).mono ?_
    rintro en w ⟨rfl, hx⟩
    replace st := st.ext hx
    clear hx
    (try simp only [nsl, Value.cells, unB] at st)
    (try clear hc); have hc := st.facts; (try simp only [nfl, nft, Nat.reduceAdd] at hc)
    go_wp2_with fail
    obtain ⟨fr', al', st', back⟩ := st.sub [0] (by decide) (by simp)
    (try simp only [nsl, Value.cells, unB] at st')
    refine (penNumber_c st' 5 (by decide) (by omega)).mono ?_
    clear st'
    rintro en w ⟨rfl, st'⟩
    replace st := back _ _ (by simp) st'
    clear back st'
    (try simp only [nsl, Value.cells, unB] at st)
    (try clear hc); have hc := st.facts; (try simp only [nfl, nft, Nat.reduceAdd] at hc)
    go_wp2_with fail
    obtain ⟨fr', al', st', back⟩ := st.sub [0] (by decide) (by simp)
    (try simp only [nsl, Value.cells, unB] at st')
    refine (penNumber_c st' en (by omega) (by simp; omega)).mono ?_
    clear st'
    rintro en w ⟨rfl, st'⟩
    replace st := back _ _ (by simp) st'
    clear back st'
    (try simp only [nsl, Value.cells, unB] at st)
    (try clear hc); have hc := st.facts; (try simp only [nfl, nft, Nat.reduceAdd] at hc)
    go_wp2_with fail
    go_ret
    have st' := st.keep [0, 1] (by decide) (by simp)
    exact ⟨rfl, by rw [HF.out]; simpa [pick] using st'⟩
set_option maxRecDepth 100000 in
set_option maxHeartbeats 1000000 in
theorem msgPut_no (p : Option Addr) (x : MsgT) (W : World) (hx : MgOk W x) (lx : MgL x) (h : p = none ∨ mgR x = false) :
    Calls Try.prog 72 #[.pointer p, mgV x] W fun e w' => e = .returned (.bool false) ∧ Ext W w' := by
  have HMR := Lib.hid (fun W' (h : Ext W W') => msgRight_any x W' (hx.ext h) lx)
  obtain ⟨r, hr⟩ : ∃ r, mgR x = r := ⟨_, rfl⟩
  rw [hr] at HMR h
  clear hr hx lx
  obtain ⟨k, pl, e, nm, wa, wn, wc, ws, sa, sn, sc, ss⟩ := x
  unfold mgV S at HMR
  unfold mgV S
  have st := Own.startOld W
  (try simp only [nsl, Value.cells, unB] at st)
  (try clear hc); have hc := st.facts; (try simp only [nfl, nft, Nat.reduceAdd] at hc)
  cases p with
  | none =>
    clear h
    go_enter Try.func72, Try.ntmps72
    go_wp2_with ((((with_reducible refine wl_box ?_ (fun K hK => ?_)); rfl; refine owp_box (o := ⟨some 3, _, _, _, _, _⟩) rfl st ?_; apply Exists.intro; refine ⟨?_, ?_⟩; (focus (go_simp; try rfl)); (clear st; intro b3 w hb st; clear hb))); (try simp only [nsl, Value.cells, unB] at st); (try clear hc); have hc := st.facts; (try simp only [nfl, nft, Nat.reduceAdd] at hc))
    go_ret
    exact ⟨rfl, st.ext0⟩
  | some ad =>
    have hb : r = false := by rcases h with h | h; cases h; exact h
    subst hb
    clear h
    go_enter Try.func72, Try.ntmps72
    go_wp2_with ((((with_reducible refine wl_box ?_ (fun K hK => ?_)); rfl; refine owp_box (o := ⟨some 3, _, _, _, _, _⟩) rfl st ?_; apply Exists.intro; refine ⟨?_, ?_⟩; (focus (go_simp; try rfl)); (clear st; intro b3 w hb st; clear hb))); (try simp only [nsl, Value.cells, unB] at st); (try clear hc); have hc := st.facts; (try simp only [nfl, nft, Nat.reduceAdd] at hc))
    refine (HMR.out _ st.ext0).mono ?_
    rintro en w ⟨rfl, hx⟩
    replace st := st.ext hx
    clear hx
    (try clear hc); have hc := st.facts; (try simp only [nfl, nft, Nat.reduceAdd] at hc)
    go_wp2_with fail
    go_ret
    exact ⟨rfl, st.ext0⟩
end Go.Proofs.Ytekngjkjgmplpaa

namespace Go.Proofs.Ytekngjkjgmplpaa
set_option linter.unusedSimpArgs false
set_option linter.unusedVariables false
open Go Go.RowKit
def zC : CredT := ⟨0, ([], []), [], ([], []), ([], []), []⟩
theorem cred_cells (x : CredT) : Flt.cells x = [.int .i64 x.k, .string ⟨x.h.1.toArray⟩, .string ⟨x.h.2.toArray⟩, .string ⟨x.w.toArray⟩, .string ⟨x.b.1.toArray⟩, .string ⟨x.b.2.toArray⟩, .string ⟨x.c.1.toArray⟩, .string ⟨x.c.2.toArray⟩, .string ⟨x.e.toArray⟩] := rfl
theorem credInfo : ∃ i, Try.prog.info? 32 = some i ∧ i.zero = some (cV zC) ∧ i.size = 9 ∧ i.bytes = 136 := info_parts (by kernel_rfl)
theorem credLen {w : World} {n : Nat} {v : Value} {E : TypeId} {xs : List CredT} (h : w.ownsRow 0 E 9 v n (cellsL xs)) : n = xs.length := by
  have := h.1
  rw [cellsL_len, fltCred_k] at this
  omega
theorem cred_get {xs : List CredT} {j : Nat} {x : CredT} (h : xs[j]? = some x) : (cellsL xs)[j * 9]? = some (.int .i64 x.k) ∧ (cellsL xs)[j * 9 + 1]? = some (S x.h.1) ∧ (cellsL xs)[j * 9 + 2]? = some (S x.h.2) ∧ (cellsL xs)[j * 9 + 3]? = some (S x.w) ∧ (cellsL xs)[j * 9 + 4]? = some (S x.b.1) ∧ (cellsL xs)[j * 9 + 5]? = some (S x.b.2) ∧ (cellsL xs)[j * 9 + 6]? = some (S x.c.1) ∧ (cellsL xs)[j * 9 + 7]? = some (S x.c.2) ∧ (cellsL xs)[j * 9 + 8]? = some (S x.e) :=
  ⟨cellsL_get (i := j) (j := 0) h (by decide), cellsL_get (i := j) (j := 1) h (by decide), cellsL_get (i := j) (j := 2) h (by decide), cellsL_get (i := j) (j := 3) h (by decide), cellsL_get (i := j) (j := 4) h (by decide), cellsL_get (i := j) (j := 5) h (by decide), cellsL_get (i := j) (j := 6) h (by decide), cellsL_get (i := j) (j := 7) h (by decide), cellsL_get (i := j) (j := 8) h (by decide)⟩
set_option maxRecDepth 100000 in
set_option maxHeartbeats 1000000 in
theorem indexFuncCred_c {fr al : Nat → Prop} {w0 w : World} {n c : Nat} {a : Option Addr} {xs : List CredT} (st : Own fr al w0 [rowI 32 9 (.slice a n c) n (cellsL xs)] w) (hn : n ≤ 2000000) (F : FuncId) (cap : Array Value) (p : CredT → Bool)
    (hi : ∀ w x, (callFunc F (#[x] ++ cap)).run Try.prog w = .ok (.enter F (#[x] ++ cap)) w)
    (hp : ∀ x ∈ xs, ∀ w, Calls Try.prog F (#[cV x] ++ cap) w fun e w' => e = .returned (.bool (p x)) ∧ Ext w w') :
    Calls Try.prog 185 #[.slice a n c, .func (.func F) #[] cap] w fun e w' => ∃ v, e = .returned (.int .i64 v) ∧ IxIs p xs v ∧ Own fr al w0 [rowI 32 9 (.slice a n c) n (cellsL xs)] w' := by
  have HP := Lib.hid hp
  have HN : Hid (n = xs.length) := Lib.hid (credLen (st.row (i := 0) get0))
  clear hp
  (try simp only [nsl, Value.cells, unB] at st)
  (try clear hc); have hc := st.facts; (try simp only [nfl, nft, Nat.reduceAdd] at hc)
  go_enter Try.func185, Try.ntmps185
  go_wp2_with fail
  go_loopg [8] n (fun k i wr => ∃ (j : Nat), j ≤ n ∧ k = n - j ∧ i = .int .i64 (j : Int) ∧ Hid (∀ x ∈ xs.take j, p x = false) ∧ Own fr al w0 [rowI 32 9 (.slice a n c) n (cellsL xs)] wr)
  case atStart => exact ⟨0, by omega, by omega, rfl, Lib.hid (by simp), st⟩
  case round =>
    obtain ⟨j, hj, rfl, rfl, HT, st'⟩ := hrel
    clear st hc
    have st := st'
    clear st'
    (try simp only [nsl, Value.cells, unB] at st)
    (try clear hc); have hc := st.facts; (try simp only [nfl, nft, Nat.reduceAdd] at hc)
    by_cases hjn : j < n
    · obtain ⟨g, cap', hv, hcap, hrow⟩ := st.rowAt (i := 0) get0 (by omega)
      injection hv with hv1 hv2 hv3
      subst hv1 hv3
      have hjl : j < xs.length := by have := HN.out; omega
      have r0 := hrow (j * 9) (.int .i64 xs[j].k) (cred_get (List.getElem?_eq_getElem hjl)).1
      have r1 := hrow (j * 9 + 1) (S xs[j].h.1) (cred_get (List.getElem?_eq_getElem hjl)).2.1
      have r2 := hrow (j * 9 + 2) (S xs[j].h.2) (cred_get (List.getElem?_eq_getElem hjl)).2.2.1
      have r3 := hrow (j * 9 + 3) (S xs[j].w) (cred_get (List.getElem?_eq_getElem hjl)).2.2.2.1
      have r4 := hrow (j * 9 + 4) (S xs[j].b.1) (cred_get (List.getElem?_eq_getElem hjl)).2.2.2.2.1
      have r5 := hrow (j * 9 + 5) (S xs[j].b.2) (cred_get (List.getElem?_eq_getElem hjl)).2.2.2.2.2.1
      have r6 := hrow (j * 9 + 6) (S xs[j].c.1) (cred_get (List.getElem?_eq_getElem hjl)).2.2.2.2.2.2.1
      have r7 := hrow (j * 9 + 7) (S xs[j].c.2) (cred_get (List.getElem?_eq_getElem hjl)).2.2.2.2.2.2.2.1
      have r8 := hrow (j * 9 + 8) (S xs[j].e) (cred_get (List.getElem?_eq_getElem hjl)).2.2.2.2.2.2.2.2
      have hts : xs.take (j + 1) = xs.take j ++ [xs[j]] := (List.take_append_getElem hjl).symm
      have hx := HP.out xs[j] (List.getElem_mem hjl)
      have hge := List.getElem?_eq_getElem hjl
      clear hrow
      generalize xs[j] = x at *
      obtain ⟨kk, ⟨ho, hd⟩, nw, ⟨bo, bd⟩, ⟨co, cd⟩, we⟩ := x
      have HX := Lib.hid (And.intro hts (And.intro hjl hge))
      clear hts hge hjl
      simp only at r0 r1 r2 r3 r4 r5 r6 r7 r8
      unfold S at r1 r2 r3 r4 r5 r6 r7 r8
      unfold cV S at hx
      have HQ := Lib.hid hx
      clear hx
      go_wp2_with fail
      refine (HQ.out _).mono ?_
      rintro en w ⟨rfl, hx⟩
      replace st := st.ext hx
      clear hx r0 r1 r2 r3 r4 r5 r6 r7 r8
      by_cases hpx : p (⟨kk, (ho, hd), nw, (bo, bd), (co, cd), we⟩ : CredT) = true
      · rw [hpx]
        have HF : Hid (IxIs p xs (j : Int)) := Lib.hid (.inr ⟨j, (⟨kk, (ho, hd), nw, (bo, bd), (co, cd), we⟩ : CredT), rfl, HX.out.2.1, HX.out.2.2, hpx, HT.out⟩)
        clear hpx
        go_wp2_with fail
        go_ret
        exact ⟨_, rfl, HF.out, st⟩
      · have hpx' : p (⟨kk, (ho, hd), nw, (bo, bd), (co, cd), we⟩ : CredT) = false := by simpa using hpx
        rw [hpx']
        have HF : Hid (∀ y ∈ xs.take (j + 1), p y = false) := Lib.hid (fun y hy => by
          rw [HX.out.1] at hy
          rcases List.mem_append.1 hy with q | q
          · exact HT.out y q
          · rw [List.mem_singleton.1 q]; exact hpx')
        clear hpx hpx'
        go_wp2_with fail
        go_roundg (n - (j + 1))
        case measure => omega
        case rel => exact ⟨j + 1, by omega, rfl, by go_num, HF, st⟩
    · obtain rfl : j = n := by omega
      have HF : Hid (IxIs p xs (-1)) := Lib.hid (.inl ⟨rfl, by have := HT.out; rwa [List.take_of_length_le (by have := HN.out; omega)] at this⟩)
      go_wp2_with fail
      go_ret
      exact ⟨_, rfl, HF.out, st⟩
set_option maxRecDepth 100000 in
set_option maxHeartbeats 2000000 in
theorem deleteFuncCred_c {fr al : Nat → Prop} {w0 w : World} {n c : Nat} {a : Option Addr} {xs : List CredT} (st : Own fr al w0 [rowI 32 9 (.slice a n c) n (cellsL xs)] w) (hn : n ≤ 2000000) (F : FuncId) (cap : Array Value) (p : CredT → Bool)
    (hi : ∀ w x, (callFunc F (#[x] ++ cap)).run Try.prog w = .ok (.enter F (#[x] ++ cap)) w)
    (hp : ∀ x ∈ xs, ∀ w, Calls Try.prog F (#[cV x] ++ cap) w fun e w' => e = .returned (.bool (p x)) ∧ Ext w w') :
    Calls Try.prog 133 #[.slice a n c, .func (.func F) #[] cap] w fun e w' => ∃ m, e = .returned (.slice a m c) ∧ Own fr al w0 [rowI 32 9 (.slice a m c) m (cellsL (xs.filter fun x => !p x))] w' := by
  have HP := Lib.hid hp
  have HN : Hid (n = xs.length) := Lib.hid (credLen (st.row (i := 0) get0))
  clear hp
  (try simp only [nsl, Value.cells, unB] at st)
  (try clear hc); have hc := st.facts; (try simp only [nfl, nft, Nat.reduceAdd] at hc)
  go_enter Try.func133, Try.ntmps133
  go_wp2_with fail
  refine (indexFuncCred_c st hn F cap p hi HP.out).mono ?_
  clear st
  rintro en w ⟨v, rfl, hix, st⟩
  rcases hix with ⟨rfl, hall⟩ | ⟨i0, y, rfl, hil, hiy, hpy, hpre⟩
  · have HF : Hid (xs.filter (fun x => !p x) = xs) := Lib.hid (List.filter_eq_self.2 fun x hx => by simp [hall x hx])
    clear hall
    go_wp2_with fail
    go_ret
    exact ⟨n, rfl, by rw [HF.out]; exact st⟩
  · obtain ⟨g, cap', hv, hcap, hrow⟩ := st.rowAt (i := 0) get0 (by have := HN.out; omega)
    injection hv with hv1 hv2 hv3
    subst hv1 hv3
    clear hrow
    have hi0 : i0 < n := by have := HN.out; omega
    have HS : Hid (xs.take i0 = (xs.take (i0 + 1)).filter (fun x => !p x)) := Lib.hid (by
      have e1 : xs[i0] = y := by rw [List.getElem?_eq_getElem hil] at hiy; injection hiy
      rw [← List.take_append_getElem hil, List.filter_append, e1]
      simp only [List.filter_cons, hpy]
      simp
      exact (List.filter_eq_self.2 fun x hx => by simp [hpre x hx]).symm)
    have hcap2 : c ≤ 9223372036854775807 := by have := hcap.2; simpa [maxLen] using this
    have hcap1 := hcap.1
    clear hil hiy hpy hpre hcap
    have hb1 : ((i0 : Int) == -1) = false := by simp
    go_wp2_with fail
    go_loopg [5, 6] (n - (i0 + 1)) (fun k vi vj wr => ∃ (i j : Nat) (zs : List CredT), j ≤ n ∧ k = n - j ∧ i < j ∧ vi = .int .i64 (i : Int) ∧ vj = .int .i64 (j : Int) ∧ Hid (zs.length = n ∧ zs.take i = (xs.take j).filter (fun x => !p x) ∧ zs.drop j = xs.drop j) ∧ Own fr al w0 [rowI 32 9 (.slice (some ⟨g, 0, none⟩) n c) n (cellsL zs)] wr)
    case atStart => exact ⟨i0, i0 + 1, xs, by omega, by omega, by omega, rfl, by go_num, Lib.hid ⟨HN.out.symm, HS.out, rfl⟩, st⟩
    case round =>
      obtain ⟨i, j, zs, hj, rfl, hij, rfl, rfl, HZ, st'⟩ := hrel
      clear st
      have st := st'
      clear st'
      (try simp only [nsl, Value.cells, unB] at st)
      (try clear hc); have hc := st.facts; (try simp only [nfl, nft, Nat.reduceAdd] at hc)
      by_cases hjn : j < n
      · obtain ⟨g', cap', hv, hcap, hrow⟩ := st.rowAt (i := 0) get0 (by omega)
        injection hv with hv1 hv2 hv3
        injection hv1 with hv1
        injection hv1 with hv1 _ _
        subst hv1 hv3
        have hjz : j < zs.length := by have := HZ.out.1; omega
        have hjx : j < xs.length := by have := HN.out; omega
        have hzx : zs[j] = xs[j] := by
          have e1 := congrArg (fun l => l[0]?) HZ.out.2.2
          simp only [List.getElem?_drop, Nat.add_zero, List.getElem?_eq_getElem hjz, List.getElem?_eq_getElem hjx] at e1
          injection e1
        have r0 := hrow (j * 9) (.int .i64 xs[j].k) (by rw [← hzx]; exact (cred_get (List.getElem?_eq_getElem hjz)).1)
        have r1 := hrow (j * 9 + 1) (S xs[j].h.1) (by rw [← hzx]; exact (cred_get (List.getElem?_eq_getElem hjz)).2.1)
        have r2 := hrow (j * 9 + 2) (S xs[j].h.2) (by rw [← hzx]; exact (cred_get (List.getElem?_eq_getElem hjz)).2.2.1)
        have r3 := hrow (j * 9 + 3) (S xs[j].w) (by rw [← hzx]; exact (cred_get (List.getElem?_eq_getElem hjz)).2.2.2.1)
        have r4 := hrow (j * 9 + 4) (S xs[j].b.1) (by rw [← hzx]; exact (cred_get (List.getElem?_eq_getElem hjz)).2.2.2.2.1)
        have r5 := hrow (j * 9 + 5) (S xs[j].b.2) (by rw [← hzx]; exact (cred_get (List.getElem?_eq_getElem hjz)).2.2.2.2.2.1)
        have r6 := hrow (j * 9 + 6) (S xs[j].c.1) (by rw [← hzx]; exact (cred_get (List.getElem?_eq_getElem hjz)).2.2.2.2.2.2.1)
        have r7 := hrow (j * 9 + 7) (S xs[j].c.2) (by rw [← hzx]; exact (cred_get (List.getElem?_eq_getElem hjz)).2.2.2.2.2.2.2.1)
        have r8 := hrow (j * 9 + 8) (S xs[j].e) (by rw [← hzx]; exact (cred_get (List.getElem?_eq_getElem hjz)).2.2.2.2.2.2.2.2)
        have hts : xs.take (j + 1) = xs.take j ++ [xs[j]] := (List.take_append_getElem hjx).symm
        have hx := HP.out xs[j] (List.getElem_mem hjx)
        clear hrow hzx
        generalize xs[j] = x at *
        obtain ⟨kk, ⟨ho, hd⟩, nw, ⟨bo, bd⟩, ⟨co, cd⟩, we⟩ := x
        have HX := Lib.hid hts
        clear hts hjz hjx
        simp only at r0 r1 r2 r3 r4 r5 r6 r7 r8
        unfold S at r1 r2 r3 r4 r5 r6 r7 r8
        unfold cV S at hx
        have HQ := Lib.hid hx
        clear hx
        go_wp2_with ((first
              | ((with_reducible refine wl_alloc ?_ (fun K hK => ?_)); rfl; refine owp_alloc (o := ⟨some 7, _, _, _, _, _⟩) rfl st ?_; apply Exists.intro; apply Exists.intro; refine ⟨?_, ?_⟩; (focus (first | (go_simp; done) | (go_simp; rfl))); (clear st; intro b7 w hb st; clear hb))
              | ((with_reducible refine wl_store ?_ (fun K hK => ?_)); rfl; refine owp_store rfl st ?_; apply Exists.intro; apply Exists.intro; refine ⟨?_, ?_, ?_⟩; (focus (go_simp; try rfl)); (focus (go_simp; try rfl)); (with_reducible refine ⟨1, _, _, _, _, get1, rfl, rfl, ?_, ?_, ?_, ?_⟩); (kernel_rfl); (simp [Value.cells]); (rfl); (clear st; intro w st))); (try simp only [nsl, Value.cells, unB] at st); (try clear hc); have hc := st.facts; (try simp only [nfl, nft, Nat.reduceAdd] at hc))
        clear r0 r1 r2 r3 r4 r5 r6 r7 r8
        refine (HQ.out _).mono ?_
        rintro en w ⟨rfl, hx⟩
        replace st := st.ext hx
        clear hx
        (try clear hc); have hc := st.facts; (try simp only [nfl, nft, Nat.reduceAdd] at hc)
        by_cases hpx : p (⟨kk, (ho, hd), nw, (bo, bd), (co, cd), we⟩ : CredT) = true
        · rw [hpx]
          have HF : Hid ((xs.take (j + 1)).filter (fun x => !p x) = (xs.take j).filter (fun x => !p x) ∧ zs.drop (j + 1) = xs.drop (j + 1)) := Lib.hid ⟨by rw [HX.out, List.filter_append]; simp [hpx], by
            have := congrArg (List.drop 1) HZ.out.2.2; simpa [List.drop_drop] using this⟩
          clear hpx
          go_wp2_with fail
          have st' := st.keep [0] (by decide) (by simp)
          go_roundg (n - (j + 1))
          case measure => omega
          case rel => exact ⟨i, j + 1, zs, by omega, rfl, by omega, rfl, by go_num, Lib.hid ⟨HZ.out.1, by rw [HF.out.1]; exact HZ.out.2.1, HF.out.2⟩, by simpa [pick] using st'⟩
        · have hpx' : p (⟨kk, (ho, hd), nw, (bo, bd), (co, cd), we⟩ : CredT) = false := by simpa using hpx
          rw [hpx']
          have hiz : i < zs.length := by have := HZ.out.1; omega
          have hset := cellsL_set zs i (⟨kk, (ho, hd), nw, (bo, bd), (co, cd), we⟩ : CredT) hiz
          rw [fltCred_k, cred_cells] at hset
          have HF : Hid ((zs.set i (⟨kk, (ho, hd), nw, (bo, bd), (co, cd), we⟩ : CredT)).length = n ∧ (zs.set i (⟨kk, (ho, hd), nw, (bo, bd), (co, cd), we⟩ : CredT)).take (i + 1) = (xs.take (j + 1)).filter (fun x => !p x) ∧ (zs.set i (⟨kk, (ho, hd), nw, (bo, bd), (co, cd), we⟩ : CredT)).drop (j + 1) = xs.drop (j + 1)) := Lib.hid ⟨by simp [HZ.out.1], by
              rw [HX.out, List.filter_append, ← HZ.out.2.1]
              have : (zs.set i (⟨kk, (ho, hd), nw, (bo, bd), (co, cd), we⟩ : CredT))[i]'(by simpa using hiz) = (⟨kk, (ho, hd), nw, (bo, bd), (co, cd), we⟩ : CredT) := by simp
              rw [← List.take_append_getElem (l := zs.set i (⟨kk, (ho, hd), nw, (bo, bd), (co, cd), we⟩ : CredT)) (by simpa using hiz), this]
              rw [List.take_set, List.set_eq_of_length_le (by rw [List.length_take]; omega)]; simp [hpx'], by
              rw [List.drop_set_of_lt (by omega)]
              have := congrArg (List.drop 1) HZ.out.2.2; simpa [List.drop_drop] using this⟩
          have HSET := Lib.hid hset
          clear hpx hpx' hset hiz
          go_wp2_with ((with_reducible refine wl_store ?_ (fun K hK => ?_)); (rfl); (refine owp_storeRow' rfl st ?_; apply Exists.intro; apply Exists.intro; refine ⟨?_, ?_, ?_⟩; (focus (go_simp; try rfl)); (focus (go_simp; try rfl)); refine ⟨0, _, _, _, _, _, _, _, _, get0, rfl, rfl, ?_, ?_, ?_, ?_⟩; (kernel_rfl); (simp [Value.cells]; omega); (rfl); (clear st; intro w st)))
          simp only [List.set_cons_zero] at st
          have st' := st.keep [0] (by decide) (by simp)
          go_roundg (n - (j + 1))
          case measure => omega
          case rel => exact ⟨i + 1, j + 1, zs.set i (⟨kk, (ho, hd), nw, (bo, bd), (co, cd), we⟩ : CredT), by omega, rfl, by omega, by go_num, by go_num, HF, by rw [← HSET.out]; simpa [pick, Value.cells] using st'⟩
      · obtain rfl : j = n := by omega
        obtain ⟨inf, hinf, hz0, hz1, hz2⟩ := credInfo
        have HF : Hid (zs.take i = xs.filter (fun x => !p x)) := Lib.hid (by rw [HZ.out.2.1, List.take_of_length_le (by have := HN.out; omega)])
        go_wp2_with ((with_reducible refine wl_clear ?_ (fun K hK => ?_)); (rfl); (refine owp_clearRow' rfl st Try.underlying41 ?_; apply Exists.intro; apply Exists.intro; apply Exists.intro; refine ⟨?_, ?_⟩; (focus (go_simp; exact ⟨rfl, rfl, rfl⟩)); refine ⟨0, _, _, _, _, i, _, inf, cV zC, get0, hinf, hz0, by decide, rfl, rfl, by omega, by simp, rfl, ?_⟩; (clear st; intro w ys hy1 hy2 st)))
        simp only [List.set_cons_zero] at st
        have st2 := st.rowCut (i := 0) (k := 9) (n := j) (c := c) (g := g) (E := 32) (xs := ys) get0 i (by omega)
        have hct := cellsL_take zs i
        rw [fltCred_k] at hct
        rw [hy1, hct, HF.out, List.set_cons_zero] at st2
        go_ret
        exact ⟨i, rfl, st2⟩
end Go.Proofs.Ytekngjkjgmplpaa

namespace Go.Proofs.Ytekngjkjgmplpaa
set_option linter.unusedSimpArgs false
set_option linter.unusedVariables false
open Go Go.RowKit
set_option maxRecDepth 100000 in
set_option maxHeartbeats 2000000 in
theorem compactCred_c {fr al : Nat → Prop} {w0 w : World} {n c : Nat} {a : Option Addr} {xs : List CredT} (st : Own fr al w0 [rowI 32 9 (.slice a n c) n (cellsL xs)] w) (hn : n ≤ 2000000) :
    Calls Try.prog 189 #[.slice a n c] w fun e w' => ∃ m, e = .returned (.slice a m c) ∧ Own fr al w0 [rowI 32 9 (.slice a m c) m (cellsL (Lib.compact xs))] w' := by
  have HN : Hid (n = xs.length) := Lib.hid (credLen (st.row (i := 0) get0))
  (try simp only [nsl, Value.cells, unB] at st)
  (try clear hc); have hc := st.facts; (try simp only [nfl, nft, Nat.reduceAdd] at hc)
  by_cases hn2 : n < 2
  · have HC : Hid (Lib.compact xs = xs) := Lib.hid (by
      rw [← cup_all, ← HN.out]
      match n, hn2, HN.out with
      | 0, _, h => rw [List.eq_nil_of_length_eq_zero h.symm]; rfl
      | 1, _, h => rw [cup_one (by omega), List.take_of_length_le (by omega)])
    go_enter Try.func189, Try.ntmps189
    go_wp2_with fail
    go_ret
    exact ⟨n, rfl, by rw [HC.out]; exact st⟩
  obtain ⟨g, cap', hv, hcap, hrow⟩ := st.rowAt (i := 0) get0 (by omega)
  injection hv with hv1 hv2 hv3
  subst hv1 hv3
  clear hrow
  have hcap2 : c ≤ 9223372036854775807 := by have := hcap.2; simpa [maxLen] using this
  have hcap1 := hcap.1
  clear hcap
  go_enter Try.func189, Try.ntmps189
  go_wp2_with fail
  go_loopg [3] (n - 1) (fun k vi wr => ∃ (j : Nat), 1 ≤ j ∧ j ≤ n ∧ k = n - j ∧ vi = .int .i64 (j : Int) ∧ Hid (cup xs j = xs.take j) ∧ Own fr al w0 [rowI 32 9 (.slice (some ⟨g, 0, none⟩) n c) n (cellsL xs)] wr)
  case atStart => exact ⟨1, by omega, by omega, by omega, rfl, Lib.hid (cup_one (by have := HN.out; omega)), st⟩
  case round =>
    obtain ⟨j, hj1, hj, rfl, rfl, HT, st'⟩ := hrel
    clear st hc
    have st := st'
    clear st'
    (try simp only [nsl, Value.cells, unB] at st)
    (try clear hc); have hc := st.facts; (try simp only [nfl, nft, Nat.reduceAdd] at hc)
    by_cases hjn : j < n
    · obtain ⟨q, hq⟩ : ∃ q, j = q + 1 := ⟨j - 1, by omega⟩
      have hw : IntKind.i64.wrap ((j : Int) - 1) = (q : Int) := by rw [IntWalk.i64_in _ ⟨by omega, by omega⟩]; omega
      have hjl : j < xs.length := by have := HN.out; omega
      have hql : q < xs.length := by omega
      obtain ⟨x, hx⟩ : ∃ x, xs[j]? = some x := ⟨_, List.getElem?_eq_getElem hjl⟩
      obtain ⟨y, hy⟩ : ∃ y, xs[q]? = some y := ⟨_, List.getElem?_eq_getElem hql⟩
      have HR := Lib.hid (And.intro (cred_get hx) (cred_get hy))
      have HST := Lib.hid (cup_step hq hx hy)
      have HTK : Hid (xs.take (j + 1) = xs.take j ++ [x]) := Lib.hid (by rw [List.take_add_one, hx]; rfl)
      clear hx hy hjl
      obtain ⟨kk, ⟨ho, hd⟩, nw, ⟨bo, bd⟩, ⟨co, cd⟩, we⟩ := x
      obtain ⟨kk', ⟨ho', hd'⟩, nw', ⟨bo', bd'⟩, ⟨co', cd'⟩, we'⟩ := y
      simp only at HR
      unfold S at HR
      have hql2 : q < n := by omega
      have HQ := Lib.hid hq
      clear hq hql
      go_wp2_with fail
      refine Rg4.wp_region4_eq #[0, 0, 3, 7, 0, 0, 32, 112, 240, 511] [] [3, 8] (fun _ => True) [0, 1, 2, 3, 4, 5, 6, 7, 8, 9] (by kernel_rfl) (by kernel_rfl) (by kernel_rfl) (by kernel_rfl) (show Rg4.PB _ by repeat (first | with_reducible exact Rg4.pb_body | with_reducible exact Rg4.pb_bodyD rfl | with_reducible refine Rg4.pb_then ?_ | with_reducible refine Rg4.pb_inBlock ?_ | with_reducible refine Rg4.pb_noGoto ?_)) (trivial) ?_
      replace st := st.drew
      change Rg4.wp4 _ _ _ _ _ _ _ _ _ (World.drew _) _ _
      generalize World.drew _ = w at st ⊢
      (try clear hc); have hc := st.facts; (try simp only [nfl, nft, Nat.reduceAdd] at hc)
      iterate 3 (refine Rg4.w4_any (Rg4.want_none rfl) rfl ?_; apply Exists.intro; refine ⟨fun w' => ?_, ?_⟩; (focus (first | (go_simp; done) | (go_simp; first | rfl | (rw [if_neg] <;> first | rfl | omega) | (rw [if_pos] <;> first | rfl | omega)))); (try simp only [Rg4.nrm]))
      (refine Rg4.w4_read (Rg4.want_none rfl) rfl rfl ?_; apply Exists.intro; refine ⟨fun w' hw' hcl' => ?_, ?_⟩; focus (subst hw'; have r0 := st.rowC (i := 0) get0 _ _ HR.out.1.1; have r1 := st.rowC (i := 0) get0 _ _ HR.out.1.2.1; have r2 := st.rowC (i := 0) get0 _ _ HR.out.1.2.2.1; have r3 := st.rowC (i := 0) get0 _ _ HR.out.1.2.2.2.1; have r4 := st.rowC (i := 0) get0 _ _ HR.out.1.2.2.2.2.1; have r5 := st.rowC (i := 0) get0 _ _ HR.out.1.2.2.2.2.2.1; have r6 := st.rowC (i := 0) get0 _ _ HR.out.1.2.2.2.2.2.2.1; have r7 := st.rowC (i := 0) get0 _ _ HR.out.1.2.2.2.2.2.2.2.1; have r8 := st.rowC (i := 0) get0 _ _ HR.out.1.2.2.2.2.2.2.2.2; have s0 := st.rowC (i := 0) get0 _ _ HR.out.2.1; have s1 := st.rowC (i := 0) get0 _ _ HR.out.2.2.1; have s2 := st.rowC (i := 0) get0 _ _ HR.out.2.2.2.1; have s3 := st.rowC (i := 0) get0 _ _ HR.out.2.2.2.2.1; have s4 := st.rowC (i := 0) get0 _ _ HR.out.2.2.2.2.2.1; have s5 := st.rowC (i := 0) get0 _ _ HR.out.2.2.2.2.2.2.1; have s6 := st.rowC (i := 0) get0 _ _ HR.out.2.2.2.2.2.2.2.1; have s7 := st.rowC (i := 0) get0 _ _ HR.out.2.2.2.2.2.2.2.2.1; have s8 := st.rowC (i := 0) get0 _ _ HR.out.2.2.2.2.2.2.2.2.2; (focus (first | (go_simp; done) | (go_simp; first | rfl | (rw [if_neg] <;> first | rfl | omega) | (rw [if_pos] <;> first | rfl | omega))))); (try simp only [Rg4.nrm]))
      iterate 4 (refine Rg4.w4_any (Rg4.want_none rfl) rfl ?_; apply Exists.intro; refine ⟨fun w' => ?_, ?_⟩; (focus (first | (go_simp; done) | (go_simp; first | rfl | (rw [if_neg] <;> first | rfl | omega) | (rw [if_pos] <;> first | rfl | omega)))); (try simp only [Rg4.nrm]))
      (refine Rg4.w4_read (Rg4.want_none rfl) rfl rfl ?_; apply Exists.intro; refine ⟨fun w' hw' hcl' => ?_, ?_⟩; focus (subst hw'; have r0 := st.rowC (i := 0) get0 _ _ HR.out.1.1; have r1 := st.rowC (i := 0) get0 _ _ HR.out.1.2.1; have r2 := st.rowC (i := 0) get0 _ _ HR.out.1.2.2.1; have r3 := st.rowC (i := 0) get0 _ _ HR.out.1.2.2.2.1; have r4 := st.rowC (i := 0) get0 _ _ HR.out.1.2.2.2.2.1; have r5 := st.rowC (i := 0) get0 _ _ HR.out.1.2.2.2.2.2.1; have r6 := st.rowC (i := 0) get0 _ _ HR.out.1.2.2.2.2.2.2.1; have r7 := st.rowC (i := 0) get0 _ _ HR.out.1.2.2.2.2.2.2.2.1; have r8 := st.rowC (i := 0) get0 _ _ HR.out.1.2.2.2.2.2.2.2.2; have s0 := st.rowC (i := 0) get0 _ _ HR.out.2.1; have s1 := st.rowC (i := 0) get0 _ _ HR.out.2.2.1; have s2 := st.rowC (i := 0) get0 _ _ HR.out.2.2.2.1; have s3 := st.rowC (i := 0) get0 _ _ HR.out.2.2.2.2.1; have s4 := st.rowC (i := 0) get0 _ _ HR.out.2.2.2.2.2.1; have s5 := st.rowC (i := 0) get0 _ _ HR.out.2.2.2.2.2.2.1; have s6 := st.rowC (i := 0) get0 _ _ HR.out.2.2.2.2.2.2.2.1; have s7 := st.rowC (i := 0) get0 _ _ HR.out.2.2.2.2.2.2.2.2.1; have s8 := st.rowC (i := 0) get0 _ _ HR.out.2.2.2.2.2.2.2.2.2; (focus (first | (go_simp; done) | (go_simp; first | rfl | (rw [if_neg] <;> first | rfl | omega) | (rw [if_pos] <;> first | rfl | omega))))); (try simp only [Rg4.nrm]))
      (refine Rg4.w4_any (Rg4.want_none rfl) rfl ?_; apply Exists.intro; refine ⟨fun w' => ?_, ?_⟩; (focus (first | (go_simp; done) | (go_simp; first | rfl | (rw [if_neg] <;> first | rfl | omega) | (rw [if_pos] <;> first | rfl | omega)))); (try simp only [Rg4.nrm]))
      refine Rg4.w4_nil (fun w' hw' hcl' _ => ?_); subst hw'; clear hcl'
      cases hxy : credEq (⟨kk, (ho, hd), nw, (bo, bd), (co, cd), we⟩ : CredT) (⟨kk', (ho', hd'), nw', (bo', bd'), (co', cd'), we'⟩ : CredT) with
      | false =>
        have HF : Hid (cup xs (j + 1) = xs.take (j + 1)) := Lib.hid (by rw [credEq_eq, decide_eq_false_iff_not] at hxy; rw [HST.out, if_neg hxy, HT.out, HTK.out])
        clear hxy
        go_wp2_with fail
        go_roundg (n - (j + 1))
        case measure => omega
        case rel => exact ⟨j + 1, by omega, by omega, by omega, by go_num, HF, st⟩
      | true =>
        have HF : Hid (cup xs (j + 1) = xs.take j) := Lib.hid (by rw [credEq_eq, decide_eq_true_eq] at hxy; rw [HST.out, if_pos hxy, HT.out, List.append_nil])
        clear hxy hw
        go_wp2_with fail
        go_loopg [3, 5] (n - j - 1) (fun k vi vr wr => ∃ (i r : Nat) (zs : List CredT), 1 ≤ r ∧ j + r ≤ n ∧ k = n - j - r ∧ i < j + r ∧ vi = .int .i64 (i : Int) ∧ vr = .int .i64 (r : Int) ∧ Hid (zs.length = n ∧ zs.take i = cup xs (j + r) ∧ ∀ q, j + r ≤ q + 1 → zs[q]? = xs[q]?) ∧ Own fr al w0 [rowI 32 9 (.slice (some ⟨g, 0, none⟩) n c) n (cellsL zs)] wr)
        case atStart => exact ⟨j, 1, xs, by omega, by omega, by omega, by omega, rfl, rfl, Lib.hid ⟨HN.out.symm, HF.out.symm, fun _ _ => rfl⟩, st⟩
        case round =>
          obtain ⟨i, r, zs, hr1, hrj, rfl, hir, rfl, rfl, HZ, st'⟩ := hrel
          clear st hc HR HST HTK HF
          have st := st'
          clear st'
          (try simp only [nsl, Value.cells, unB] at st)
          (try clear hc); have hc := st.facts; (try simp only [nfl, nft, Nat.reduceAdd] at hc)
          by_cases hrn : r < n - j
          · obtain ⟨s, hs⟩ : ∃ s, r = s + 1 := ⟨r - 1, by omega⟩
            have hw : IntKind.i64.wrap ((r : Int) - 1) = (s : Int) := by rw [IntWalk.i64_in _ ⟨by omega, by omega⟩]; omega
            have hjl : j + r < xs.length := by have := HN.out; omega
            have hql : j + s < xs.length := by omega
            obtain ⟨x, hx⟩ : ∃ x, xs[j + r]? = some x := ⟨_, List.getElem?_eq_getElem hjl⟩
            obtain ⟨y, hy⟩ : ∃ y, xs[j + s]? = some y := ⟨_, List.getElem?_eq_getElem hql⟩
            have hzx := (HZ.out.2.2 (j + r) (by omega)).trans hx
            have hzy := (HZ.out.2.2 (j + s) (by omega)).trans hy
            have HR := Lib.hid (And.intro (cred_get hzx) (cred_get hzy))
            have HST := Lib.hid (cup_step (by omega : j + r = j + s + 1) hx hy)
            clear hx hy hzx hzy hjl
            obtain ⟨kk, ⟨ho, hd⟩, nw, ⟨bo, bd⟩, ⟨co, cd⟩, we⟩ := x
            obtain ⟨kk', ⟨ho', hd'⟩, nw', ⟨bo', bd'⟩, ⟨co', cd'⟩, we'⟩ := y
            simp only [Nat.add_mul] at HR
            unfold S at HR
            have hql2 : s < n - j := by omega
            have HS := Lib.hid hs
            clear hs hql
            go_wp2_with fail
            refine Rg4.wp_region4_eq #[0, 0, 3, 7, 0, 0, 32, 112, 240, 511] [] [3, 8] (fun _ => True) [0, 1, 2, 3, 4, 5, 6, 7, 8, 9] (by kernel_rfl) (by kernel_rfl) (by kernel_rfl) (by kernel_rfl) (show Rg4.PB _ by repeat (first | with_reducible exact Rg4.pb_body | with_reducible exact Rg4.pb_bodyD rfl | with_reducible refine Rg4.pb_then ?_ | with_reducible refine Rg4.pb_inBlock ?_ | with_reducible refine Rg4.pb_noGoto ?_)) (trivial) ?_
            replace st := st.drew
            change Rg4.wp4 _ _ _ _ _ _ _ _ _ (World.drew _) _ _
            generalize World.drew _ = w at st ⊢
            (try clear hc); have hc := st.facts; (try simp only [nfl, nft, Nat.reduceAdd] at hc)
            iterate 3 (refine Rg4.w4_any (Rg4.want_none rfl) rfl ?_; apply Exists.intro; refine ⟨fun w' => ?_, ?_⟩; (focus (first | (go_simp; done) | (go_simp; first | rfl | (rw [if_neg] <;> first | rfl | omega) | (rw [if_pos] <;> first | rfl | omega)))); (try simp only [Rg4.nrm]))
            (refine Rg4.w4_read (Rg4.want_none rfl) rfl rfl ?_; apply Exists.intro; refine ⟨fun w' hw' hcl' => ?_, ?_⟩; focus (subst hw'; have r0 := st.rowC (i := 0) get0 _ _ HR.out.1.1; have r1 := st.rowC (i := 0) get0 _ _ HR.out.1.2.1; have r2 := st.rowC (i := 0) get0 _ _ HR.out.1.2.2.1; have r3 := st.rowC (i := 0) get0 _ _ HR.out.1.2.2.2.1; have r4 := st.rowC (i := 0) get0 _ _ HR.out.1.2.2.2.2.1; have r5 := st.rowC (i := 0) get0 _ _ HR.out.1.2.2.2.2.2.1; have r6 := st.rowC (i := 0) get0 _ _ HR.out.1.2.2.2.2.2.2.1; have r7 := st.rowC (i := 0) get0 _ _ HR.out.1.2.2.2.2.2.2.2.1; have r8 := st.rowC (i := 0) get0 _ _ HR.out.1.2.2.2.2.2.2.2.2; have s0 := st.rowC (i := 0) get0 _ _ HR.out.2.1; have s1 := st.rowC (i := 0) get0 _ _ HR.out.2.2.1; have s2 := st.rowC (i := 0) get0 _ _ HR.out.2.2.2.1; have s3 := st.rowC (i := 0) get0 _ _ HR.out.2.2.2.2.1; have s4 := st.rowC (i := 0) get0 _ _ HR.out.2.2.2.2.2.1; have s5 := st.rowC (i := 0) get0 _ _ HR.out.2.2.2.2.2.2.1; have s6 := st.rowC (i := 0) get0 _ _ HR.out.2.2.2.2.2.2.2.1; have s7 := st.rowC (i := 0) get0 _ _ HR.out.2.2.2.2.2.2.2.2.1; have s8 := st.rowC (i := 0) get0 _ _ HR.out.2.2.2.2.2.2.2.2.2; (focus (first | (go_simp; done) | (go_simp; first | rfl | (rw [if_neg] <;> first | rfl | omega) | (rw [if_pos] <;> first | rfl | omega))))); (try simp only [Rg4.nrm]))
            iterate 4 (refine Rg4.w4_any (Rg4.want_none rfl) rfl ?_; apply Exists.intro; refine ⟨fun w' => ?_, ?_⟩; (focus (first | (go_simp; done) | (go_simp; first | rfl | (rw [if_neg] <;> first | rfl | omega) | (rw [if_pos] <;> first | rfl | omega)))); (try simp only [Rg4.nrm]))
            (refine Rg4.w4_read (Rg4.want_none rfl) rfl rfl ?_; apply Exists.intro; refine ⟨fun w' hw' hcl' => ?_, ?_⟩; focus (subst hw'; have r0 := st.rowC (i := 0) get0 _ _ HR.out.1.1; have r1 := st.rowC (i := 0) get0 _ _ HR.out.1.2.1; have r2 := st.rowC (i := 0) get0 _ _ HR.out.1.2.2.1; have r3 := st.rowC (i := 0) get0 _ _ HR.out.1.2.2.2.1; have r4 := st.rowC (i := 0) get0 _ _ HR.out.1.2.2.2.2.1; have r5 := st.rowC (i := 0) get0 _ _ HR.out.1.2.2.2.2.2.1; have r6 := st.rowC (i := 0) get0 _ _ HR.out.1.2.2.2.2.2.2.1; have r7 := st.rowC (i := 0) get0 _ _ HR.out.1.2.2.2.2.2.2.2.1; have r8 := st.rowC (i := 0) get0 _ _ HR.out.1.2.2.2.2.2.2.2.2; have s0 := st.rowC (i := 0) get0 _ _ HR.out.2.1; have s1 := st.rowC (i := 0) get0 _ _ HR.out.2.2.1; have s2 := st.rowC (i := 0) get0 _ _ HR.out.2.2.2.1; have s3 := st.rowC (i := 0) get0 _ _ HR.out.2.2.2.2.1; have s4 := st.rowC (i := 0) get0 _ _ HR.out.2.2.2.2.2.1; have s5 := st.rowC (i := 0) get0 _ _ HR.out.2.2.2.2.2.2.1; have s6 := st.rowC (i := 0) get0 _ _ HR.out.2.2.2.2.2.2.2.1; have s7 := st.rowC (i := 0) get0 _ _ HR.out.2.2.2.2.2.2.2.2.1; have s8 := st.rowC (i := 0) get0 _ _ HR.out.2.2.2.2.2.2.2.2.2; (focus (first | (go_simp; done) | (go_simp; first | rfl | (rw [if_neg] <;> first | rfl | omega) | (rw [if_pos] <;> first | rfl | omega))))); (try simp only [Rg4.nrm]))
            (refine Rg4.w4_any (Rg4.want_none rfl) rfl ?_; apply Exists.intro; refine ⟨fun w' => ?_, ?_⟩; (focus (first | (go_simp; done) | (go_simp; first | rfl | (rw [if_neg] <;> first | rfl | omega) | (rw [if_pos] <;> first | rfl | omega)))); (try simp only [Rg4.nrm]))
            refine Rg4.w4_nil (fun w' hw' hcl' _ => ?_); subst hw'; clear hcl'
            cases hxy : credEq (⟨kk, (ho, hd), nw, (bo, bd), (co, cd), we⟩ : CredT) (⟨kk', (ho', hd'), nw', (bo', bd'), (co', cd'), we'⟩ : CredT) with
            | true =>
              have hb : (!true) = false := rfl
              have HF : Hid (cup xs (j + (r + 1)) = cup xs (j + r)) := Lib.hid (by rw [credEq_eq, decide_eq_true_eq] at hxy; rw [← Nat.add_assoc, HST.out, if_pos hxy, List.append_nil])
              clear hxy
              simp only [hb]
              go_wp2_with fail
              go_roundg (n - j - (r + 1))
              case measure => omega
              case rel => exact ⟨i, r + 1, zs, by omega, by omega, rfl, by omega, rfl, by go_num, Lib.hid ⟨HZ.out.1, by rw [HF.out]; exact HZ.out.2.1, fun q hq => HZ.out.2.2 q (by omega)⟩, st⟩
            | false =>
              have hb : (!false) = true := rfl
              have HF : Hid (cup xs (j + (r + 1)) = cup xs (j + r) ++ [(⟨kk, (ho, hd), nw, (bo, bd), (co, cd), we⟩ : CredT)]) := Lib.hid (by rw [credEq_eq, decide_eq_false_iff_not] at hxy; rw [← Nat.add_assoc, HST.out, if_neg hxy])
              clear hxy
              simp only [hb]
              have r0 := st.rowC (i := 0) get0 _ _ HR.out.1.1
              have r1 := st.rowC (i := 0) get0 _ _ HR.out.1.2.1
              have r2 := st.rowC (i := 0) get0 _ _ HR.out.1.2.2.1
              have r3 := st.rowC (i := 0) get0 _ _ HR.out.1.2.2.2.1
              have r4 := st.rowC (i := 0) get0 _ _ HR.out.1.2.2.2.2.1
              have r5 := st.rowC (i := 0) get0 _ _ HR.out.1.2.2.2.2.2.1
              have r6 := st.rowC (i := 0) get0 _ _ HR.out.1.2.2.2.2.2.2.1
              have r7 := st.rowC (i := 0) get0 _ _ HR.out.1.2.2.2.2.2.2.2.1
              have r8 := st.rowC (i := 0) get0 _ _ HR.out.1.2.2.2.2.2.2.2.2
              have hiz : i < zs.length := by have := HZ.out.1; omega
              have hset := cellsL_set zs i (⟨kk, (ho, hd), nw, (bo, bd), (co, cd), we⟩ : CredT) hiz
              rw [fltCred_k, cred_cells] at hset
              have HZ2 : Hid ((zs.set i (⟨kk, (ho, hd), nw, (bo, bd), (co, cd), we⟩ : CredT)).length = n ∧ (zs.set i (⟨kk, (ho, hd), nw, (bo, bd), (co, cd), we⟩ : CredT)).take (i + 1) = cup xs (j + (r + 1)) ∧ ∀ q, j + (r + 1) ≤ q + 1 → (zs.set i (⟨kk, (ho, hd), nw, (bo, bd), (co, cd), we⟩ : CredT))[q]? = xs[q]?) := Lib.hid ⟨by simp [HZ.out.1], by
                  rw [HF.out, ← HZ.out.2.1]
                  have : (zs.set i (⟨kk, (ho, hd), nw, (bo, bd), (co, cd), we⟩ : CredT))[i]'(by simpa using hiz) = (⟨kk, (ho, hd), nw, (bo, bd), (co, cd), we⟩ : CredT) := by simp
                  rw [← List.take_append_getElem (l := zs.set i (⟨kk, (ho, hd), nw, (bo, bd), (co, cd), we⟩ : CredT)) (by simpa using hiz), this]
                  rw [List.take_set, List.set_eq_of_length_le (by rw [List.length_take]; omega)], fun q hq => by
                  rw [List.getElem?_set_ne (by omega)]; exact HZ.out.2.2 q (by omega)⟩
              have HSET := Lib.hid hset
              clear hset hiz
              go_wp2_with ((with_reducible refine wl_store ?_ (fun K hK => ?_)); (rfl); (refine owp_storeRow' rfl st ?_; apply Exists.intro; apply Exists.intro; refine ⟨?_, ?_, ?_⟩; (focus (go_simp; try rfl)); (focus (go_simp; try rfl)); refine ⟨0, _, _, _, _, _, _, _, _, get0, rfl, rfl, ?_, ?_, ?_, ?_⟩; (kernel_rfl); (simp [Value.cells]; omega); (rfl); (clear st; intro w st)))
              simp only [List.set_cons_zero] at st
              go_roundg (n - j - (r + 1))
              case measure => omega
              case rel => exact ⟨i + 1, r + 1, zs.set i (⟨kk, (ho, hd), nw, (bo, bd), (co, cd), we⟩ : CredT), by omega, by omega, rfl, by omega, by go_num, by go_num, HZ2, by rw [← HSET.out]; simpa [Value.cells] using st⟩
          · obtain ⟨inf, hinf, hz0, hz1, hz2⟩ := credInfo
            have HF : Hid (zs.take i = Lib.compact xs) := Lib.hid (by rw [HZ.out.2.1, ← cup_all, ← HN.out]; congr 1; omega)
            have hin : i ≤ n := by omega
            go_wp2_with ((with_reducible refine wl_clear ?_ (fun K hK => ?_)); (rfl); (refine owp_clearRow' rfl st Try.underlying41 ?_; apply Exists.intro; apply Exists.intro; apply Exists.intro; refine ⟨?_, ?_⟩; (focus (go_simp; exact ⟨rfl, rfl, rfl⟩)); refine ⟨0, _, _, _, _, i, _, inf, cV zC, get0, hinf, hz0, by decide, rfl, rfl, by omega, by simp, rfl, ?_⟩; (clear st; intro w ys hy1 hy2 st)))
            simp only [List.set_cons_zero] at st
            have st2 := st.rowCut (i := 0) (k := 9) (n := n) (c := c) (g := g) (E := 32) (xs := ys) get0 i (by omega)
            have hct := cellsL_take zs i
            rw [fltCred_k] at hct
            rw [hy1, hct, HF.out, List.set_cons_zero] at st2
            go_ret
            exact ⟨i, rfl, st2⟩
    · obtain rfl : j = n := by omega
      have HF : Hid (Lib.compact xs = xs) := Lib.hid (by rw [← cup_all, ← HN.out, HT.out, List.take_of_length_le (by have := HN.out; omega)])
      go_wp2_with fail
      go_ret
      exact ⟨j, rfl, by rw [HF.out]; exact st⟩
end Go.Proofs.Ytekngjkjgmplpaa

namespace Go.Proofs.Ytekngjkjgmplpaa
set_option linter.unusedSimpArgs false
set_option linter.unusedVariables false
open Go Go.RowKit
theorem Fl.cred {w : World} {a : Option Addr} {n : Nat} {xs : List CredT} (h : Fl w a n xs) (h0 : 0 < n) : ∃ b off, a = some ⟨b, off, none⟩ ∧ ∀ j x, xs[j]? = some x → w.cell? ⟨b, off + j * 9, none⟩ = some (.int .i64 x.k) ∧ w.cell? ⟨b, off + j * 9 + 1, none⟩ = some (S x.h.1) ∧ w.cell? ⟨b, off + j * 9 + 2, none⟩ = some (S x.h.2) ∧ w.cell? ⟨b, off + j * 9 + 3, none⟩ = some (S x.w) ∧ w.cell? ⟨b, off + j * 9 + 4, none⟩ = some (S x.b.1) ∧ w.cell? ⟨b, off + j * 9 + 5, none⟩ = some (S x.b.2) ∧ w.cell? ⟨b, off + j * 9 + 6, none⟩ = some (S x.c.1) ∧ w.cell? ⟨b, off + j * 9 + 7, none⟩ = some (S x.c.2) ∧ w.cell? ⟨b, off + j * 9 + 8, none⟩ = some (S x.e) := by
  obtain ⟨b, off, rfl, hc⟩ := h.2 h0
  exact ⟨b, off, rfl, fun j x hj => ⟨hc j x hj 0 _ rfl, hc j x hj 1 _ rfl, hc j x hj 2 _ rfl, hc j x hj 3 _ rfl, hc j x hj 4 _ rfl, hc j x hj 5 _ rfl, hc j x hj 6 _ rfl, hc j x hj 7 _ rfl, hc j x hj 8 _ rfl⟩⟩
set_option maxRecDepth 100000 in
set_option maxHeartbeats 1000000 in
theorem refCredHas_any (a : Option Addr) (n c : Nat) (l : List CredT) (y : CredT) (W : World) (h : Fl W a n l) (hn : n ≤ 2000000) :
    Calls Try.prog 104 #[.slice a n c, cV y] W fun e w' => e = .returned (.bool (decide (y ∈ l))) ∧ Ext W w' := by
  have H := Lib.hid h
  have HNL := Lib.hid h.1
  clear h
  obtain ⟨kk, ⟨ho, hd⟩, nw, ⟨bo, bd⟩, ⟨co, cd⟩, we⟩ := y
  have st := Own.startOld W
  unfold cV S
  (try simp only [nsl, Value.cells, unB] at st)
  (try clear hc); have hc := st.facts; (try simp only [nfl, nft, Nat.reduceAdd] at hc)
  go_enter Try.func104, Try.ntmps104
  go_wp2_with ((((with_reducible refine wl_box ?_ (fun K hK => ?_)); rfl; refine owp_box (o := ⟨some 3, _, _, _, _, _⟩) rfl st ?_; apply Exists.intro; refine ⟨?_, ?_⟩; (focus (go_simp; try rfl)); (clear st; intro b3 w hb st; clear hb))); (try simp only [nsl, Value.cells, unB] at st); (try clear hc); have hc := st.facts; (try simp only [nfl, nft, Nat.reduceAdd] at hc))
  go_loopg [9] n (fun k i wr => ∃ (j : Nat), j ≤ n ∧ k = n - j ∧ i = .int .i64 (j : Int) ∧ Hid ((⟨kk, (ho, hd), nw, (bo, bd), (co, cd), we⟩ : CredT) ∉ l.take j) ∧ Own (fun _ => False) (fun _ => True) W [oldI W, blkI b3 [.int .i64 kk, S ho, S hd, S nw, S bo, S bd, S co, S cd, S we]] wr)
  case atStart => exact ⟨0, by omega, by omega, rfl, Lib.hid (by simp), st⟩
  case round =>
    obtain ⟨j, hj, rfl, rfl, HT, st'⟩ := hrel
    clear st hc
    have st := st'
    clear st'
    unfold S at st
    (try simp only [nsl, Value.cells, unB] at st)
    (try clear hc); have hc := st.facts; (try simp only [nfl, nft, Nat.reduceAdd] at hc)
    by_cases hjn : j < n
    · obtain ⟨b, off, ha, hcell⟩ := H.out.cred (by omega)
      have hjl : j < l.length := by have := HNL.out; omega
      have r0 := st.oldCell (i := 0) get0 (hcell j l[j] (List.getElem?_eq_getElem hjl)).1
      have r1 := st.oldCell (i := 0) get0 (hcell j l[j] (List.getElem?_eq_getElem hjl)).2.1
      have r2 := st.oldCell (i := 0) get0 (hcell j l[j] (List.getElem?_eq_getElem hjl)).2.2.1
      have r3 := st.oldCell (i := 0) get0 (hcell j l[j] (List.getElem?_eq_getElem hjl)).2.2.2.1
      have r4 := st.oldCell (i := 0) get0 (hcell j l[j] (List.getElem?_eq_getElem hjl)).2.2.2.2.1
      have r5 := st.oldCell (i := 0) get0 (hcell j l[j] (List.getElem?_eq_getElem hjl)).2.2.2.2.2.1
      have r6 := st.oldCell (i := 0) get0 (hcell j l[j] (List.getElem?_eq_getElem hjl)).2.2.2.2.2.2.1
      have r7 := st.oldCell (i := 0) get0 (hcell j l[j] (List.getElem?_eq_getElem hjl)).2.2.2.2.2.2.2.1
      have r8 := st.oldCell (i := 0) get0 (hcell j l[j] (List.getElem?_eq_getElem hjl)).2.2.2.2.2.2.2.2
      have hts : l.take (j + 1) = l.take j ++ [l[j]] := (List.take_append_getElem hjl).symm
      have hmem := List.getElem_mem hjl
      clear hcell
      generalize l[j] = x at *
      obtain ⟨kk', ⟨ho', hd'⟩, nw', ⟨bo', bd'⟩, ⟨co', cd'⟩, we'⟩ := x
      have HX := Lib.hid (And.intro hts hmem)
      clear hts hmem
      subst ha
      simp only at r0 r1 r2 r3 r4 r5 r6 r7 r8
      unfold S at r1 r2 r3 r4 r5 r6 r7 r8
      cases hr : credEq (⟨kk', (ho', hd'), nw', (bo', bd'), (co', cd'), we'⟩ : CredT) (⟨kk, (ho, hd), nw, (bo, bd), (co, cd), we⟩ : CredT) with
      | true =>
        have HF : Hid (decide ((⟨kk, (ho, hd), nw, (bo, bd), (co, cd), we⟩ : CredT) ∈ l) = true) := Lib.hid (by rw [credEq_eq, decide_eq_true_eq] at hr; have := HX.out.2; rw [hr] at this; simpa using this)
        go_wp2_with ((first
              | ((with_reducible refine wl_alloc ?_ (fun K hK => ?_)); rfl; refine owp_alloc (o := ⟨some 6, _, _, _, _, _⟩) rfl st ?_; apply Exists.intro; apply Exists.intro; refine ⟨?_, ?_⟩; (focus (first | (go_simp; done) | (go_simp; rfl))); (clear st; intro b6 w hb st; clear hb))
              | ((with_reducible refine wl_store ?_ (fun K hK => ?_)); rfl; refine owp_store rfl st ?_; apply Exists.intro; apply Exists.intro; refine ⟨?_, ?_, ?_⟩; (focus (go_simp; try rfl)); (focus (go_simp; try rfl)); (with_reducible refine ⟨2, _, _, _, _, get2, rfl, rfl, ?_, ?_, ?_, ?_⟩); (kernel_rfl); (simp [Value.cells]); (rfl); (clear st; intro w st))); (try simp only [nsl, Value.cells, unB] at st); (try clear hc); have hc := st.facts; (try simp only [nfl, nft, Nat.reduceAdd] at hc))
        go_ret
        exact ⟨by rw [HF.out]; rfl, st.ext0⟩
      | false =>
        have HF : Hid ((⟨kk, (ho, hd), nw, (bo, bd), (co, cd), we⟩ : CredT) ∉ l.take (j + 1)) := Lib.hid (by
          rw [credEq_eq, decide_eq_false_iff_not] at hr
          rw [HX.out.1]
          intro q
          rcases List.mem_append.1 q with q | q
          · exact HT.out q
          · exact hr (List.mem_singleton.1 q).symm)
        go_wp2_with ((first
              | ((with_reducible refine wl_alloc ?_ (fun K hK => ?_)); rfl; refine owp_alloc (o := ⟨some 6, _, _, _, _, _⟩) rfl st ?_; apply Exists.intro; apply Exists.intro; refine ⟨?_, ?_⟩; (focus (first | (go_simp; done) | (go_simp; rfl))); (clear st; intro b6 w hb st; clear hb))
              | ((with_reducible refine wl_store ?_ (fun K hK => ?_)); rfl; refine owp_store rfl st ?_; apply Exists.intro; apply Exists.intro; refine ⟨?_, ?_, ?_⟩; (focus (go_simp; try rfl)); (focus (go_simp; try rfl)); (with_reducible refine ⟨2, _, _, _, _, get2, rfl, rfl, ?_, ?_, ?_, ?_⟩); (kernel_rfl); (simp [Value.cells]); (rfl); (clear st; intro w st))); (try simp only [nsl, Value.cells, unB] at st); (try clear hc); have hc := st.facts; (try simp only [nfl, nft, Nat.reduceAdd] at hc))
        have st' := st.keep [0, 1] (by decide) (by simp)
        go_roundg (n - (j + 1))
        case measure => omega
        case rel => exact ⟨j + 1, by omega, by omega, by first | rfl | trivial | go_num, HF, by simpa [pick, S] using st'⟩
    · obtain rfl : j = n := by omega
      have HF : Hid (decide ((⟨kk, (ho, hd), nw, (bo, bd), (co, cd), we⟩ : CredT) ∈ l) = false) := Lib.hid (by rw [decide_eq_false_iff_not]; have := HT.out; rwa [List.take_of_length_le (by have := HNL.out; omega)] at this)
      go_wp2_with fail
      go_ret
      exact ⟨by rw [HF.out]; rfl, st.ext0⟩
set_option maxRecDepth 100000 in
set_option maxHeartbeats 1000000 in
theorem refCredSame_any (a : Option Addr) (n c : Nat) (l : List CredT) (a' : Option Addr) (n' c' : Nat) (l' : List CredT) (W : World) (h : Fl W a n l) (h' : Fl W a' n' l') (hn : n ≤ 9000000000000000000) (hn' : n' ≤ 9000000000000000000) :
    Calls Try.prog 27 #[.slice a n c, .slice a' n' c'] W fun e w' => e = .returned (.bool (decide (l = l'))) ∧ Ext W w' := by
  have H := Lib.hid h
  have H' := Lib.hid h'
  have HNL := Lib.hid (And.intro h.1 h'.1)
  clear h h'
  have st := Own.startOld W
  (try simp only [nsl, Value.cells, unB] at st)
  (try clear hc); have hc := st.facts; (try simp only [nfl, nft, Nat.reduceAdd] at hc)
  by_cases hnn : n = n'
  · subst hnn
    go_enter Try.func27, Try.ntmps27
    go_wp2_with fail
    go_loopw [13] (fun i wr => ∃ (j : Nat), j ≤ n ∧ i = .int .i64 (j : Int) ∧ Hid (l.take j = l'.take j) ∧ Own (fun _ => False) (fun _ => True) W [oldI W] wr) (fun i _ => n - (intOf i).toNat)
    case atStart => exact ⟨0, by omega, rfl, Lib.hid (by simp), st⟩
    case round =>
      obtain ⟨j, hj, rfl, HT, st'⟩ := hrel
      clear st hc
      have st := st'
      clear st'
      (try simp only [nsl, Value.cells, unB] at st)
      (try clear hc); have hc := st.facts; (try simp only [nfl, nft, Nat.reduceAdd] at hc)
      by_cases hjn : j < n
      · obtain ⟨b, off, ha, hcell⟩ := H.out.cred (by omega)
        obtain ⟨b', off', ha', hcell'⟩ := H'.out.cred (by omega)
        have hjl : j < l.length := by have := HNL.out; omega
        have hjl' : j < l'.length := by have := HNL.out; omega
        have HC := Lib.hid (And.intro (hcell j l[j] (List.getElem?_eq_getElem hjl)) (hcell' j l'[j] (List.getElem?_eq_getElem hjl')))
        have hts : l.take (j + 1) = l.take j ++ [l[j]] := (List.take_append_getElem hjl).symm
        have hts' : l'.take (j + 1) = l'.take j ++ [l'[j]] := (List.take_append_getElem hjl').symm
        have hne : l[j] ≠ l'[j] → l ≠ l' := fun h1 h2 => h1 (by subst h2; rfl)
        clear hcell hcell'
        generalize l[j] = x at *
        generalize l'[j] = y at *
        obtain ⟨kk, ⟨ho, hd⟩, nw, ⟨bo, bd⟩, ⟨co, cd⟩, we⟩ := x
        obtain ⟨kk', ⟨ho', hd'⟩, nw', ⟨bo', bd'⟩, ⟨co', cd'⟩, we'⟩ := y
        have HX := Lib.hid (And.intro hts (And.intro hts' hne))
        clear hts hts' hne
        subst ha
        subst ha'
        simp only at HC
        unfold S at HC
        go_wp2_with fail
        refine Rg4.wp_region4_eq #[0, 0, 3, 7, 0, 0, 48, 112, 255] [] [3, 7] (fun _ => True) [0, 1, 2, 3, 4, 5, 6, 7, 8] (by kernel_rfl) (by kernel_rfl) (by kernel_rfl) (by kernel_rfl) (show Rg4.PB _ by repeat (first | with_reducible exact Rg4.pb_body | with_reducible exact Rg4.pb_bodyD rfl | with_reducible refine Rg4.pb_then ?_ | with_reducible refine Rg4.pb_inBlock ?_ | with_reducible refine Rg4.pb_noGoto ?_)) (trivial) ?_
        replace st := st.drew
        change Rg4.wp4 _ _ _ _ _ _ _ _ _ (World.drew _) _ _
        generalize World.drew _ = w at st ⊢
        (try clear hc); have hc := st.facts; (try simp only [nfl, nft, Nat.reduceAdd] at hc)
        iterate 3 (refine Rg4.w4_any (Rg4.want_none rfl) rfl ?_; apply Exists.intro; refine ⟨fun w' => ?_, ?_⟩; (focus (first | (go_simp; done) | (go_simp; first | rfl | (rw [if_neg] <;> first | rfl | omega) | (rw [if_pos] <;> first | rfl | omega)))); (try simp only [Rg4.nrm]))
        (refine Rg4.w4_read (Rg4.want_none rfl) rfl rfl ?_; apply Exists.intro; refine ⟨fun w' hw' hcl' => ?_, ?_⟩; focus (subst hw'; have r0 := st.oldCell (i := 0) get0 HC.out.1.1; have r1 := st.oldCell (i := 0) get0 HC.out.1.2.1; have r2 := st.oldCell (i := 0) get0 HC.out.1.2.2.1; have r3 := st.oldCell (i := 0) get0 HC.out.1.2.2.2.1; have r4 := st.oldCell (i := 0) get0 HC.out.1.2.2.2.2.1; have r5 := st.oldCell (i := 0) get0 HC.out.1.2.2.2.2.2.1; have r6 := st.oldCell (i := 0) get0 HC.out.1.2.2.2.2.2.2.1; have r7 := st.oldCell (i := 0) get0 HC.out.1.2.2.2.2.2.2.2.1; have r8 := st.oldCell (i := 0) get0 HC.out.1.2.2.2.2.2.2.2.2; have s0 := st.oldCell (i := 0) get0 HC.out.2.1; have s1 := st.oldCell (i := 0) get0 HC.out.2.2.1; have s2 := st.oldCell (i := 0) get0 HC.out.2.2.2.1; have s3 := st.oldCell (i := 0) get0 HC.out.2.2.2.2.1; have s4 := st.oldCell (i := 0) get0 HC.out.2.2.2.2.2.1; have s5 := st.oldCell (i := 0) get0 HC.out.2.2.2.2.2.2.1; have s6 := st.oldCell (i := 0) get0 HC.out.2.2.2.2.2.2.2.1; have s7 := st.oldCell (i := 0) get0 HC.out.2.2.2.2.2.2.2.2.1; have s8 := st.oldCell (i := 0) get0 HC.out.2.2.2.2.2.2.2.2.2; (focus (first | (go_simp; done) | (go_simp; first | rfl | (rw [if_neg] <;> first | rfl | omega) | (rw [if_pos] <;> first | rfl | omega))))); (try simp only [Rg4.nrm]))
        iterate 3 (refine Rg4.w4_any (Rg4.want_none rfl) rfl ?_; apply Exists.intro; refine ⟨fun w' => ?_, ?_⟩; (focus (first | (go_simp; done) | (go_simp; first | rfl | (rw [if_neg] <;> first | rfl | omega) | (rw [if_pos] <;> first | rfl | omega)))); (try simp only [Rg4.nrm]))
        (refine Rg4.w4_read (Rg4.want_none rfl) rfl rfl ?_; apply Exists.intro; refine ⟨fun w' hw' hcl' => ?_, ?_⟩; focus (subst hw'; have r0 := st.oldCell (i := 0) get0 HC.out.1.1; have r1 := st.oldCell (i := 0) get0 HC.out.1.2.1; have r2 := st.oldCell (i := 0) get0 HC.out.1.2.2.1; have r3 := st.oldCell (i := 0) get0 HC.out.1.2.2.2.1; have r4 := st.oldCell (i := 0) get0 HC.out.1.2.2.2.2.1; have r5 := st.oldCell (i := 0) get0 HC.out.1.2.2.2.2.2.1; have r6 := st.oldCell (i := 0) get0 HC.out.1.2.2.2.2.2.2.1; have r7 := st.oldCell (i := 0) get0 HC.out.1.2.2.2.2.2.2.2.1; have r8 := st.oldCell (i := 0) get0 HC.out.1.2.2.2.2.2.2.2.2; have s0 := st.oldCell (i := 0) get0 HC.out.2.1; have s1 := st.oldCell (i := 0) get0 HC.out.2.2.1; have s2 := st.oldCell (i := 0) get0 HC.out.2.2.2.1; have s3 := st.oldCell (i := 0) get0 HC.out.2.2.2.2.1; have s4 := st.oldCell (i := 0) get0 HC.out.2.2.2.2.2.1; have s5 := st.oldCell (i := 0) get0 HC.out.2.2.2.2.2.2.1; have s6 := st.oldCell (i := 0) get0 HC.out.2.2.2.2.2.2.2.1; have s7 := st.oldCell (i := 0) get0 HC.out.2.2.2.2.2.2.2.2.1; have s8 := st.oldCell (i := 0) get0 HC.out.2.2.2.2.2.2.2.2.2; (focus (first | (go_simp; done) | (go_simp; first | rfl | (rw [if_neg] <;> first | rfl | omega) | (rw [if_pos] <;> first | rfl | omega))))); (try simp only [Rg4.nrm]))
        (refine Rg4.w4_any (Rg4.want_none rfl) rfl ?_; apply Exists.intro; refine ⟨fun w' => ?_, ?_⟩; (focus (first | (go_simp; done) | (go_simp; first | rfl | (rw [if_neg] <;> first | rfl | omega) | (rw [if_pos] <;> first | rfl | omega)))); (try simp only [Rg4.nrm]))
        refine Rg4.w4_nil (fun w' hw' hcl' _ => ?_); subst hw'; clear hcl'
        cases hxy : credEq (⟨kk, (ho, hd), nw, (bo, bd), (co, cd), we⟩ : CredT) (⟨kk', (ho', hd'), nw', (bo', bd'), (co', cd'), we'⟩ : CredT) with
        | true =>
          have hb : (!true) = false := rfl
          have HF : Hid (l.take (j + 1) = l'.take (j + 1)) := Lib.hid (by rw [credEq_eq, decide_eq_true_eq] at hxy; rw [HX.out.1, HX.out.2.1, HT.out, hxy])
          clear hxy
          simp only [hb]
          go_wp2_with fail
          exact ⟨⟨j + 1, by omega, by go_num, HF, st⟩, by simp [intOf]; omega⟩
        | false =>
          have hb : (!false) = true := rfl
          have HF : Hid (l ≠ l') := Lib.hid (HX.out.2.2 (by rw [credEq_eq, decide_eq_false_iff_not] at hxy; exact hxy))
          clear hxy
          simp only [hb]
          go_wp2_with fail
          go_ret
          exact ⟨by rw [decide_eq_false HF.out]; rfl, st.ext0⟩
      · obtain rfl : j = n := by omega
        have HF : Hid (l = l') := Lib.hid (by have := HT.out; rw [List.take_of_length_le (by have := HNL.out; omega), List.take_of_length_le (by have := HNL.out; omega)] at this; exact this)
        go_wp2_with fail
        go_ret
        exact ⟨by rw [decide_eq_true HF.out]; rfl, st.ext0⟩
  · have HF : Hid (l ≠ l') := Lib.hid (fun h => hnn (by rw [HNL.out.1, HNL.out.2, h]))
    go_enter Try.func27, Try.ntmps27
    go_wp2_with fail
    go_ret
    exact ⟨by rw [decide_eq_false HF.out]; rfl, st.ext0⟩
set_option maxRecDepth 100000 in
set_option maxHeartbeats 1000000 in
theorem credIndex_any (a : Option Addr) (n c : Nat) (l : List CredT) (y : CredT) (W : World) (h : Fl W a n l) (hn : n ≤ 2000000) :
    Calls Try.prog 206 #[.slice a n c, cV y] W fun e w' => ∃ v : Int, e = .returned (.int .i64 v) ∧ (0 ≤ v ↔ y ∈ l) ∧ Ext W w' := by
  have H := Lib.hid h
  have HNL := Lib.hid h.1
  clear h
  obtain ⟨kk, ⟨ho, hd⟩, nw, ⟨bo, bd⟩, ⟨co, cd⟩, we⟩ := y
  have st := Own.startOld W
  unfold cV S
  (try simp only [nsl, Value.cells, unB] at st)
  (try clear hc); have hc := st.facts; (try simp only [nfl, nft, Nat.reduceAdd] at hc)
  go_enter Try.func206, Try.ntmps206
  go_wp2_with ((((with_reducible refine wl_box ?_ (fun K hK => ?_)); rfl; refine owp_box (o := ⟨some 3, _, _, _, _, _⟩) rfl st ?_; apply Exists.intro; refine ⟨?_, ?_⟩; (focus (go_simp; try rfl)); (clear st; intro b3 w hb st; clear hb))); (try simp only [nsl, Value.cells, unB] at st); (try clear hc); have hc := st.facts; (try simp only [nfl, nft, Nat.reduceAdd] at hc))
  go_loopg [8] n (fun k i wr => ∃ (j : Nat), j ≤ n ∧ k = n - j ∧ i = .int .i64 (j : Int) ∧ Hid ((⟨kk, (ho, hd), nw, (bo, bd), (co, cd), we⟩ : CredT) ∉ l.take j) ∧ Own (fun _ => False) (fun _ => True) W [oldI W, blkI b3 [.int .i64 kk, S ho, S hd, S nw, S bo, S bd, S co, S cd, S we]] wr)
  case atStart => exact ⟨0, by omega, by omega, rfl, Lib.hid (by simp), st⟩
  case round =>
    obtain ⟨j, hj, rfl, rfl, HT, st'⟩ := hrel
    clear st hc
    have st := st'
    clear st'
    unfold S at st
    (try simp only [nsl, Value.cells, unB] at st)
    (try clear hc); have hc := st.facts; (try simp only [nfl, nft, Nat.reduceAdd] at hc)
    by_cases hjn : j < n
    · obtain ⟨b, off, ha, hcell⟩ := H.out.cred (by omega)
      have hjl : j < l.length := by have := HNL.out; omega
      have HC := Lib.hid (hcell j l[j] (List.getElem?_eq_getElem hjl))
      have hts : l.take (j + 1) = l.take j ++ [l[j]] := (List.take_append_getElem hjl).symm
      have hmem := List.getElem_mem hjl
      clear hcell
      generalize l[j] = x at *
      obtain ⟨kk', ⟨ho', hd'⟩, nw', ⟨bo', bd'⟩, ⟨co', cd'⟩, we'⟩ := x
      have HX := Lib.hid (And.intro hts hmem)
      clear hts hmem
      subst ha
      simp only at HC
      unfold S at HC
      go_wp2_with fail
      refine Rg4.wp_region4_eq #[0, 0, 0, 6, 14, 31] [] [0, 4] (fun _ => True) [0, 1, 2, 3, 4, 5] (by kernel_rfl) (by kernel_rfl) (by kernel_rfl) (by kernel_rfl) (show Rg4.PB _ by repeat (first | with_reducible exact Rg4.pb_body | with_reducible exact Rg4.pb_bodyD rfl | with_reducible refine Rg4.pb_then ?_ | with_reducible refine Rg4.pb_inBlock ?_ | with_reducible refine Rg4.pb_noGoto ?_)) (trivial) ?_
      replace st := st.drew
      change Rg4.wp4 _ _ _ _ _ _ _ _ _ (World.drew _) _ _
      generalize World.drew _ = w at st ⊢
      (try clear hc); have hc := st.facts; (try simp only [nfl, nft, Nat.reduceAdd] at hc)
      (refine Rg4.w4_read (Rg4.want_none rfl) rfl rfl ?_; apply Exists.intro; refine ⟨fun w' hw' hcl' => ?_, ?_⟩; focus (subst hw'; have r0 := st.oldCell (i := 0) get0 HC.out.1; have r1 := st.oldCell (i := 0) get0 HC.out.2.1; have r2 := st.oldCell (i := 0) get0 HC.out.2.2.1; have r3 := st.oldCell (i := 0) get0 HC.out.2.2.2.1; have r4 := st.oldCell (i := 0) get0 HC.out.2.2.2.2.1; have r5 := st.oldCell (i := 0) get0 HC.out.2.2.2.2.2.1; have r6 := st.oldCell (i := 0) get0 HC.out.2.2.2.2.2.2.1; have r7 := st.oldCell (i := 0) get0 HC.out.2.2.2.2.2.2.2.1; have r8 := st.oldCell (i := 0) get0 HC.out.2.2.2.2.2.2.2.2; (focus (first | (go_simp; done) | (go_simp; first | rfl | (rw [if_neg] <;> first | rfl | omega) | (rw [if_pos] <;> first | rfl | omega))))); (try simp only [Rg4.nrm]))
      iterate 3 (refine Rg4.w4_any (Rg4.want_none rfl) rfl ?_; apply Exists.intro; refine ⟨fun w' => ?_, ?_⟩; (focus (first | (go_simp; done) | (go_simp; first | rfl | (rw [if_neg] <;> first | rfl | omega) | (rw [if_pos] <;> first | rfl | omega)))); (try simp only [Rg4.nrm]))
      (refine Rg4.w4_read (Rg4.want_none rfl) rfl rfl ?_; apply Exists.intro; refine ⟨fun w' hw' hcl' => ?_, ?_⟩; focus (subst hw'; have r0 := st.oldCell (i := 0) get0 HC.out.1; have r1 := st.oldCell (i := 0) get0 HC.out.2.1; have r2 := st.oldCell (i := 0) get0 HC.out.2.2.1; have r3 := st.oldCell (i := 0) get0 HC.out.2.2.2.1; have r4 := st.oldCell (i := 0) get0 HC.out.2.2.2.2.1; have r5 := st.oldCell (i := 0) get0 HC.out.2.2.2.2.2.1; have r6 := st.oldCell (i := 0) get0 HC.out.2.2.2.2.2.2.1; have r7 := st.oldCell (i := 0) get0 HC.out.2.2.2.2.2.2.2.1; have r8 := st.oldCell (i := 0) get0 HC.out.2.2.2.2.2.2.2.2; (focus (first | (go_simp; done) | (go_simp; first | rfl | (rw [if_neg] <;> first | rfl | omega) | (rw [if_pos] <;> first | rfl | omega))))); (try simp only [Rg4.nrm]))
      (refine Rg4.w4_any (Rg4.want_none rfl) rfl ?_; apply Exists.intro; refine ⟨fun w' => ?_, ?_⟩; (focus (first | (go_simp; done) | (go_simp; first | rfl | (rw [if_neg] <;> first | rfl | omega) | (rw [if_pos] <;> first | rfl | omega)))); (try simp only [Rg4.nrm]))
      refine Rg4.w4_nil (fun w' hw' hcl' _ => ?_); subst hw'; clear hcl'
      cases hr : credEq (⟨kk, (ho, hd), nw, (bo, bd), (co, cd), we⟩ : CredT) (⟨kk', (ho', hd'), nw', (bo', bd'), (co', cd'), we'⟩ : CredT) with
      | true =>
        have HF : Hid ((⟨kk, (ho, hd), nw, (bo, bd), (co, cd), we⟩ : CredT) ∈ l) := Lib.hid (by rw [credEq_eq, decide_eq_true_eq] at hr; rw [hr]; exact HX.out.2)
        clear hr
        go_wp2_with fail
        go_ret
        exact ⟨_, rfl, ⟨fun _ => HF.out, fun _ => by omega⟩, st.ext0⟩
      | false =>
        have HF : Hid ((⟨kk, (ho, hd), nw, (bo, bd), (co, cd), we⟩ : CredT) ∉ l.take (j + 1)) := Lib.hid (by
          rw [credEq_eq, decide_eq_false_iff_not] at hr
          rw [HX.out.1]
          intro q
          rcases List.mem_append.1 q with q | q
          · exact HT.out q
          · exact hr (List.mem_singleton.1 q))
        clear hr
        go_wp2_with fail
        go_roundg (n - (j + 1))
        case measure => omega
        case rel => exact ⟨j + 1, by omega, by omega, by first | rfl | trivial | go_num, HF, by simpa [S] using st⟩
    · obtain rfl : j = n := by omega
      have HF : Hid ((⟨kk, (ho, hd), nw, (bo, bd), (co, cd), we⟩ : CredT) ∉ l) := Lib.hid (by have := HT.out; rwa [List.take_of_length_le (by have := HNL.out; omega)] at this)
      go_wp2_with fail
      go_ret
      exact ⟨_, rfl, ⟨fun q => by omega, fun q => absurd q HF.out⟩, st.ext0⟩
set_option maxRecDepth 100000 in
set_option maxHeartbeats 1000000 in
theorem credContains_any (a : Option Addr) (n c : Nat) (l : List CredT) (y : CredT) (W : World) (h : Fl W a n l) (hn : n ≤ 2000000) :
    Calls Try.prog 171 #[.slice a n c, cV y] W fun e w' => e = .returned (.bool (decide (y ∈ l))) ∧ Ext W w' := by
  have H := Lib.hid h
  clear h
  have HI := Lib.hid (credIndex_any a n c l y)
  obtain ⟨kk, ⟨ho, hd⟩, nw, ⟨bo, bd⟩, ⟨co, cd⟩, we⟩ := y
  have st := Own.startOld W
  unfold cV S at *
  (try simp only [nsl, Value.cells, unB] at st)
  (try clear hc); have hc := st.facts; (try simp only [nfl, nft, Nat.reduceAdd] at hc)
  go_enter Try.func171, Try.ntmps171
  go_wp2_with ((((with_reducible refine wl_box ?_ (fun K hK => ?_)); rfl; refine owp_box (o := ⟨some 3, _, _, _, _, _⟩) rfl st ?_; apply Exists.intro; refine ⟨?_, ?_⟩; (focus (go_simp; try rfl)); (clear st; intro b3 w hb st; clear hb))); (try simp only [nsl, Value.cells, unB] at st); (try clear hc); have hc := st.facts; (try simp only [nfl, nft, Nat.reduceAdd] at hc))
  refine (HI.out _ (st.oldFl (i := 0) get0 H.out) hn).mono ?_
  rintro en w' ⟨v, rfl, hv, hx⟩
  replace st := st.ext hx
  clear hx
  by_cases h0 : 0 ≤ v
  · have HF : Hid ((⟨kk, (ho, hd), nw, (bo, bd), (co, cd), we⟩ : CredT) ∈ l) := Lib.hid (hv.1 h0)
    clear hv
    go_wp2_with fail
    go_ret
    exact ⟨by rw [decide_eq_true HF.out]; simp [h0], st.ext0⟩
  · have HF : Hid ((⟨kk, (ho, hd), nw, (bo, bd), (co, cd), we⟩ : CredT) ∉ l) := Lib.hid (fun q => h0 (hv.2 q))
    clear hv
    go_wp2_with fail
    go_ret
    exact ⟨by rw [decide_eq_false HF.out]; simp; omega, st.ext0⟩
end Go.Proofs.Ytekngjkjgmplpaa

namespace Go.Proofs.Ytekngjkjgmplpaa
set_option linter.unusedSimpArgs false
set_option linter.unusedVariables false
open Go Go.RowKit
/-- How great credentials are. -/
def wtC (x : CredT) : Nat := 20 + x.h.1.length + x.h.2.length + x.w.length + x.b.1.length + x.b.2.length + x.c.1.length + x.c.2.length + x.e.length
def weightC (l : List CredT) : Nat := (l.map wtC).sum
theorem weightC_snoc (l : List CredT) (x : CredT) : weightC (l ++ [x]) = weightC l + wtC x := by simp [weightC]
theorem weightC_cons (l : List CredT) (x : CredT) : weightC (x :: l) = wtC x + weightC l := by simp [weightC]
theorem weightC_take : ∀ (l : List CredT) (j : Nat), weightC (l.take j) ≤ weightC l
  | [], j => by simp [weightC]
  | x :: l, 0 => by simp [weightC]
  | x :: l, j + 1 => by have := weightC_take l j; rw [List.take_succ_cons, weightC_cons, weightC_cons]; omega
theorem weightC_len : ∀ (l : List CredT), 20 * l.length ≤ weightC l
  | [] => by simp [weightC]
  | x :: l => by have := weightC_len l; rw [weightC_cons, List.length_cons]; unfold wtC; omega
theorem weightC_mem : ∀ (l : List CredT) (x : CredT), x ∈ l → wtC x ≤ weightC l
  | [], x, h => by simp at h
  | y :: l, x, h => by
    rw [weightC_cons]
    rcases List.mem_cons.1 h with e | e
    · subst e; omega
    · have := weightC_mem l x e; omega
theorem wtC_L {x : CredT} (h : wtC x ≤ 100000) : CredL 100000 x := by unfold wtC at h; unfold CredL; omega
set_option maxRecDepth 100000 in
set_option maxHeartbeats 1000000 in
theorem credGreat_any (a : Option Addr) (n c : Nat) (l : List CredT) (W : World) (h : Fl W a n l) (hw : weightC l ≤ 2000000000) :
    Calls Try.prog 35 #[.slice a n c] W fun e w' => e = .returned (.int .i64 (weightC l : Int)) ∧ Ext W w' := by
  have hnw : n ≤ 2000000000 := by have := weightC_len l; have := h.1; omega
  have H := Lib.hid h
  have HN := Lib.hid (And.intro h.1 hw)
  have st := Own.startOld W
  clear h hw
  (try simp only [nsl, Value.cells, unB] at st)
  (try clear hc); have hc := st.facts; (try simp only [nfl, nft, Nat.reduceAdd] at hc)
  go_enter Try.func35, Try.ntmps35
  go_wp2_with fail
  go_loopg [3, 8] n (fun k v i wr => ∃ (j q : Nat), j ≤ n ∧ k = n - j ∧ q ≤ 2000000000 ∧ Hid (q = weightC (l.take j)) ∧ i = .int .i64 (j : Int) ∧ v = .int .i64 (q : Int) ∧ Own (fun _ => False) (fun _ => True) W [oldI W] wr)
  case atStart => exact ⟨0, 0, by omega, by omega, by omega, Lib.hid (by simp [weightC]), rfl, rfl, st⟩
  case round =>
    obtain ⟨j, q, hj, rfl, hq, HQ, rfl, rfl, st'⟩ := hrel
    clear st hc
    have st := st'
    clear st'
    (try simp only [nsl, Value.cells, unB] at st)
    (try clear hc); have hc := st.facts; (try simp only [nfl, nft, Nat.reduceAdd] at hc)
    by_cases hjn : j < n
    · obtain ⟨b, off, ha, hcell⟩ := H.out.cred (by omega)
      have hjl : j < l.length := by have := HN.out.1; omega
      have hcc := hcell j l[j] (List.getElem?_eq_getElem hjl)
      obtain ⟨r0, r1, r2, r3, r4, r5, r6, r7, r8⟩ := hcc
      replace r0 := st.oldCell (i := 0) get0 r0
      replace r1 := st.oldCell (i := 0) get0 r1
      replace r2 := st.oldCell (i := 0) get0 r2
      replace r3 := st.oldCell (i := 0) get0 r3
      replace r4 := st.oldCell (i := 0) get0 r4
      replace r5 := st.oldCell (i := 0) get0 r5
      replace r6 := st.oldCell (i := 0) get0 r6
      replace r7 := st.oldCell (i := 0) get0 r7
      replace r8 := st.oldCell (i := 0) get0 r8
      have hts : l.take (j + 1) = l.take j ++ [l[j]] := (List.take_append_getElem hjl).symm
      have hw1 := weightC_take l (j + 1)
      rw [hts, weightC_snoc, ← HQ.out] at hw1
      have hw2 : q + wtC l[j] ≤ 2000000000 := by have := HN.out.2; omega
      have HX : Hid (q + wtC l[j] = weightC (l.take (j + 1))) := Lib.hid (by rw [hts, weightC_snoc, ← HQ.out])
      clear hcell hts hw1
      generalize l[j] = x at *
      clear hjl
      subst ha
      unfold S at r1 r2 r3 r4 r5 r6 r7 r8
      have hszz : ∀ s : List UInt8, (⟨s.toArray⟩ : ByteArray).size = s.length := fun s => by simp [ByteArray.size]
      have HW : Hid (wtC x = 20 + x.h.1.length + x.h.2.length + x.w.length + x.b.1.length + x.b.2.length + x.c.1.length + x.c.2.length + x.e.length) := Lib.hid rfl
      have hw3 : q + (20 + x.h.1.length + x.h.2.length + x.w.length + x.b.1.length + x.b.2.length + x.c.1.length + x.c.2.length + x.e.length) ≤ 2000000000 := by rw [← HW.out]; exact hw2
      clear hw2
      go_wp2_with ((first
            | ((with_reducible refine wl_alloc ?_ (fun K hK => ?_)); rfl; refine owp_alloc (o := ⟨some 5, _, _, _, _, _⟩) rfl st ?_; apply Exists.intro; apply Exists.intro; refine ⟨?_, ?_⟩; (focus (first | (go_simp; done) | (go_simp; rfl))); (clear st; intro b5 w hb st; clear hb))
            | ((with_reducible refine wl_store ?_ (fun K hK => ?_)); rfl; refine owp_store rfl st ?_; apply Exists.intro; apply Exists.intro; refine ⟨?_, ?_, ?_⟩; (focus (go_simp; try rfl)); (focus (go_simp; try rfl)); (first | (with_reducible refine ⟨0, _, _, _, _, get0, rfl, rfl, ?_, ?_, ?_, ?_⟩) | (with_reducible refine ⟨1, _, _, _, _, get1, rfl, rfl, ?_, ?_, ?_, ?_⟩) | (with_reducible refine ⟨2, _, _, _, _, get2, rfl, rfl, ?_, ?_, ?_, ?_⟩) | (with_reducible refine ⟨3, _, _, _, _, get3, rfl, rfl, ?_, ?_, ?_, ?_⟩) | (with_reducible refine ⟨4, _, _, _, _, get4, rfl, rfl, ?_, ?_, ?_, ?_⟩) | (with_reducible refine ⟨5, _, _, _, _, get5, rfl, rfl, ?_, ?_, ?_, ?_⟩)); (kernel_rfl); (simp [Value.cells]); (rfl); (clear st; intro w st))); (try simp only [nsl, Value.cells, unB] at st); (try clear hc); have hc := st.facts; (try simp only [nfl, nft, Nat.reduceAdd] at hc))
      have st' := st.keep [0] (by decide) (by simp)
      go_roundg (n - (j + 1))
      case measure => omega
      case rel => exact ⟨j + 1, q + (20 + x.h.1.length + x.h.2.length + x.w.length + x.b.1.length + x.b.2.length + x.c.1.length + x.c.2.length + x.e.length), by omega, rfl, hw3, by rw [← HW.out]; exact HX, by go_num, by go_num, by simpa [pick] using st'⟩
    · obtain rfl : j = n := by omega
      have htk : weightC l = q := by rw [HQ.out, List.take_of_length_le (by have := HN.out.1; omega)]
      have HE := Lib.hid htk
      clear htk
      go_wp2_with fail
      go_ret
      exact ⟨by rw [HE.out]; rfl, st.ext0⟩
end Go.Proofs.Ytekngjkjgmplpaa

namespace Go.Proofs.Ytekngjkjgmplpaa
set_option linter.unusedSimpArgs false
set_option linter.unusedVariables false
open Go Go.RowKit
def wtSg (x : SgnT) : Nat := wtC x.c + x.n
def weightSg (l : List SgnT) : Nat := (l.map wtSg).sum
theorem weightSg_cons (x : SgnT) (l : List SgnT) : weightSg (x :: l) = wtSg x + weightSg l := by simp [weightSg]
theorem weightSg_take (l : List SgnT) (j : Nat) (h : j < l.length) : weightSg (l.take (j + 1)) = weightSg (l.take j) + wtSg l[j] := by
  rw [← List.take_append_getElem h]; simp only [weightSg, List.map_append, List.sum_append, List.map_cons, List.map_nil, List.sum_cons, List.sum_nil, Nat.add_zero]
theorem weightSg_le : ∀ (l : List SgnT) (j : Nat), weightSg (l.take j) ≤ weightSg l
  | [], j => by simp
  | x :: l, 0 => by simp [weightSg]
  | x :: l, j + 1 => by have := weightSg_le l j; rw [List.take_succ_cons, weightSg_cons, weightSg_cons]; omega
theorem weightSg_len : ∀ (l : List SgnT), 20 * l.length ≤ weightSg l
  | [] => by simp
  | x :: l => by have := weightSg_len l; rw [weightSg_cons, List.length_cons]; unfold wtSg wtC; omega
theorem weightSg_mem : ∀ (l : List SgnT) (x : SgnT), x ∈ l → wtSg x ≤ weightSg l
  | [], x, h => by simp at h
  | y :: l, x, h => by
    rw [weightSg_cons]
    rcases List.mem_cons.1 h with e | e
    · subst e; omega
    · have := weightSg_mem l x e; omega
def wtR (r : Role) : Nat := 5 + r.1.length + r.2.length
def weightW (l : List Role) : Nat := (l.map wtR).sum
theorem weightW_cons (x : Role) (l : List Role) : weightW (x :: l) = wtR x + weightW l := by simp [weightW]
theorem weightW_take (l : List Role) (j : Nat) (h : j < l.length) : weightW (l.take (j + 1)) = weightW (l.take j) + wtR l[j] := by
  rw [← List.take_append_getElem h]; simp only [weightW, List.map_append, List.sum_append, List.map_cons, List.map_nil, List.sum_cons, List.sum_nil, Nat.add_zero]
theorem weightW_le : ∀ (l : List Role) (j : Nat), weightW (l.take j) ≤ weightW l
  | [], j => by simp
  | x :: l, 0 => by simp [weightW]
  | x :: l, j + 1 => by have := weightW_le l j; rw [List.take_succ_cons, weightW_cons, weightW_cons]; omega
theorem weightW_len : ∀ (l : List Role), 5 * l.length ≤ weightW l
  | [] => by simp
  | x :: l => by have := weightW_len l; rw [weightW_cons, List.length_cons]; unfold wtR; omega
theorem weightW_mem : ∀ (l : List Role) (x : Role), x ∈ l → wtR x ≤ weightW l
  | [], x, h => by simp at h
  | y :: l, x, h => by
    rw [weightW_cons]
    rcases List.mem_cons.1 h with e | e
    · subst e; omega
    · have := weightW_mem l x e; omega
/-- How great a message is. -/
def weightM (x : MsgT) : Nat := x.nm.length + weightSg x.ss + weightW x.ws
theorem weightM_L {W : World} {x : MsgT} (hx : MgOk W x) (h : weightM x ≤ 100000) : MgL x := by
  unfold weightM at h
  have h1 := weightSg_len x.ss
  have h2 := weightW_len x.ws
  have h3 := hx.1.2.1
  have h4 := hx.2.1.2.1
  refine ⟨by omega, by omega, by omega, fun r hr => ?_, fun y hy => ?_⟩
  · have := weightW_mem _ r hr
    unfold wtR at this
    omega
  · have := weightSg_mem _ y hy
    unfold wtSg wtC at this
    unfold CLenS
    omega
set_option maxRecDepth 100000 in
set_option maxHeartbeats 4000000 in
theorem sgGreat_any (a : Option Addr) (n c : Nat) (l : List SgnT) (W : World) (h : Fl W a n l) (hw : weightSg l ≤ 2000000000) :
    Calls Try.prog 22 #[.slice none 0 0, .slice a n c] W fun e w' => e = .returned (.int .i64 (weightSg l : Int)) ∧ Ext W w' := by
  have hnw : n ≤ 2000000000 := by have := weightSg_len l; have := h.1; omega
  have H := Lib.hid h
  have HN := Lib.hid h.1
  have HT := Lib.hid (weightSg_le l)
  obtain ⟨wl, hwl⟩ : ∃ w, weightSg l = w := ⟨_, rfl⟩
  rw [hwl] at HT hw ⊢
  have HWL := Lib.hid hwl
  have st := Own.startOld W
  clear h hwl
  (try simp only [nsl, Value.cells, unB] at st)
  (try clear hc); have hc := st.facts; (try simp only [nfl, nft, Nat.reduceAdd] at hc)
  go_enter Try.func22, Try.ntmps22
  go_wp2_with fail
  go_loopg [5, 12] 0 (fun k v i wr => v = .int .i64 0 ∧ i = .int .i64 0 ∧ Own (fun _ => False) (fun _ => True) W [oldI W] wr)
  case atStart => exact ⟨rfl, rfl, st⟩
  case round =>
    obtain ⟨rfl, rfl, st'⟩ := hrel
    clear st hc
    have st := st'
    clear st'
    go_wp2_with fail
    go_loopg [5, 29] n (fun k s i wr => ∃ (j q : Nat), j ≤ n ∧ k = n - j ∧ i = .int .i64 (j : Int) ∧ Hid (q = weightSg (l.take j)) ∧ q ≤ wl ∧ s = .int .i64 (q : Int) ∧ Own (fun _ => False) (fun _ => True) W [oldI W] wr)
    case atStart => exact ⟨0, 0, by omega, by omega, rfl, Lib.hid (by simp [weightSg]), by omega, rfl, st⟩
    case round =>
      obtain ⟨j, q, hj, rfl, rfl, HQ, hq, rfl, st'⟩ := hrel
      clear st
      have st := st'
      clear st'
      (try simp only [nsl, Value.cells, unB] at st)
      (try clear hc); have hc := st.facts; (try simp only [nfl, nft, Nat.reduceAdd] at hc)
      by_cases hjn : j < n
      · obtain ⟨b, off, ha, hcell⟩ := H.out.sgn (by omega)
        have hjl : j < l.length := by have := HN.out; omega
        obtain ⟨r0, r1, r2, r3, r4, r5, r6, r7, r8, r9⟩ := hcell j l[j] (List.getElem?_eq_getElem hjl)
        replace r0 := st.oldCell (i := 0) get0 r0
        replace r1 := st.oldCell (i := 0) get0 r1
        replace r2 := st.oldCell (i := 0) get0 r2
        replace r3 := st.oldCell (i := 0) get0 r3
        replace r4 := st.oldCell (i := 0) get0 r4
        replace r5 := st.oldCell (i := 0) get0 r5
        replace r6 := st.oldCell (i := 0) get0 r6
        replace r7 := st.oldCell (i := 0) get0 r7
        replace r8 := st.oldCell (i := 0) get0 r8
        replace r9 := st.oldCell (i := 0) get0 r9
        have hle := HT.out (j + 1)
        have HTK := Lib.hid (weightSg_take l j hjl)
        have hq2 : q + wtSg l[j] ≤ wl := by have := HTK.out; have := HQ.out; omega
        clear hcell hle
        generalize l[j] = x at *
        subst ha
        obtain ⟨cx, a1, n1, m1, xs⟩ := x
        have HWX : Hid (wtSg ⟨cx, a1, n1, m1, xs⟩ = wtC cx + n1) := Lib.hid rfl
        rw [HWX.out] at hq2 HTK
        have HCG := Lib.hid (fun a c W h => credGreat_any a 1 c [cx] W h (by simp [weightC]; omega))
        rw [show weightC [cx] = wtC cx from by simp [weightC]] at HCG
        obtain ⟨wc, hwc⟩ : ∃ w, wtC cx = w := ⟨_, rfl⟩
        rw [hwc] at HCG hq2 HTK
        clear hwc HWX
        have z1 : IntKind.i64.wrap ((wc : Int) + (n1 : Int)) = (wc : Int) + (n1 : Int) := IntWalk.i64_in _ ⟨by omega, by omega⟩
        have z4 : IntKind.i64.wrap ((q : Int) + ((wc : Int) + (n1 : Int))) = (q : Int) + ((wc : Int) + (n1 : Int)) := IntWalk.i64_in _ ⟨by omega, by omega⟩
        obtain ⟨k, ⟨ho, hd⟩, nw, ⟨bo, bd⟩, ⟨co, cd⟩, we⟩ := cx
        simp only at r0 r1 r2 r3 r4 r5 r6 r7 r8 r9
        unfold S at r1 r2 r3 r4 r5 r6 r7 r8
        go_wp2_with ((first
              | ((with_reducible refine wl_store ?_ (fun K hK => ?_)); rfl; refine owp_store rfl st ?_; apply Exists.intro; apply Exists.intro; refine ⟨?_, ?_, ?_⟩; (focus (go_simp; try rfl)); (focus (go_simp; try rfl)); (with_reducible refine ⟨1, _, _, _, _, get1, rfl, rfl, ?_, ?_, ?_, ?_⟩); (kernel_rfl); (simp [Value.cells]); (rfl); (clear st; intro w st))
              | ((with_reducible refine wl_alloc ?_ (fun K hK => ?_)); rfl; refine owp_alloc (o := ⟨some 9, _, _, _, _, _⟩) rfl st ?_; apply Exists.intro; apply Exists.intro; refine ⟨?_, ?_⟩; (focus (first | (go_simp; done) | (go_simp; rfl))); (clear st; intro b9 w hb st; clear hb))); (try simp only [nsl, Value.cells, unB] at st); (try clear hc); have hc := st.facts; (try simp only [nfl, nft, Nat.reduceAdd] at hc))
        clear r0 r1 r2 r3 r4 r5 r6 r7 r8 r9
        refine Rg4.wp_region4_eq #[0, 0, 2, 6, 14, 0, 32, 96, 254, 511, 1023] [3, 4] [] (fun W' => Blk W' b9 [.int .i64 k, .string ⟨ho.toArray⟩, .string ⟨hd.toArray⟩, .string ⟨nw.toArray⟩, .string ⟨bo.toArray⟩, .string ⟨bd.toArray⟩, .string ⟨co.toArray⟩, .string ⟨cd.toArray⟩, .string ⟨we.toArray⟩, .slice a1 n1 m1]) [0, 1, 2, 5, 6, 7, 3, 4, 8, 9, 10] (by kernel_rfl) (by kernel_rfl) (by kernel_rfl) (by kernel_rfl) (show Rg4.PB _ by repeat (first | with_reducible exact Rg4.pb_body | with_reducible exact Rg4.pb_bodyD rfl | with_reducible refine Rg4.pb_then ?_ | with_reducible refine Rg4.pb_inBlock ?_ | with_reducible refine Rg4.pb_noGoto ?_)) (st.drew.blk (i := 1) get1) ?_
        replace st := st.drew
        change Rg4.wp4 _ _ _ _ _ _ _ _ _ (World.drew _) _ _
        generalize World.drew _ = w at st ⊢
        (try clear hc); have hc := st.facts; (try simp only [nfl, nft, Nat.reduceAdd] at hc)
        iterate 2 (refine Rg4.w4_any (Rg4.want_none rfl) rfl ?_; apply Exists.intro; refine ⟨fun w' => ?_, ?_⟩; (focus (first | (go_simp; done) | (go_simp; first | rfl | (rw [if_neg] <;> first | rfl | omega) | (rw [if_pos] <;> first | rfl | omega)))); (try simp only [Rg4.nrm]))
        (refine Rg4.w4_cl (Rg4.want_none rfl) rfl ?_; apply Exists.intro; refine ⟨fun w' hcl => ?_, ?_⟩; (focus (have q0 := Blk.cell hcl 0; have q1 := Blk.cell hcl 1; have q2 := Blk.cell hcl 2; have q3 := Blk.cell hcl 3; have q4 := Blk.cell hcl 4; have q5 := Blk.cell hcl 5; have q6 := Blk.cell hcl 6; have q7 := Blk.cell hcl 7; have q8 := Blk.cell hcl 8; have q9 := Blk.cell hcl 9; (try simp at q0 q1 q2 q3 q4 q5 q6 q7 q8 q9); (focus (first | (go_simp; done) | (go_simp; first | rfl | (rw [if_neg] <;> first | rfl | omega) | (rw [if_pos] <;> first | rfl | omega)))))); (try simp only [Rg4.nrm]))
        (refine Rg4.w4_any (Rg4.want_none rfl) rfl ?_; apply Exists.intro; refine ⟨fun w' => ?_, ?_⟩; (focus (first | (go_simp; done) | (go_simp; first | rfl | (rw [if_neg] <;> first | rfl | omega) | (rw [if_pos] <;> first | rfl | omega)))); (try simp only [Rg4.nrm]))
        (refine Rg4.w4_cl (Rg4.want_none rfl) rfl ?_; apply Exists.intro; refine ⟨fun w' hcl => ?_, ?_⟩; (focus (have q0 := Blk.cell hcl 0; have q1 := Blk.cell hcl 1; have q2 := Blk.cell hcl 2; have q3 := Blk.cell hcl 3; have q4 := Blk.cell hcl 4; have q5 := Blk.cell hcl 5; have q6 := Blk.cell hcl 6; have q7 := Blk.cell hcl 7; have q8 := Blk.cell hcl 8; have q9 := Blk.cell hcl 9; (try simp at q0 q1 q2 q3 q4 q5 q6 q7 q8 q9); (focus (first | (go_simp; done) | (go_simp; first | rfl | (rw [if_neg] <;> first | rfl | omega) | (rw [if_pos] <;> first | rfl | omega)))))); (try simp only [Rg4.nrm]))
        (refine Rg4.w4_any (Rg4.want_none rfl) rfl ?_; apply Exists.intro; refine ⟨fun w' => ?_, ?_⟩; (focus (first | (go_simp; done) | (go_simp; first | rfl | (rw [if_neg] <;> first | rfl | omega) | (rw [if_pos] <;> first | rfl | omega)))); (try simp only [Rg4.nrm]))
        (refine Rg4.w4_bar (Rg4.want_none rfl) rfl (fun w' hw' hcl' _ K hK => ?_); subst hw'; (refine owp_buildSlice (o := ⟨some 36, _, _, _, _, _⟩) rfl st ?_; apply Exists.intro; apply Exists.intro; apply Exists.intro; apply Exists.intro; refine ⟨?_, ?_⟩; (focus (go_simp; (first | done | exact ⟨⟨rfl, rfl⟩, rfl⟩ | rfl))); (clear st; intro b36 w hb st; clear hb); (try simp only [nsl, Value.cells, unB] at st); (try clear hc); have hc := st.facts; (try simp only [nfl, nft, Nat.reduceAdd] at hc)); refine hK _ _ ⟨st.blk (i := 1) get1, ?_⟩; (try simp only [Rg4.nrm]))
        refine Rg4.w4_bar (Rg4.want_none rfl) rfl (fun w' hw' hcl _ K hK => ?_)
        subst hw'
        go_wp2_with fail
        refine (HCG.out _ _ _ (fl_lit (α := CredT) (st.blk (i := 2) get2) [⟨k, (ho, hd), nw, (bo, bd), (co, cd), we⟩] rfl)).mono ?_
        rintro en w ⟨rfl, hx⟩
        replace st := st.ext hx
        clear hx
        (try clear hc); have hc := st.facts; (try simp only [nfl, nft, Nat.reduceAdd] at hc)
        refine hK _ _ ⟨st.blk (i := 1) get1, ?_⟩
        clear hK
        (try simp only [Rg4.nrm])
        iterate 3 (refine Rg4.w4_any (Rg4.want_none rfl) rfl ?_; apply Exists.intro; refine ⟨fun w' => ?_, ?_⟩; (focus (first | (go_simp; done) | (go_simp; first | rfl | (rw [if_neg] <;> first | rfl | omega) | (rw [if_pos] <;> first | rfl | omega)))); (try simp only [Rg4.nrm]))
        refine Rg4.w4_nil (fun w' hw' hcl' _ => ?_); subst hw'; clear hcl'
        go_wp2_with fail
        have st' := st.keep [0] (by decide) (by simp)
        go_roundg (n - (j + 1))
        case measure => omega
        case rel => exact ⟨j + 1, q + (wc + n1), by omega, by omega, by go_num, Lib.hid (by rw [HTK.out, HQ.out]), hq2, by go_num, by simpa [pick] using st'⟩
      · obtain rfl : j = n := by omega
        have hqw : q = wl := by
          have := HQ.out
          rw [List.take_of_length_le (by have := HN.out; omega), HWL.out] at this
          exact this
        subst hqw
        clear HT
        go_wp2_with fail
        go_ret
        exact ⟨rfl, st.ext0⟩
set_option maxRecDepth 100000 in
set_option maxHeartbeats 4000000 in
theorem msgGreat_any (x : MsgT) (W : World) (hx : MgOk W x) (hw : weightM x ≤ 2000000000) :
    Calls Try.prog 69 #[mgV x] W fun e w' => e = .returned (.int .i64 (weightM x : Int)) ∧ Ext W w' := by
  have HD : Hid (weightM x = x.nm.length + weightSg x.ss + weightW x.ws) := Lib.hid rfl
  have hw1 : x.nm.length + weightSg x.ss + weightW x.ws ≤ 2000000000 := hw
  have HX := Lib.hid hx
  have HSG := Lib.hid (fun W' h => sgGreat_any x.sa x.sn x.sc x.ss W' h (by omega))
  have HT := Lib.hid (weightW_le x.ws)
  have hn1 : x.wn ≤ 2000000000 := by have := weightW_len x.ws; have := hx.1.2.1; omega
  have HN := Lib.hid hx.1.2.1
  obtain ⟨r, hr⟩ : ∃ r, weightM x = r := ⟨_, rfl⟩
  obtain ⟨g, hg⟩ : ∃ g, weightSg x.ss = g := ⟨_, rfl⟩
  obtain ⟨wl, hwl⟩ : ∃ w, weightW x.ws = w := ⟨_, rfl⟩
  rw [hg] at HSG HD hw1
  rw [hwl] at HT HD hw1
  rw [hr] at HD ⊢
  have HWL := Lib.hid hwl
  clear hw hx hr hg hwl
  obtain ⟨k, p, e, nm, wa, wn, wc, ws, sa, sn, sc, ss⟩ := x
  unfold MgOk at HX
  simp only at HD hw1 HX HSG HT hn1 HWL HN
  have st := Own.startOld W
  unfold mgV S
  have hszz : ∀ s : List UInt8, (⟨s.toArray⟩ : ByteArray).size = s.length := fun s => by simp [ByteArray.size]
  have z0 : IntKind.i64.wrap ((nm.length : Int) + (g : Int)) = (nm.length : Int) + (g : Int) := IntWalk.i64_in _ ⟨by omega, by omega⟩
  (try simp only [nsl, Value.cells, unB] at st)
  (try clear hc); have hc := st.facts; (try simp only [nfl, nft, Nat.reduceAdd] at hc)
  go_enter Try.func69, Try.ntmps69
  go_wp2_with ((((with_reducible refine wl_box ?_ (fun K hK => ?_)); rfl; refine owp_box (o := ⟨some 1, _, _, _, _, _⟩) rfl st ?_; apply Exists.intro; refine ⟨?_, ?_⟩; (focus (go_simp; try rfl)); (clear st; intro b1 w hb st; clear hb))); (try simp only [nsl, Value.cells, unB] at st); (try clear hc); have hc := st.facts; (try simp only [nfl, nft, Nat.reduceAdd] at hc))
  refine Rg4.wp_region4_eq #[0, 1, 3, 0, 8, 24, 63, 127] [5] [] (fun W' => Blk W' b1 [.int .i64 k, .int .i64 p, .int .i64 e, .string ⟨nm.toArray⟩, .slice wa wn wc, .slice sa sn sc]) [0, 1, 2, 3, 4, 5, 6, 7] (by kernel_rfl) (by kernel_rfl) (by kernel_rfl) (by kernel_rfl) (show Rg4.PB _ by repeat (first | with_reducible exact Rg4.pb_body | with_reducible exact Rg4.pb_bodyD rfl | with_reducible refine Rg4.pb_then ?_ | with_reducible refine Rg4.pb_inBlock ?_ | with_reducible refine Rg4.pb_noGoto ?_)) (st.drew.blk (i := 1) get1) ?_
  replace st := st.drew
  change Rg4.wp4 _ _ _ _ _ _ _ _ _ (World.drew _) _ _
  generalize World.drew _ = w at st ⊢
  (try clear hc); have hc := st.facts; (try simp only [nfl, nft, Nat.reduceAdd] at hc)
  (refine Rg4.w4_any (Rg4.want_none rfl) rfl ?_; apply Exists.intro; refine ⟨fun w' => ?_, ?_⟩; (focus (first | (go_simp; done) | (go_simp; first | rfl | (rw [if_neg] <;> first | rfl | omega) | (rw [if_pos] <;> first | rfl | omega)))); (try simp only [Rg4.nrm]))
  (refine Rg4.w4_cl (Rg4.want_none rfl) rfl ?_; apply Exists.intro; refine ⟨fun w' hcl => ?_, ?_⟩; (focus (have q3 := Blk.cell hcl 3; have q5 := Blk.cell hcl 5; (try simp at q3 q5); (focus (first | (go_simp; done) | (go_simp; first | rfl | (rw [if_neg] <;> first | rfl | omega) | (rw [if_pos] <;> first | rfl | omega)))))); (try simp only [Rg4.nrm]))
  iterate 2 (refine Rg4.w4_any (Rg4.want_none rfl) rfl ?_; apply Exists.intro; refine ⟨fun w' => ?_, ?_⟩; (focus (first | (go_simp; done) | (go_simp; first | rfl | (rw [if_neg] <;> first | rfl | omega) | (rw [if_pos] <;> first | rfl | omega)))); (try simp only [Rg4.nrm]))
  (refine Rg4.w4_cl (Rg4.want_none rfl) rfl ?_; apply Exists.intro; refine ⟨fun w' hcl => ?_, ?_⟩; (focus (have q3 := Blk.cell hcl 3; have q5 := Blk.cell hcl 5; (try simp at q3 q5); (focus (first | (go_simp; done) | (go_simp; first | rfl | (rw [if_neg] <;> first | rfl | omega) | (rw [if_pos] <;> first | rfl | omega)))))); (try simp only [Rg4.nrm]))
  refine Rg4.w4_bar (Rg4.want_none rfl) rfl (fun w' hw' hcl _ K hK => ?_)
  subst hw'
  go_wp2_with fail
  refine (HSG.out _ (st.oldFl (i := 0) get0 HX.out.2.1.2)).mono ?_
  rintro en w ⟨rfl, hx⟩
  replace st := st.ext hx
  clear hx
  (try clear hc); have hc := st.facts; (try simp only [nfl, nft, Nat.reduceAdd] at hc)
  refine hK _ _ ⟨st.blk (i := 1) get1, ?_⟩
  clear hK
  (try simp only [Rg4.nrm])
  iterate 2 (refine Rg4.w4_any (Rg4.want_none rfl) rfl ?_; apply Exists.intro; refine ⟨fun w' => ?_, ?_⟩; (focus (first | (go_simp; done) | (go_simp; first | rfl | (rw [if_neg] <;> first | rfl | omega) | (rw [if_pos] <;> first | rfl | omega)))); (try simp only [Rg4.nrm]))
  refine Rg4.w4_nil (fun w' hw' hcl' _ => ?_); subst hw'; clear hcl'
  go_wp2_with fail
  go_loopg [3, 16] wn (fun kk s i wr => ∃ (j q : Nat), j ≤ wn ∧ kk = wn - j ∧ i = .int .i64 (j : Int) ∧ Hid (q = weightW (ws.take j)) ∧ q ≤ wl ∧ s = .int .i64 ((nm.length : Int) + (g : Int) + (q : Int)) ∧ Own (fun _ => False) (fun _ => True) W [oldI W] wr)
  case atStart => exact ⟨0, 0, by omega, by omega, rfl, Lib.hid (by simp [weightW]), by omega, by simp, by simpa [pick] using st.keep [0] (by decide) (by simp)⟩
  case round =>
    obtain ⟨j, q, hj, rfl, rfl, HQ, hq, rfl, st'⟩ := hrel
    clear st hc
    have st := st'
    clear st'
    (try simp only [nsl, Value.cells, unB] at st)
    (try clear hc); have hc := st.facts; (try simp only [nfl, nft, Nat.reduceAdd] at hc)
    by_cases hjn : j < wn
    · obtain ⟨b, off, ha, hcell⟩ := HX.out.1.2.role (by omega)
      have hjl : j < ws.length := by have := HN.out; omega
      obtain ⟨r0, r1⟩ := hcell j ws[j] (List.getElem?_eq_getElem hjl)
      replace r0 := st.oldCell (i := 0) get0 r0
      replace r1 := st.oldCell (i := 0) get0 r1
      have hle := HT.out (j + 1)
      have HTK := Lib.hid (weightW_take ws j hjl)
      have hq2 : q + wtR ws[j] ≤ wl := by have := HTK.out; have := HQ.out; omega
      clear hcell hle
      generalize ws[j] = x at *
      obtain ⟨ro, rd⟩ := x
      subst ha
      have HWX : Hid (wtR (ro, rd) = 5 + ro.length + rd.length) := Lib.hid rfl
      rw [HWX.out] at hq2 HTK
      clear hjl HWX
      have z1 : IntKind.i64.wrap ((5 : Int) + (ro.length : Int)) = (5 : Int) + (ro.length : Int) := IntWalk.i64_in _ ⟨by omega, by omega⟩
      have z2 : IntKind.i64.wrap ((5 : Int) + (ro.length : Int) + (rd.length : Int)) = (5 : Int) + (ro.length : Int) + (rd.length : Int) := IntWalk.i64_in _ ⟨by omega, by omega⟩
      have z3 : IntKind.i64.wrap ((nm.length : Int) + (g : Int) + (q : Int) + ((5 : Int) + (ro.length : Int) + (rd.length : Int))) = (nm.length : Int) + (g : Int) + (q : Int) + ((5 : Int) + (ro.length : Int) + (rd.length : Int)) := IntWalk.i64_in _ ⟨by omega, by omega⟩
      simp only at r0 r1
      unfold S at r0 r1
      go_wp2_with ((first
            | ((with_reducible refine wl_alloc ?_ (fun K hK => ?_)); rfl; refine owp_alloc (o := ⟨some 5, _, _, _, _, _⟩) rfl st ?_; apply Exists.intro; apply Exists.intro; refine ⟨?_, ?_⟩; (focus (first | (go_simp; done) | (go_simp; rfl))); (clear st; intro b5 w hb st; clear hb))
            | ((with_reducible refine wl_store ?_ (fun K hK => ?_)); rfl; refine owp_store rfl st ?_; apply Exists.intro; apply Exists.intro; refine ⟨?_, ?_, ?_⟩; (focus (go_simp; try rfl)); (focus (go_simp; try rfl)); (with_reducible refine ⟨1, _, _, _, _, get1, rfl, rfl, ?_, ?_, ?_, ?_⟩); (kernel_rfl); (simp [Value.cells]); (rfl); (clear st; intro w st))); (try simp only [nsl, Value.cells, unB] at st); (try clear hc); have hc := st.facts; (try simp only [nfl, nft, Nat.reduceAdd] at hc))
      have st' := st.keep [0] (by decide) (by simp)
      go_roundg (wn - (j + 1))
      case measure => omega
      case rel => exact ⟨j + 1, q + (5 + ro.length + rd.length), by omega, by omega, by go_num, Lib.hid (by rw [HTK.out, HQ.out]), hq2, by first | go_num | (simp; omega), by simpa [pick] using st'⟩
    · obtain rfl : j = wn := by omega
      have hqw : q = wl := by
        have := HQ.out
        rw [List.take_of_length_le (by have := HN.out; omega), HWL.out] at this
        exact this
      subst hqw
      have HR : Hid ((r : Int) = (nm.length : Int) + (g : Int) + (q : Int)) := Lib.hid (by rw [HD.out]; simp)
      clear HT
      go_wp2_with fail
      go_ret
      exact ⟨by rw [HR.out]; rfl, st.ext0⟩
def emptyR (x : MsgT) : Bool := decide (x.k = 2) && (decide (x.wn = 0) && decide (x.sn = 0))
set_option maxRecDepth 100000 in
set_option maxHeartbeats 1000000 in
theorem msgEmpty_any (x : MsgT) (W : World) (hx : MgOk W x) (lx : MgL x) : Calls Try.prog 77 #[mgV x] W fun e w' => e = .returned (.bool (emptyR x)) ∧ Ext W w' := by
  have HR : Hid (emptyR x = (decide (x.k = 2) && (decide (x.wn = 0) && decide (x.sn = 0)))) := Lib.hid rfl
  have l1 := lx.1
  have l2 := lx.2.1
  obtain ⟨r, hr⟩ : ∃ r, emptyR x = r := ⟨_, rfl⟩
  rw [hr] at HR ⊢
  clear hx lx hr
  obtain ⟨k, p, e, nm, wa, wn, wc, ws, sa, sn, sc, ss⟩ := x
  simp only at HR l1 l2
  have st := Own.startOld W
  unfold mgV S
  (try simp only [nsl, Value.cells, unB] at st)
  (try clear hc); have hc := st.facts; (try simp only [nfl, nft, Nat.reduceAdd] at hc)
  by_cases k2 : k = 2
  · subst k2
    by_cases h0 : wn = 0 ∧ sn = 0
    · obtain ⟨rfl, rfl⟩ := h0
      have H1 : Hid (r = true) := Lib.hid (by rw [HR.out]; rfl)
      go_enter Try.func77, Try.ntmps77
      go_wp2_with ((((with_reducible refine wl_box ?_ (fun K hK => ?_)); rfl; refine owp_box (o := ⟨some 1, _, _, _, _, _⟩) rfl st ?_; apply Exists.intro; refine ⟨?_, ?_⟩; (focus (go_simp; try rfl)); (clear st; intro b1 w hb st; clear hb))); (try simp only [nsl, Value.cells, unB] at st); (try clear hc); have hc := st.facts; (try simp only [nfl, nft, Nat.reduceAdd] at hc))
      go_ret
      exact ⟨by rw [H1.out]; rfl, st.ext0⟩
    · have H1 : Hid (r = false) := Lib.hid (by
        rw [HR.out]
        by_cases q : wn = 0
        · have : sn ≠ 0 := fun z => h0 ⟨q, z⟩
          simp [this]
        · simp [q])
      have hsb : (((wn : Int) + (sn : Int)) == 0) = false := by simp; omega
      clear h0
      go_enter Try.func77, Try.ntmps77
      go_wp2_with ((((with_reducible refine wl_box ?_ (fun K hK => ?_)); rfl; refine owp_box (o := ⟨some 1, _, _, _, _, _⟩) rfl st ?_; apply Exists.intro; refine ⟨?_, ?_⟩; (focus (go_simp; try rfl)); (clear st; intro b1 w hb st; clear hb))); (try simp only [nsl, Value.cells, unB] at st); (try clear hc); have hc := st.facts; (try simp only [nfl, nft, Nat.reduceAdd] at hc))
      go_ret
      exact ⟨by rw [H1.out]; rfl, st.ext0⟩
  · have H1 : Hid (r = false) := Lib.hid (by rw [HR.out, decide_eq_false k2]; rfl)
    have k2b : (k == 2) = false := by simpa using k2
    clear k2
    go_enter Try.func77, Try.ntmps77
    go_wp2_with ((((with_reducible refine wl_box ?_ (fun K hK => ?_)); rfl; refine owp_box (o := ⟨some 1, _, _, _, _, _⟩) rfl st ?_; apply Exists.intro; refine ⟨?_, ?_⟩; (focus (go_simp; try rfl)); (clear st; intro b1 w hb st; clear hb))); (try simp only [nsl, Value.cells, unB] at st); (try clear hc); have hc := st.facts; (try simp only [nfl, nft, Nat.reduceAdd] at hc))
    go_ret
    exact ⟨by rw [H1.out]; rfl, st.ext0⟩
end Go.Proofs.Ytekngjkjgmplpaa

namespace Go.Proofs.Ytekngjkjgmplpaa
set_option linter.unusedSimpArgs false
set_option linter.unusedVariables false
open Go Go.RowKit
set_option maxRecDepth 100000 in
set_option maxHeartbeats 2000000 in
theorem refSgBytes_any (x : SgnT) (W : World) (hx : SgOk W x) (hr : credR x.c = true) (hn : x.n = 8) :
    Calls Try.prog 144 #[sgV x] W fun e w' => e = .returned (S (sgB x)) ∧ Ext W w' := by
  have happ := ba_append
  have hb1 := credB_len2 hr
  have HCB := Lib.hid (fun W => refCredBytes_any x.c W hr)
  have hxl := hx.2.1
  have htl : x.xs.length = 8 := by omega
  have HTX := Lib.hid (fun W => refText_any x.xs W (by omega))
  have st := (Own.startOld W).addOldBy (i := 0) rfl hx.2
  obtain ⟨u, hu⟩ : ∃ u, credB x.c = u := ⟨_, rfl⟩
  have HR : Hid (sgB x = u ++ (numB x.xs.length ++ x.xs)) := Lib.hid (by rw [← hu]; unfold sgB; rw [hxl])
  rw [hu] at HCB hb1
  obtain ⟨t, ht⟩ : ∃ t, numB x.xs.length ++ x.xs = t := ⟨_, rfl⟩
  have htl2 : t.length ≤ 18 := by
    have : (numB x.xs.length).length ≤ 10 := numF_len 10 _
    rw [← ht]; simp; omega
  rw [ht] at HTX HR
  rw [HR.out]
  clear hr hu hx ht HR
  obtain ⟨⟨ck, ⟨ho, hd⟩, cw, ⟨bo, bd⟩, ⟨co, cd⟩, we⟩, a1, n1, m1, xs⟩ := x
  unfold cV S at HCB
  unfold S at HTX
  unfold sgV S
  simp only at HCB HTX st hn htl ⊢
  subst hn
  (try simp only [nsl, Value.cells, unB] at st)
  (try clear hc); have hc := st.facts; (try simp only [nfl, nft, Nat.reduceAdd] at hc)
  go_enter Try.func144, Try.ntmps144
  go_wp2_with ((((with_reducible refine wl_box ?_ (fun K hK => ?_)); rfl; refine owp_box (o := ⟨some 1, _, _, _, _, _⟩) rfl st ?_; apply Exists.intro; refine ⟨?_, ?_⟩; (focus (go_simp; try rfl)); (clear st; intro b1 w hb st; clear hb))); (try simp only [nsl, Value.cells, unB] at st); (try clear hc); have hc := st.facts; (try simp only [nfl, nft, Nat.reduceAdd] at hc))
  refine Rg4.wp_region4 (Rel := Ext) #[0, 1, 3, 0, 8, 24, 63, 127, 255]
    [(2, .val (.string ⟨u.toArray⟩)), (6, .val (.string ⟨t.toArray⟩))] [] [1, 4, 5] (fun _ => True) [0, 1, 2, 3, 4, 5, 6, 7, 8] (by kernel_rfl) (by kernel_rfl) (by kernel_rfl) (by kernel_rfl) Ext.refl (fun _ _ _ => Ext.trans) (show Rg4.PB _ by repeat (first | with_reducible exact Rg4.pb_body | with_reducible exact Rg4.pb_bodyD rfl | with_reducible refine Rg4.pb_then ?_ | with_reducible refine Rg4.pb_inBlock ?_ | with_reducible refine Rg4.pb_noGoto ?_)) (trivial) ?_
  replace st := st.drew
  change Rg4.wp4 _ _ _ _ _ _ _ _ _ (World.drew _) _ _
  generalize World.drew _ = w at st ⊢
  (try clear hc); have hc := st.facts; (try simp only [nfl, nft, Nat.reduceAdd] at hc)
  (refine Rg4.w4_any (Rg4.want_none rfl) rfl ?_; apply Exists.intro; refine ⟨fun w' => ?_, ?_⟩; (focus (first | (go_simp; done) | (go_simp; first | rfl | (rw [if_neg] <;> first | rfl | omega) | (rw [if_pos] <;> first | rfl | omega)))); (try simp only [Rg4.nrm]))
  (refine Rg4.w4_read (Rg4.want_none rfl) rfl rfl ?_; apply Exists.intro; refine ⟨fun w' hw' hcl' => ?_, ?_⟩; focus (have st' := st.ext hw'; have hc' := st'.facts; (try simp only [nfl, nft, Nat.reduceAdd] at hc'); have q := conv_bs (P := Try.prog) (src := 33) (dst := 9) (c := m1) Try.underlying33 Try.underlying5 Try.underlying9 (st'.by (i := 1) get1); unfold S at q; (focus (first | (go_simp; done) | (go_simp; first | rfl | (rw [if_neg] <;> first | rfl | omega) | (rw [if_pos] <;> first | rfl | omega))))); (try simp only [Rg4.nrm]))
  refine Rg4.w4_some (Rg4.want_none rfl) rfl (fun w' hw' hcl' _ => ?_) ?_
  · refine Rg.relAt_call (by go_simp; exact ⟨rfl, rfl⟩) ?_
    refine (HCB.out _).mono ?_
    rintro en w'' ⟨rfl, hx⟩
    exact ⟨_, rfl, hx, trivial, rfl⟩
  rintro v ⟨_, _, _, rfl⟩
  (try simp only [Rg4.nrm])
  (refine Rg4.w4_any (Rg4.want_none rfl) rfl ?_; apply Exists.intro; refine ⟨fun w' => ?_, ?_⟩; (focus (first | (go_simp; done) | (go_simp; first | rfl | (rw [if_neg] <;> first | rfl | omega) | (rw [if_pos] <;> first | rfl | omega)))); (try simp only [Rg4.nrm]))
  iterate 2 (refine Rg4.w4_read (Rg4.want_none rfl) rfl rfl ?_; apply Exists.intro; refine ⟨fun w' hw' hcl' => ?_, ?_⟩; focus (have st' := st.ext hw'; have hc' := st'.facts; (try simp only [nfl, nft, Nat.reduceAdd] at hc'); have q := conv_bs (P := Try.prog) (src := 33) (dst := 9) (c := m1) Try.underlying33 Try.underlying5 Try.underlying9 (st'.by (i := 1) get1); unfold S at q; (focus (first | (go_simp; done) | (go_simp; first | rfl | (rw [if_neg] <;> first | rfl | omega) | (rw [if_pos] <;> first | rfl | omega))))); (try simp only [Rg4.nrm]))
  refine Rg4.w4_some (Rg4.want_none rfl) rfl (fun w' hw' hcl' _ => ?_) ?_
  · refine Rg.relAt_call (by go_simp; exact ⟨rfl, rfl⟩) ?_
    refine (HTX.out _).mono ?_
    rintro en w'' ⟨rfl, hx⟩
    exact ⟨_, rfl, hx, trivial, rfl⟩
  rintro v ⟨_, _, _, rfl⟩
  (try simp only [Rg4.nrm])
  iterate 2 (refine Rg4.w4_any (Rg4.want_none rfl) rfl ?_; apply Exists.intro; refine ⟨fun w' => ?_, ?_⟩; (focus (first | (go_simp; done) | (go_simp; first | rfl | (rw [if_neg] <;> first | rfl | omega) | (rw [if_pos] <;> first | rfl | omega)))); (try simp only [Rg4.nrm]))
  refine Rg4.w4_nil (fun w' hw' hcl' _ => ?_); replace st := st.ext hw'; clear hw' hcl'; (try clear hc); have hc := st.facts; (try simp only [nfl, nft, Nat.reduceAdd] at hc)
  go_wp2_with fail
  go_ret
  exact ⟨by simp, st.ext0⟩
set_option maxRecDepth 100000 in
set_option maxHeartbeats 8000000 in
theorem refMsgBytes_any (x : MsgT) (W : World) (hx : MgOk W x) (hr : mgR x = true) : Calls Try.prog 71 #[mgV x] W fun e w' => e = .returned (S (mgB x)) ∧ Ext W w' := by
  have happ := ba_append
  have hk := (mgR_k hr).2
  have HX := Lib.hid hx
  have HB : Hid (mgB x = numB x.k.toNat ++
    (if x.k = 1 then (numB x.nm.length ++ x.nm) ++ numB x.p.toNat else if x.k = 2 then numB x.wn ++ x.ws.flatMap roleB ++ numB x.sn ++ x.ss.flatMap sgB else if x.k = 5 then numB x.e.toNat else [])) := Lib.hid rfl
  have H1 := Lib.hid (mgR_1 hr)
  have H2 := Lib.hid (fun q => (And.intro (wantsR_is (mgR_2 hr q).1) (showsR_is (mgR_2 hr q).2)))
  have H5 := Lib.hid (mgR_5 hr)
  obtain ⟨r, hrr⟩ : ∃ r, mgB x = r := ⟨_, rfl⟩
  rw [hrr] at HB ⊢
  clear hx hr hrr
  obtain ⟨k, pl, e, nm, wa, wn, wc, ws, sa, sn, sc, ss⟩ := x
  simp only at hk HB H1 H2 H5
  unfold MgOk at HX
  simp only at HX
  have st := Own.startOld W
  unfold mgV S
  (try simp only [nsl, Value.cells, unB] at st)
  (try clear hc); have hc := st.facts; (try simp only [nfl, nft, Nat.reduceAdd] at hc)
  rcases hk with rfl | rfl | rfl | rfl | rfl
  · obtain ⟨hn1, hp1⟩ := H1.out rfl
    obtain ⟨pn, rfl⟩ : ∃ q : Nat, pl = (q : Int) := ⟨pl.toNat, by omega⟩
    have hl3 := (nameR_len hn1).2
    have hb3 : (numB nm.length).length ≤ 10 := numF_len 10 nm.length
    have hb1 : (numB 1).length ≤ 10 := numF_len 10 1
    have hb4 : (numB pn).length ≤ 10 := numF_len 10 pn
    have HTX := Lib.hid (fun W => refText_any nm W (by omega))
    have HNX := Lib.hid (fun W => refNumber_any pn W (by omega))
    unfold S at HTX HNX
    obtain ⟨t, ht⟩ : ∃ t, numB nm.length ++ nm = t := ⟨_, rfl⟩
    have htl : t.length ≤ 26 := by rw [← ht]; simp; omega
    have HF : Hid (r = numB 1 ++ (t ++ numB pn)) := Lib.hid (by rw [HB.out, if_pos rfl, ← ht]; simp)
    rw [ht] at HTX
    clear hn1 hp1 HB H1 H2 H5 ht
    go_enter Try.func71, Try.ntmps71
    go_wp2_with ((((with_reducible refine wl_box ?_ (fun K hK => ?_)); rfl; refine owp_box (o := ⟨some 1, _, _, _, _, _⟩) rfl st ?_; apply Exists.intro; refine ⟨?_, ?_⟩; (focus (go_simp; try rfl)); (clear st; intro b1 w hb st; clear hb))); (try simp only [nsl, Value.cells, unB] at st); (try clear hc); have hc := st.facts; (try simp only [nfl, nft, Nat.reduceAdd] at hc))
    refine (refNumber_any 1 _ (by decide)).mono ?_
    rintro en w ⟨rfl, hx⟩
    replace st := st.ext hx
    clear hx
    (try clear hc); have hc := st.facts; (try simp only [nfl, nft, Nat.reduceAdd] at hc)
    unfold S
    go_wp2_with fail
    refine Rg4.wp_region4 (Rel := Ext) #[0, 0, 2, 6, 0, 16, 62, 126, 255, 511]
      [(3, .val (.string ⟨t.toArray⟩)), (6, .val (.string ⟨(numB pn).toArray⟩))] [] [2, 5] (fun _ => True) [0, 1, 2, 3, 4, 5, 6, 7, 8, 9] (by kernel_rfl) (by kernel_rfl) (by kernel_rfl) (by kernel_rfl) Ext.refl (fun _ _ _ => Ext.trans) (show Rg4.PB _ by repeat (first | with_reducible exact Rg4.pb_body | with_reducible exact Rg4.pb_bodyD rfl | with_reducible refine Rg4.pb_then ?_ | with_reducible refine Rg4.pb_inBlock ?_ | with_reducible refine Rg4.pb_noGoto ?_)) (trivial) ?_
    replace st := st.drew
    change Rg4.wp4 _ _ _ _ _ _ _ _ _ (World.drew _) _ _
    generalize World.drew _ = w at st ⊢
    (try clear hc); have hc := st.facts; (try simp only [nfl, nft, Nat.reduceAdd] at hc)
    iterate 2 (refine Rg4.w4_any (Rg4.want_none rfl) rfl ?_; apply Exists.intro; refine ⟨fun w' => ?_, ?_⟩; (focus (first | (go_simp; done) | (go_simp; first | rfl | (rw [if_neg] <;> first | rfl | omega) | (rw [if_pos] <;> first | rfl | omega)))); (try simp only [Rg4.nrm]))
    (refine Rg4.w4_read (Rg4.want_none rfl) rfl rfl ?_; apply Exists.intro; refine ⟨fun w' hw' hcl' => ?_, ?_⟩; focus (have st' := st.ext hw'; have hc' := st'.facts; (try simp only [nfl, nft, Nat.reduceAdd] at hc'); (focus (first | (go_simp; done) | (go_simp; first | rfl | (rw [if_neg] <;> first | rfl | omega) | (rw [if_pos] <;> first | rfl | omega))))); (try simp only [Rg4.nrm]))
    refine Rg4.w4_some (Rg4.want_none rfl) rfl (fun w' hw' hcl' _ => ?_) ?_
    · refine Rg.relAt_call (by go_simp; exact ⟨rfl, rfl⟩) ?_
      refine (HTX.out _).mono ?_
      rintro en w'' ⟨rfl, hx⟩
      exact ⟨_, rfl, hx, trivial, rfl⟩
    rintro v ⟨_, _, _, rfl⟩
    (try simp only [Rg4.nrm])
    (refine Rg4.w4_any (Rg4.want_none rfl) rfl ?_; apply Exists.intro; refine ⟨fun w' => ?_, ?_⟩; (focus (first | (go_simp; done) | (go_simp; first | rfl | (rw [if_neg] <;> first | rfl | omega) | (rw [if_pos] <;> first | rfl | omega)))); (try simp only [Rg4.nrm]))
    (refine Rg4.w4_read (Rg4.want_none rfl) rfl rfl ?_; apply Exists.intro; refine ⟨fun w' hw' hcl' => ?_, ?_⟩; focus (have st' := st.ext hw'; have hc' := st'.facts; (try simp only [nfl, nft, Nat.reduceAdd] at hc'); (focus (first | (go_simp; done) | (go_simp; first | rfl | (rw [if_neg] <;> first | rfl | omega) | (rw [if_pos] <;> first | rfl | omega))))); (try simp only [Rg4.nrm]))
    refine Rg4.w4_some (Rg4.want_none rfl) rfl (fun w' hw' hcl' _ => ?_) ?_
    · refine Rg.relAt_call (by go_simp; exact ⟨rfl, rfl⟩) ?_
      refine (HNX.out _).mono ?_
      rintro en w'' ⟨rfl, hx⟩
      exact ⟨_, rfl, hx, trivial, rfl⟩
    rintro v ⟨_, _, _, rfl⟩
    (try simp only [Rg4.nrm])
    iterate 3 (refine Rg4.w4_any (Rg4.want_none rfl) rfl ?_; apply Exists.intro; refine ⟨fun w' => ?_, ?_⟩; (focus (first | (go_simp; done) | (go_simp; first | rfl | (rw [if_neg] <;> first | rfl | omega) | (rw [if_pos] <;> first | rfl | omega)))); (try simp only [Rg4.nrm]))
    refine Rg4.w4_nil (fun w' hw' hcl' _ => ?_); replace st := st.ext hw'; clear hw' hcl'; (try clear hc); have hc := st.facts; (try simp only [nfl, nft, Nat.reduceAdd] at hc)
    go_wp2_with fail
    go_ret
    exact ⟨by rw [HF.out]; simp, st.ext0⟩
  · obtain ⟨⟨hwl, hwr⟩, hsl, hsr⟩ := H2.out rfl
    have HF : Hid (r = numB 2 ++ (numB wn ++ ws.flatMap roleB ++ numB sn ++ ss.flatMap sgB)) := Lib.hid (by rw [HB.out, if_neg (by decide), if_pos rfl]; rfl)
    have hw1 : wn = ws.length := HX.out.1.2.1
    have hs1 : sn = ss.length := HX.out.2.1.2.1
    have HWR := Lib.hid (And.intro hwr hw1)
    have HSR := Lib.hid (And.intro hsr hs1)
    have hwn : wn ≤ 16 := by omega
    have hsn : sn ≤ 8 := by omega
    have hb1 : (numB 2).length ≤ 10 := numF_len 10 2
    have hb2 : (numB wn).length ≤ 10 := numF_len 10 wn
    have hb3 : (numB sn).length ≤ 10 := numF_len 10 sn
    clear hwl hwr hsl hsr HB H1 H2 H5 hw1 hs1
    go_enter Try.func71, Try.ntmps71
    go_wp2_with ((((with_reducible refine wl_box ?_ (fun K hK => ?_)); rfl; refine owp_box (o := ⟨some 1, _, _, _, _, _⟩) rfl st ?_; apply Exists.intro; refine ⟨?_, ?_⟩; (focus (go_simp; try rfl)); (clear st; intro b1 w hb st; clear hb))); (try simp only [nsl, Value.cells, unB] at st); (try clear hc); have hc := st.facts; (try simp only [nfl, nft, Nat.reduceAdd] at hc))
    refine (refNumber_any 2 _ (by decide)).mono ?_
    rintro en w ⟨rfl, hx⟩
    replace st := st.ext hx
    clear hx
    (try clear hc); have hc := st.facts; (try simp only [nfl, nft, Nat.reduceAdd] at hc)
    unfold S
    go_wp2_with fail
    refine (refNumber_any wn _ (by omega)).mono ?_
    rintro en w ⟨rfl, hx⟩
    replace st := st.ext hx
    clear hx
    (try clear hc); have hc := st.facts; (try simp only [nfl, nft, Nat.reduceAdd] at hc)
    unfold S
    go_wp2_with fail
    obtain ⟨y0, hy0⟩ : ∃ y, numB 2 ++ numB wn = y := ⟨_, rfl⟩
    have hyl : y0.length ≤ 20 := by rw [← hy0]; simp; omega
    have HY0 := Lib.hid hy0
    clear hy0
    go_loopg [3, 35] wn (fun kk v i wr => ∃ (j m : Nat) (ys : List UInt8), j ≤ wn ∧ kk = wn - j ∧ i = .int .i64 (j : Int) ∧ v = .string ⟨ys.toArray⟩ ∧ Hid (ys = y0 ++ (ws.take j).flatMap roleB) ∧ Hid (m = ys.length) ∧ m ≤ 20 + 100 * j ∧ Own (fun _ => False) (fun _ => True) W [oldI W, blkI b1 [.int .i64 2, .int .i64 pl, .int .i64 e, .string ⟨nm.toArray⟩, .slice wa wn wc, .slice sa sn sc]] wr)
    case atStart => exact ⟨0, _, y0, by omega, by omega, rfl, by rw [← HY0.out] <;> simp, Lib.hid (by simp), Lib.hid rfl, by omega, st⟩
    case round =>
      obtain ⟨j, m, ys, hj, rfl, rfl, rfl, HY, HM, hm, st'⟩ := hrel
      clear st hc
      have st := st'
      clear st'
      (try simp only [nsl, Value.cells, unB] at st)
      (try clear hc); have hc := st.facts; (try simp only [nfl, nft, Nat.reduceAdd] at hc)
      by_cases hjn : j < wn
      · obtain ⟨b, off, ha, hcell⟩ := HX.out.1.2.role (by omega)
        have hjl : j < ws.length := by have := HWR.out.2; omega
        obtain ⟨r0, r1⟩ := hcell j ws[j] (List.getElem?_eq_getElem hjl)
        replace r0 := st.oldCell (i := 0) get0 r0
        replace r1 := st.oldCell (i := 0) get0 r1
        have hts : ws.take (j + 1) = ws.take j ++ [ws[j]] := (List.take_append_getElem hjl).symm
        have hR := HWR.out.1 ws[j] (List.getElem_mem hjl)
        have hbl := roleB_len hR
        have hrl := roleR_len hR
        clear hcell
        generalize ws[j] = x at *
        obtain ⟨ro, rd⟩ := x
        have HRB := Lib.hid (fun W => refRoleBytes_any (ro, rd) W (by simp only at hrl ⊢; omega) (by simp only at hrl ⊢; omega))
        obtain ⟨rb, hrb⟩ : ∃ s, roleB (ro, rd) = s := ⟨_, rfl⟩
        rw [hrb] at hbl HRB
        have HX2 := Lib.hid (And.intro hts hrb)
        unfold rV S at HRB
        clear hts hR hjl hrb hrl
        subst ha
        simp only at r0 r1
        unfold S at r0 r1
        have hml : ys.length ≤ 20 + 100 * j := by have := HM.out; omega
        go_wp2_with ((first
              | ((with_reducible refine wl_alloc ?_ (fun K hK => ?_)); rfl; refine owp_alloc (o := ⟨some 5, _, _, _, _, _⟩) rfl st ?_; apply Exists.intro; apply Exists.intro; refine ⟨?_, ?_⟩; (focus (first | (go_simp; done) | (go_simp; rfl))); (clear st; intro b5 w hb st; clear hb))
              | ((with_reducible refine wl_store ?_ (fun K hK => ?_)); rfl; refine owp_store rfl st ?_; apply Exists.intro; apply Exists.intro; refine ⟨?_, ?_, ?_⟩; (focus (go_simp; try rfl)); (focus (go_simp; try rfl)); (with_reducible refine ⟨2, _, _, _, _, get2, rfl, rfl, ?_, ?_, ?_, ?_⟩); (kernel_rfl); (simp [Value.cells]); (rfl); (clear st; intro w st))); (try simp only [nsl, Value.cells, unB] at st); (try clear hc); have hc := st.facts; (try simp only [nfl, nft, Nat.reduceAdd] at hc))
        refine (HRB.out _).mono ?_
        rintro en w ⟨rfl, hx⟩
        replace st := st.ext hx
        clear hx
        (try clear hc); have hc := st.facts; (try simp only [nfl, nft, Nat.reduceAdd] at hc)
        go_wp2_with fail
        have st' := st.keep [0, 1] (by decide) (by simp)
        go_roundg (wn - (j + 1))
        case measure => omega
        case rel => exact ⟨j + 1, _, ys ++ rb, by omega, by omega, by go_num, by simp, Lib.hid (by rw [HX2.out.1, List.flatMap_append, ← List.append_assoc, ← HY.out]; simp [HX2.out.2]), Lib.hid rfl, by simp; omega, by simpa [pick] using st'⟩
      · obtain rfl : j = wn := by omega
        have HYE : Hid (numB 2 ++ numB j ++ ws.flatMap roleB = ys) := Lib.hid (by rw [HY.out, HY0.out, List.take_of_length_le (by have := HWR.out.2; omega)])
        have hml : ys.length ≤ 2000 := by have := HM.out; omega
        clear HY HM hm HY0
        go_wp2_with fail
        refine (refNumber_any sn _ (by omega)).mono ?_
        rintro en w ⟨rfl, hx⟩
        replace st := st.ext hx
        clear hx
        (try clear hc); have hc := st.facts; (try simp only [nfl, nft, Nat.reduceAdd] at hc)
        unfold S
        go_wp2_with fail
        obtain ⟨z0, hz0⟩ : ∃ z, ys ++ numB sn = z := ⟨_, rfl⟩
        have hzl : z0.length ≤ 2010 := by rw [← hz0]; simp; omega
        have HZ0 := Lib.hid hz0
        clear hz0
        go_loopg [3, 53] sn (fun kk v i wr => ∃ (q m : Nat) (zs : List UInt8), q ≤ sn ∧ kk = sn - q ∧ i = .int .i64 (q : Int) ∧ v = .string ⟨zs.toArray⟩ ∧ Hid (zs = z0 ++ (ss.take q).flatMap sgB) ∧ Hid (m = zs.length) ∧ m ≤ 2010 + 400 * q ∧ Own (fun _ => False) (fun _ => True) W [oldI W, blkI b1 [.int .i64 2, .int .i64 pl, .int .i64 e, .string ⟨nm.toArray⟩, .slice wa j wc, .slice sa sn sc]] wr)
        case atStart => exact ⟨0, _, z0, by omega, by omega, rfl, by rw [← HZ0.out] <;> simp, Lib.hid (by simp), Lib.hid rfl, by omega, by first | exact st | simpa [pick] using st.keep [0, 1] (by decide) (by simp)⟩
        case round =>
          obtain ⟨q, m, zs, hq, rfl, rfl, rfl, HZ, HM, hm, st'⟩ := hrel
          clear st hc
          have st := st'
          clear st'
          (try simp only [nsl, Value.cells, unB] at st)
          (try clear hc); have hc := st.facts; (try simp only [nfl, nft, Nat.reduceAdd] at hc)
          by_cases hqn : q < sn
          · obtain ⟨b, off, ha, hcell⟩ := HX.out.2.1.2.sgn (by omega)
            have hql : q < ss.length := by have := HSR.out.2; omega
            obtain ⟨r0, r1, r2, r3, r4, r5, r6, r7, r8, r9⟩ := hcell q ss[q] (List.getElem?_eq_getElem hql)
            replace r0 := st.oldCell (i := 0) get0 r0
            replace r1 := st.oldCell (i := 0) get0 r1
            replace r2 := st.oldCell (i := 0) get0 r2
            replace r3 := st.oldCell (i := 0) get0 r3
            replace r4 := st.oldCell (i := 0) get0 r4
            replace r5 := st.oldCell (i := 0) get0 r5
            replace r6 := st.oldCell (i := 0) get0 r6
            replace r7 := st.oldCell (i := 0) get0 r7
            replace r8 := st.oldCell (i := 0) get0 r8
            replace r9 := st.oldCell (i := 0) get0 r9
            have hts : ss.take (q + 1) = ss.take q ++ [ss[q]] := (List.take_append_getElem hql).symm
            have hR := HSR.out.1 ss[q] (List.getElem_mem hql)
            have HSO := Lib.hid (HX.out.2.2 ss[q] (List.getElem_mem hql))
            have hbl := sgB_len hR.1 hR.2 HSO.out.2.1
            clear hcell
            generalize ss[q] = x at *
            have HKP := Lib.hid (fun W' (hw : Ext W W') => refSgBytes_any x W' (HSO.out.ext hw) hR.1 hR.2)
            obtain ⟨sb, hsb⟩ : ∃ s, sgB x = s := ⟨_, rfl⟩
            rw [hsb] at hbl HKP
            have HX2 := Lib.hid (And.intro hts hsb)
            clear hts hR hql hsb
            obtain ⟨⟨ck, ⟨ho, hd⟩, cw, ⟨bo, bd⟩, ⟨co, cd⟩, we⟩, a1, n1, m1, tg⟩ := x
            subst ha
            simp only at r0 r1 r2 r3 r4 r5 r6 r7 r8 r9
            unfold S at r1 r2 r3 r4 r5 r6 r7 r8
            unfold sgV S at HKP
            simp only at HKP
            have hml : zs.length ≤ 2010 + 400 * q := by have := HM.out; omega
            go_wp2_with ((first
                  | ((with_reducible refine wl_store ?_ (fun K hK => ?_)); rfl; refine owp_store rfl st ?_; apply Exists.intro; apply Exists.intro; refine ⟨?_, ?_, ?_⟩; (focus (go_simp; try rfl)); (focus (go_simp; try rfl)); (with_reducible refine ⟨2, _, _, _, _, get2, rfl, rfl, ?_, ?_, ?_, ?_⟩); (kernel_rfl); (simp [Value.cells]); (rfl); (clear st; intro w st))
                  | ((with_reducible refine wl_alloc ?_ (fun K hK => ?_)); rfl; refine owp_alloc (o := ⟨some 7, _, _, _, _, _⟩) rfl st ?_; apply Exists.intro; apply Exists.intro; refine ⟨?_, ?_⟩; (focus (first | (go_simp; done) | (go_simp; rfl))); (clear st; intro b7 w hb st; clear hb))); (try simp only [nsl, Value.cells, unB] at st); (try clear hc); have hc := st.facts; (try simp only [nfl, nft, Nat.reduceAdd] at hc))
            refine (HKP.out _ st.ext0).mono ?_
            rintro en w ⟨rfl, hx⟩
            replace st := st.ext hx
            clear hx
            (try clear hc); have hc := st.facts; (try simp only [nfl, nft, Nat.reduceAdd] at hc)
            go_wp2_with fail
            have st' := st.keep [0, 1] (by decide) (by simp)
            go_roundg (sn - (q + 1))
            case measure => omega
            case rel => exact ⟨q + 1, _, zs ++ sb, by omega, by omega, by go_num, by simp, Lib.hid (by rw [HX2.out.1, List.flatMap_append, ← List.append_assoc, ← HZ.out]; simp [HX2.out.2]), Lib.hid rfl, by simp; omega, by simpa [pick] using st'⟩
          · obtain rfl : q = sn := by omega
            have HFF : Hid (r = zs) := Lib.hid (by rw [HF.out, HZ.out, ← HZ0.out, ← HYE.out, List.take_of_length_le (by have := HSR.out.2; omega)]; simp)
            go_wp2_with fail
            go_ret
            exact ⟨by rw [HFF.out]; rfl, st.ext0⟩
  · have HF : Hid (r = numB 3) := Lib.hid (by rw [HB.out, if_neg (by decide), if_neg (by decide), if_neg (by decide)]; simp)
    clear HB H1 H2 H5
    go_enter Try.func71, Try.ntmps71
    go_wp2_with ((((with_reducible refine wl_box ?_ (fun K hK => ?_)); rfl; refine owp_box (o := ⟨some 1, _, _, _, _, _⟩) rfl st ?_; apply Exists.intro; refine ⟨?_, ?_⟩; (focus (go_simp; try rfl)); (clear st; intro b1 w hb st; clear hb))); (try simp only [nsl, Value.cells, unB] at st); (try clear hc); have hc := st.facts; (try simp only [nfl, nft, Nat.reduceAdd] at hc))
    refine (refNumber_any 3 _ (by decide)).mono ?_
    rintro en w ⟨rfl, hx⟩
    replace st := st.ext hx
    clear hx
    (try clear hc); have hc := st.facts; (try simp only [nfl, nft, Nat.reduceAdd] at hc)
    unfold S
    go_wp2_with fail
    go_ret
    exact ⟨by rw [HF.out]; rfl, st.ext0⟩
  · have HF : Hid (r = numB 4) := Lib.hid (by rw [HB.out, if_neg (by decide), if_neg (by decide), if_neg (by decide)]; simp)
    clear HB H1 H2 H5
    go_enter Try.func71, Try.ntmps71
    go_wp2_with ((((with_reducible refine wl_box ?_ (fun K hK => ?_)); rfl; refine owp_box (o := ⟨some 1, _, _, _, _, _⟩) rfl st ?_; apply Exists.intro; refine ⟨?_, ?_⟩; (focus (go_simp; try rfl)); (clear st; intro b1 w hb st; clear hb))); (try simp only [nsl, Value.cells, unB] at st); (try clear hc); have hc := st.facts; (try simp only [nfl, nft, Nat.reduceAdd] at hc))
    refine (refNumber_any 4 _ (by decide)).mono ?_
    rintro en w ⟨rfl, hx⟩
    replace st := st.ext hx
    clear hx
    (try clear hc); have hc := st.facts; (try simp only [nfl, nft, Nat.reduceAdd] at hc)
    unfold S
    go_wp2_with fail
    go_ret
    exact ⟨by rw [HF.out]; rfl, st.ext0⟩
  · obtain ⟨he1, he2⟩ := H5.out rfl
    obtain ⟨en, rfl⟩ : ∃ q : Nat, e = (q : Int) := ⟨e.toNat, by omega⟩
    have HF : Hid (r = numB 5 ++ numB en) := Lib.hid (by rw [HB.out, if_neg (by decide), if_neg (by decide), if_pos rfl]; simp)
    have hb1 : (numB 5).length ≤ 10 := numF_len 10 5
    have hb2 : (numB en).length ≤ 10 := numF_len 10 en
    have hen : en ≤ 99 := by omega
    clear HB H1 H2 H5 he1 he2
    go_enter Try.func71, Try.ntmps71
    go_wp2_with ((((with_reducible refine wl_box ?_ (fun K hK => ?_)); rfl; refine owp_box (o := ⟨some 1, _, _, _, _, _⟩) rfl st ?_; apply Exists.intro; refine ⟨?_, ?_⟩; (focus (go_simp; try rfl)); (clear st; intro b1 w hb st; clear hb))); (try simp only [nsl, Value.cells, unB] at st); (try clear hc); have hc := st.facts; (try simp only [nfl, nft, Nat.reduceAdd] at hc))
    refine (refNumber_any 5 _ (by decide)).mono ?_
    rintro en w ⟨rfl, hx⟩
    replace st := st.ext hx
    clear hx
    (try clear hc); have hc := st.facts; (try simp only [nfl, nft, Nat.reduceAdd] at hc)
    unfold S
    go_wp2_with fail
    refine (refNumber_any en _ (by omega)).mono ?_
    rintro en w ⟨rfl, hx⟩
    replace st := st.ext hx
    clear hx
    (try clear hc); have hc := st.facts; (try simp only [nfl, nft, Nat.reduceAdd] at hc)
    unfold S
    go_wp2_with fail
    go_ret
    exact ⟨by rw [HF.out]; simp, st.ext0⟩
theorem mgB_len {W : World} {x : MsgT} (hx : MgOk W x) (h : mgR x = true) : (mgB x).length ≤ 10000 := by
  have n1 : (numB x.k.toNat).length ≤ 10 := numF_len 10 _
  have n2 : (numB x.wn).length ≤ 10 := numF_len 10 _
  have n3 : (numB x.sn).length ≤ 10 := numF_len 10 _
  have n4 : (numB x.nm.length).length ≤ 10 := numF_len 10 _
  have n5 : (numB x.p.toNat).length ≤ 10 := numF_len 10 _
  have n6 : (numB x.e.toNat).length ≤ 10 := numF_len 10 _
  unfold mgB
  rw [List.length_append]
  split
  · have := (nameR_len (mgR_1 h (by assumption)).1).2
    simp only [List.length_append]; omega
  · split
    · obtain ⟨h1, h2⟩ := mgR_2 h (by assumption)
      have w1 := wantsR_is h1
      have s1 := showsR_is h2
      have a1 := flatLen roleB 60 x.ws (fun y hy => roleB_len (w1.2 y hy))
      have a2 := flatLen sgB 400 x.ss (fun y hy => sgB_len (s1.2 y hy).1 (s1.2 y hy).2 (hx.2.2 y hy).2.1)
      simp only [List.length_append]; omega
    · split
      · omega
      · simp; omega
set_option maxRecDepth 100000 in
set_option maxHeartbeats 2000000 in
theorem msgBytes_any (x : MsgT) (W : World) (hx : MgOk W x) (lx : MgL x) :
    Calls Try.prog 74 #[mgV x] W fun e w' => ∃ a n c, e = .returned (.slice a n c) ∧ FreshI W w' (rowI 5 1 (.slice a n c) n ((mgBy x).map B)) := by
  have HX := Lib.hid hx
  have HE := Lib.hid (show mgBy x = if mgR x = true then mgB x else [] from rfl)
  have HUL : Hid (mgR x = true → (mgB x).length ≤ 10000) := Lib.hid (mgB_len hx)
  have HPY := Lib.hid (fun (fr al : Nat → Prop) (W' : World) (p : Nat) (st : Own fr al W' [penI p [], oldI W] W') q => msgPut_yes x st hx lx q (by simp))
  have HPN := Lib.hid (fun p W' (h : MgOk W' x) q => msgPut_no p x W' h lx q)
  obtain ⟨r, hr⟩ : ∃ r, mgBy x = r := ⟨_, rfl⟩
  obtain ⟨u, hu⟩ : ∃ u, mgB x = u := ⟨_, rfl⟩
  rw [hu] at HPY HUL HE
  rw [hr] at HE ⊢
  clear hx lx hr hu
  obtain ⟨mr, hmr⟩ : ∃ q, mgR x = q := ⟨_, rfl⟩
  rw [hmr] at HPY HPN HE HUL
  clear hmr
  obtain ⟨k, p, e, nm, wa, wn, wc, ws, sa, sn, sc, ss⟩ := x
  unfold mgV S at *
  have st := Own.startOld W
  (try simp only [nsl, Value.cells, unB] at st)
  (try clear hc); have hc := st.facts; (try simp only [nfl, nft, Nat.reduceAdd] at hc)
  cases mr with
  | true =>
    have hul := HUL.out rfl
    have HF : Hid (r = u) := Lib.hid (by rw [HE.out, if_pos rfl])
    go_enter Try.func74, Try.ntmps74
    go_wp2_with ((first
          | ((with_reducible refine wl_box ?_ (fun K hK => ?_)); rfl; refine owp_box (o := ⟨some 1, _, _, _, _, _⟩) rfl st ?_; apply Exists.intro; refine ⟨?_, ?_⟩; (focus (go_simp; try rfl)); (clear st; intro b1 w hb st; clear hb))
          | ((with_reducible refine wl_box ?_ (fun K hK => ?_)); rfl; refine owp_box (o := ⟨some 5, _, _, _, _, _⟩) rfl st ?_; apply Exists.intro; refine ⟨?_, ?_⟩; (focus (go_simp; try rfl)); (clear st; intro b5 w hb st; clear hb))); (try simp only [nsl, Value.cells, unB] at st); (try clear hc); have hc := st.facts; (try simp only [nfl, nft, Nat.reduceAdd] at hc))
    replace st := st.newPen (i := 2) get2
    (try simp only [nsl, Value.cells, unB] at st)
    (try clear hc); have hc := st.facts; (try simp only [nfl, nft, Nat.reduceAdd] at hc)
    obtain ⟨fr', al', st', back⟩ := st.sub [2, 0] (by decide) (by simp)
    (try simp only [nsl, Value.cells, unB] at st')
    refine (HPY.out _ _ _ _ st' (by trivial)).mono ?_
    clear st'
    rintro en w ⟨rfl, st'⟩
    replace st := back _ _ (by simp) st'
    clear back st'
    (try simp only [nsl, Value.cells, unB] at st)
    (try clear hc); have hc := st.facts; (try simp only [nfl, nft, Nat.reduceAdd] at hc)
    (try simp only [List.nil_append] at st)
    go_wp2_with fail
    obtain ⟨fr', al', st', back⟩ := st.sub [2] (by decide) (by simp)
    (try simp only [nsl, Value.cells, unB] at st')
    refine (penBytesRow_c st' (by omega)).mono ?_
    clear st'
    rintro en w ⟨pa, pc, rfl, hpc, st'⟩
    replace st := back _ _ (by simp) st'
    clear back st'
    (try simp only [nsl, Value.cells, unB] at st)
    (try clear hc); have hc := st.facts; (try simp only [nfl, nft, Nat.reduceAdd] at hc)
    go_wp2_with fail
    go_ret
    exact ⟨_, _, _, rfl, by rw [HF.out]; exact st.toFresh (i := 3) get3⟩
  | false =>
    have HF : Hid (r = []) := Lib.hid (by rw [HE.out, if_neg (by decide)])
    go_enter Try.func74, Try.ntmps74
    go_wp2_with ((first
          | ((with_reducible refine wl_box ?_ (fun K hK => ?_)); rfl; refine owp_box (o := ⟨some 1, _, _, _, _, _⟩) rfl st ?_; apply Exists.intro; refine ⟨?_, ?_⟩; (focus (go_simp; try rfl)); (clear st; intro b1 w hb st; clear hb))
          | ((with_reducible refine wl_box ?_ (fun K hK => ?_)); rfl; refine owp_box (o := ⟨some 5, _, _, _, _, _⟩) rfl st ?_; apply Exists.intro; refine ⟨?_, ?_⟩; (focus (go_simp; try rfl)); (clear st; intro b5 w hb st; clear hb))); (try simp only [nsl, Value.cells, unB] at st); (try clear hc); have hc := st.facts; (try simp only [nfl, nft, Nat.reduceAdd] at hc))
    replace st := st.newPen (i := 2) get2
    (try simp only [nsl, Value.cells, unB] at st)
    (try clear hc); have hc := st.facts; (try simp only [nfl, nft, Nat.reduceAdd] at hc)
    refine (HPN.out _ _ (st.oldMg (i := 0) get0 HX.out) (.inr (by trivial))).mono ?_
    rintro en w ⟨rfl, hx⟩
    replace st := st.ext hx
    clear hx
    (try simp only [nsl, Value.cells, unB] at st)
    (try clear hc); have hc := st.facts; (try simp only [nfl, nft, Nat.reduceAdd] at hc)
    go_wp2_with fail
    obtain ⟨fr', al', st', back⟩ := st.sub [2] (by decide) (by simp)
    (try simp only [nsl, Value.cells, unB] at st')
    refine (penBytesRow_c st' (by simp)).mono ?_
    clear st'
    rintro en w ⟨pa, pc, rfl, hpc, st'⟩
    replace st := back _ _ (by simp) st'
    clear back st'
    (try simp only [nsl, Value.cells, unB] at st)
    (try clear hc); have hc := st.facts; (try simp only [nfl, nft, Nat.reduceAdd] at hc)
    simp only [List.length_nil] at st hpc ⊢
    (try simp only [nsl, Value.cells, unB] at st)
    (try clear hc); have hc := st.facts; (try simp only [nfl, nft, Nat.reduceAdd] at hc)
    go_wp2_with fail
    go_ret
    exact ⟨_, _, _, rfl, by rw [HF.out]; exact st.toFresh (i := 3) get3⟩
end Go.Proofs.Ytekngjkjgmplpaa

namespace Go.Proofs.Ytekngjkjgmplpaa
set_option linter.unusedSimpArgs false
set_option linter.unusedVariables false
open Go Go.RowKit
/-- One behind another. -/
def bdm {α β : Type} (r : Except Int (α × List UInt8)) (f : α → List UInt8 → Except Int β) : Except Int β := match r with | .error e => .error e | .ok p => f p.1 p.2
theorem bdm_er {α β : Type} (e : Int) (f : α → List UInt8 → Except Int β) : bdm (.error e) f = .error e := rfl
theorem bdm_ok {α β : Type} (x : α) (ys : List UInt8) (f : α → List UInt8 → Except Int β) : bdm (.ok (x, ys)) f = f x ys := rfl
def GetPostM {α : Type} (fr al : Nat → Prop) (w : World) (r b : Nat) (res : Except Int (α × List UInt8)) (z : List Value) (okM : α → List Value → List It → Prop) (en : Ending) (w' : World) : Prop :=
  match res with
  | .error e => en = .panicked [{ v := failV r e, recovered := false }] ∧ Own fr al w [rdAnyI r, blkI b z] w'
  | .ok (s, ys) => en = .returned (.tuple #[]) ∧ ∃ cs M, okM s cs M ∧ Own fr al w (rdI r ys :: blkI b cs :: M) w'
/-- What the block holds behind it, and what more lies there. -/
def GotM {α : Type} (res : Except Int (α × List UInt8)) (z : List Value) (okM : α → List Value → List It → Prop) (cs : List Value) (M : List It) : Prop := match res with
  | .error _ => cs = z ∧ M = []
  | .ok (s, _) => okM s cs M
theorem pick_mid (X M : List It) (a : It) : pick (X ++ [a] ++ M) (X.length :: (List.range X.length ++ (List.range M.length).map (X.length + 1 + ·))) = a :: (X ++ M) := by
  unfold pick
  rw [List.map_cons, List.map_append]
  congr 1
  · simp
  · congr 1
    · apply List.ext_getElem
      · simp
      · intro i h1 h2
        simp [List.getElem?_append_left h2, List.getElem?_eq_getElem h2, List.append_assoc]
    · apply List.ext_getElem
      · simp
      · intro i h1 h2
        simp only [List.map_map, List.getElem_map, List.getElem_range, Function.comp]
        rw [List.getElem?_append_right (by simp)]
        simp only [List.length_append, List.length_singleton]
        rw [show X.length + 1 + i - (X.length + 1) = i by omega, List.getElem?_eq_getElem h2, Option.getD_some]
theorem putIt_twoM (L M : List It) (I A B : It) (i : Nat) (hi : i < L.length) : putIt (L ++ [I]) (A :: B :: M) 0 [L.length, i] = L.set i B ++ [A] ++ M := by
  simp only [putIt, List.getElem?_cons_zero, List.getElem?_cons_succ, Option.getD_some, List.drop_succ_cons, List.drop_zero]
  rw [List.set_append_right _ _ (Nat.le_refl _), Nat.sub_self, List.set_cons_zero, List.set_append_left _ _ hi]
theorem readGetM_c {α : Type} {fr al : Nat → Prop} {w0 w : World} {L : List It} (st : Own fr al w0 L w) (i : Nat) {b : Nat} {z : List Value} (hi : L[i]? = some (blkI b z)) {a : Option Addr} {n c : Nat} {xs : List UInt8} (h : By w a n xs) (hc : n ≤ c ∧ c ≤ maxLen) (hn : n ≤ 100000000000) (F : FuncId)
    (hinv : ∀ w r, (callFunc F (#[.pointer (some ⟨r, 0, none⟩)] ++ #[.pointer (some ⟨b, 0, none⟩)])).run Try.prog w = .ok (.enter F (#[.pointer (some ⟨r, 0, none⟩)] ++ #[.pointer (some ⟨b, 0, none⟩)])) w)
    (res : Except Int (α × List UInt8)) (okM : α → List Value → List It → Prop)
    (hclo : ∀ fr al w r, Own fr al w [rdI r xs, blkI b z] w → Calls Try.prog F #[.pointer (some ⟨r, 0, none⟩), .pointer (some ⟨b, 0, none⟩)] w (GetPostM fr al w r b res z okM)) :
    Calls Try.prog 46 #[.slice a n c, .func (.func F) #[] #[.pointer (some ⟨b, 0, none⟩)]] w fun en w' => ∃ r cs M, en = .returned (.int .i64 (gotE res)) ∧ GotM res z okM cs M ∧ Own fr al w0 (rdOverI r :: (L.set i (blkI b cs) ++ M)) w' := by
  have hil := get_lt hi
  have fin : ∀ {fr' al' : Nat → Prop} {w1 w2 : World} {A B I : It} {M : List It}, Own fr' al' w1 (putIt (L ++ [I]) (A :: B :: M) 0 [L.length, i]) w2 → Own fr' al' w1 (A :: (L.set i B ++ M)) w2 := by
    intro fr' al' w1 w2 A B I M st3
    rw [putIt_twoM L M I A B i hil] at st3
    have hk := st3.keep ((L.set i B).length :: (List.range (L.set i B).length ++ (List.range M.length).map ((L.set i B).length + 1 + ·))) (by
      rw [List.nodup_cons, List.nodup_append]
      refine ⟨?_, List.nodup_range, ?_, ?_⟩
      · simp only [List.mem_append, List.mem_range, List.mem_map, not_or, not_exists, not_and]
        exact ⟨by omega, fun q _ => by omega⟩
      · exact List.pairwise_map.2 (List.Pairwise.imp (fun {x y} h e => h (by omega)) List.nodup_range)
      · intro x hx y hy
        simp only [List.mem_range, List.mem_map] at hx hy
        obtain ⟨q, _, rfl⟩ := hy
        omega) (by
      intro q hq
      simp only [List.mem_cons, List.mem_append, List.mem_range, List.mem_map] at hq
      simp only [List.length_append, List.length_singleton]
      rcases hq with e | e | ⟨q', e1, rfl⟩ <;> omega)
    rwa [pick_mid] at hk
  refine (read_c st h hc hn F #[.pointer (some ⟨b, 0, none⟩)] hinv (fun r e M => e = gotE res ∧ ∃ cs M', GotM res z okM cs M' ∧ M = L.set i (blkI b cs) ++ M') fun fr' al' w1 r hr st1 => ?_).mono ?_
  · obtain ⟨fr2, al2, st2, back⟩ := st1.sub [L.length, i] (by simp; omega) (by
      intro q hq; simp at hq ⊢; omega)
    have hp : pick (L ++ [rdI r xs]) [L.length, i] = [rdI r xs, blkI b z] := by
      simp [pick, List.getElem?_append_left hil, hi]
    rw [hp] at st2
    refine (hclo _ _ _ r st2).mono ?_
    intro en w2 hen
    unfold GetPostM at hen
    cases hres : res with
    | error e =>
      rw [hres] at hen
      obtain ⟨rfl, st3⟩ := hen
      exact .inr ⟨e, [], _, rfl, rfl, ⟨rfl, z, [], ⟨rfl, rfl⟩, rfl⟩, fin (back _ _ (by simp) st3)⟩
    | ok p =>
      obtain ⟨s, ys⟩ := p
      rw [hres] at hen
      obtain ⟨rfl, cs, M, hok, st3⟩ := hen
      exact .inl ⟨_, ys, _, rfl, ⟨rfl, cs, M, hok, rfl⟩, fin (back _ _ (by simp) st3)⟩
  · rintro en w' ⟨r, e, M, rfl, ⟨rfl, cs, M', h1, rfl⟩, st'⟩
    exact ⟨r, cs, M', rfl, h1, st'⟩
end Go.Proofs.Ytekngjkjgmplpaa

namespace Go.Proofs.Ytekngjkjgmplpaa
set_option linter.unusedSimpArgs false
set_option linter.unusedVariables false
open Go Go.RowKit
/-- A message that shows and wants nothing. -/
def mg0 (k p e : Int) (nm : List UInt8) : MsgT := ⟨k, p, e, nm, none, 0, 0, [], none, 0, 0, []⟩
theorem mg0_ok (W : World) (k p e : Int) (nm : List UInt8) : MgOk W (mg0 k p e nm) := ⟨⟨⟨Nat.le_refl _, by simp [maxLen, mg0]⟩, Fl.nil _ _⟩, ⟨⟨Nat.le_refl _, by simp [maxLen, mg0]⟩, Fl.nil _ _⟩, by simp [mg0]⟩
theorem mg0_L {k p e : Int} {nm : List UInt8} (h : nm.length ≤ 100000) : MgL (mg0 k p e nm) := ⟨by simp [mg0], by simp [mg0], h, by simp [mg0], by simp [mg0]⟩
def okMg (m : MsgT) (ys : List UInt8) : Except Int (MsgT × List UInt8) := if mgR m = true then .ok (m, ys) else .error 11
/-- The next message, if it is no turn. -/
def rdMg0 (xs : List UInt8) : Except Int (MsgT × List UInt8) :=
  bdm (rdNumber 9223372036854775807 xs) fun k ys =>
    if k = 1 then bdm (rdName ys) fun nm zs => bdm (rdNumber 2 zs) fun p us => okMg (mg0 1 p 0 nm) us
    else if k = 5 then bdm (rdNumber 99 ys) fun e zs => okMg (mg0 5 0 e []) zs
    else okMg (mg0 k 0 0 []) ys
def NoTurn (xs : List UInt8) : Prop := ∀ ys, rdNumber 9223372036854775807 xs ≠ .ok (2, ys)
set_option maxRecDepth 100000 in
set_option maxHeartbeats 8000000 in
theorem msgGet0_c {fr al : Nat → Prop} {W : World} {r : Nat} {xs : List UInt8} (st : Own fr al W [rdI r xs] W) (hl : xs.length ≤ 100000) (hnt : NoTurn xs) :
    Calls Try.prog 155 #[.pointer (some ⟨r, 0, none⟩)] W (RdC fr al W r (rdMg0 xs) fun s v M => v = mgV s ∧ M = []) := by
  have HNT := Lib.hid hnt
  clear hnt
  go_enter Try.func155, Try.ntmps155
  go_wp2_with ((((with_reducible refine wl_alloc ?_ (fun K hK => ?_)); rfl; refine owp_alloc (o := ⟨some 2, _, _, _, _, _⟩) rfl st ?_; apply Exists.intro; apply Exists.intro; refine ⟨?_, ?_⟩; (focus (first | (go_simp; done) | (go_simp; rfl))); (clear st; intro b2 w hb st; clear hb))); (try simp only [nsl, Value.cells, unB] at st); (try clear hc); have hc := st.facts; (try simp only [nfl, nft, Nat.reduceAdd] at hc))
  obtain ⟨fr', al', st', back⟩ := st.sub [0] (by decide) (by simp)
  (try simp only [nsl, Value.cells, unB] at st')
  refine (number_c st' 9223372036854775807).mono ?_
  clear st'
  intro en w hen
  unfold RdC at hen
  cases hr : rdNumber 9223372036854775807 xs with
  | error e =>
    rw [hr] at hen
    obtain ⟨rfl, st'⟩ := hen
    replace st := back _ _ (by simp) st'
    clear back st'
    (try simp only [nsl, Value.cells, unB] at st)
    (try clear hc); have hc := st.facts; (try simp only [nfl, nft, Nat.reduceAdd] at hc)
    have H1 : Hid (rdMg0 xs = .error e) := Lib.hid (by simp [rdMg0,  hr, bdm])
    clear hr
    go_wp2_with fail
    refine ⟨rfl, ?_⟩
    unfold RdC
    rw [H1.out]
    have st' := st.keep [0] (by decide) (by simp)
    exact ⟨rfl, by simpa [pick] using st'⟩
  | ok p =>
    obtain ⟨k, ys⟩ := p
    have hk2 : k ≠ 2 := fun q => HNT.out ys (by rw [hr, q])
    have hl1 := rdNumber_leM hr
    rw [hr] at hen
    obtain ⟨v, M, rfl, ⟨rfl, rfl⟩, st'⟩ := hen
    replace st := back _ _ (by simp) st'
    clear back st'
    (try simp only [nsl, Value.cells, unB] at st)
    (try clear hc); have hc := st.facts; (try simp only [nfl, nft, Nat.reduceAdd] at hc)
    have HR1 := Lib.hid hr
    clear hr
    by_cases k1 : k = 1
    · subst k1
      clear hk2
      go_wp2_with ((first
            | ((with_reducible refine wl_alloc ?_ (fun K hK => ?_)); rfl; refine owp_alloc (o := ⟨some 3, _, _, _, _, _⟩) rfl st ?_; apply Exists.intro; apply Exists.intro; refine ⟨?_, ?_⟩; (focus (first | (go_simp; done) | (go_simp; rfl))); (clear st; intro b3 w hb st; clear hb))
            | ((with_reducible refine wl_store ?_ (fun K hK => ?_)); rfl; refine owp_store rfl st ?_; apply Exists.intro; apply Exists.intro; refine ⟨?_, ?_, ?_⟩; (focus (go_simp; try rfl)); (focus (go_simp; try rfl)); (with_reducible refine ⟨2, _, _, _, _, get2, rfl, rfl, ?_, ?_, ?_, ?_⟩); (kernel_rfl); (simp [Value.cells]); (rfl); (clear st; intro w st))); (try simp only [nsl, Value.cells, unB] at st); (try clear hc); have hc := st.facts; (try simp only [nfl, nft, Nat.reduceAdd] at hc))
      obtain ⟨fr', al', st', back⟩ := st.sub [0] (by decide) (by simp)
      (try simp only [nsl, Value.cells, unB] at st')
      refine (nameGet_c st' (by omega)).mono ?_
      clear st'
      intro en w hen
      unfold RdC at hen
      cases hr : rdName ys with
      | error e =>
        rw [hr] at hen
        obtain ⟨rfl, st'⟩ := hen
        replace st := back _ _ (by simp) st'
        clear back st'
        (try simp only [nsl, Value.cells, unB] at st)
        (try clear hc); have hc := st.facts; (try simp only [nfl, nft, Nat.reduceAdd] at hc)
        have H1 : Hid (rdMg0 xs = .error e) := Lib.hid (by simp [rdMg0, HR1.out, hr, bdm])
        clear hr
        go_wp2_with fail
        refine ⟨rfl, ?_⟩
        unfold RdC
        rw [H1.out]
        have st' := st.keep [0] (by decide) (by simp)
        exact ⟨rfl, by simpa [pick] using st'⟩
      | ok p =>
        obtain ⟨nm, zs⟩ := p
        have hl2 := rdName_le hr
        have hl2b := (nameR_len hl2.2).2
        rw [hr] at hen
        obtain ⟨v, M, rfl, ⟨rfl, rfl⟩, st'⟩ := hen
        replace st := back _ _ (by simp) st'
        clear back st'
        (try simp only [nsl, Value.cells, unB] at st)
        (try clear hc); have hc := st.facts; (try simp only [nfl, nft, Nat.reduceAdd] at hc)
        have HR2 := Lib.hid hr
        clear hr
        unfold S
        go_wp2_with ((((with_reducible refine wl_store ?_ (fun K hK => ?_)); rfl; refine owp_store rfl st ?_; apply Exists.intro; apply Exists.intro; refine ⟨?_, ?_, ?_⟩; (focus (go_simp; try rfl)); (focus (go_simp; try rfl)); (with_reducible refine ⟨2, _, _, _, _, get2, rfl, rfl, ?_, ?_, ?_, ?_⟩); (kernel_rfl); (simp [Value.cells]); (rfl); (clear st; intro w st))); (try simp only [nsl, Value.cells, unB] at st); (try clear hc); have hc := st.facts; (try simp only [nfl, nft, Nat.reduceAdd] at hc))
        obtain ⟨fr', al', st', back⟩ := st.sub [0] (by decide) (by simp)
        (try simp only [nsl, Value.cells, unB] at st')
        refine (number_c st' 2).mono ?_
        clear st'
        intro en w hen
        unfold RdC at hen
        cases hr : rdNumber 2 zs with
        | error e =>
          rw [hr] at hen
          obtain ⟨rfl, st'⟩ := hen
          replace st := back _ _ (by simp) st'
          clear back st'
          (try simp only [nsl, Value.cells, unB] at st)
          (try clear hc); have hc := st.facts; (try simp only [nfl, nft, Nat.reduceAdd] at hc)
          have H1 : Hid (rdMg0 xs = .error e) := Lib.hid (by simp [rdMg0, HR1.out, HR2.out, hr, bdm])
          clear hr
          go_wp2_with fail
          refine ⟨rfl, ?_⟩
          unfold RdC
          rw [H1.out]
          have st' := st.keep [0] (by decide) (by simp)
          exact ⟨rfl, by simpa [pick] using st'⟩
        | ok p =>
          obtain ⟨pl, us⟩ := p
          rw [hr] at hen
          obtain ⟨v, M, rfl, ⟨rfl, rfl⟩, st'⟩ := hen
          replace st := back _ _ (by simp) st'
          clear back st'
          (try simp only [nsl, Value.cells, unB] at st)
          (try clear hc); have hc := st.facts; (try simp only [nfl, nft, Nat.reduceAdd] at hc)
          have HR3 := Lib.hid hr
          clear hr
          have HQ := Lib.hid (fun W => msgRight_any (mg0 1 pl 0 nm) W (mg0_ok W _ _ _ _) (mg0_L (by first | omega | simp)))
          unfold mgV mg0 S at HQ
          simp only at HQ
          go_wp2_with ((((with_reducible refine wl_store ?_ (fun K hK => ?_)); rfl; refine owp_store rfl st ?_; apply Exists.intro; apply Exists.intro; refine ⟨?_, ?_, ?_⟩; (focus (go_simp; try rfl)); (focus (go_simp; try rfl)); (with_reducible refine ⟨2, _, _, _, _, get2, rfl, rfl, ?_, ?_, ?_, ?_⟩); (kernel_rfl); (simp [Value.cells]); (rfl); (clear st; intro w st))); (try simp only [nsl, Value.cells, unB] at st); (try clear hc); have hc := st.facts; (try simp only [nfl, nft, Nat.reduceAdd] at hc))
          refine (HQ.out _).mono ?_
          rintro en w ⟨rfl, hx⟩
          replace st := st.ext hx
          clear hx
          cases hmr : mgR (mg0 1 pl 0 nm) with
          | true =>
            have H1 : Hid (rdMg0 xs = .ok ((mg0 1 pl 0 nm), us)) := Lib.hid (by simp [rdMg0, HR1.out, HR2.out, HR3.out, bdm, okMg, hmr])
            have hmr2 := hmr
            unfold mg0 at hmr2
            rw [hmr2]
            clear hmr hmr2 HQ
            (try simp only [nsl, Value.cells, unB] at st)
            (try clear hc); have hc := st.facts; (try simp only [nfl, nft, Nat.reduceAdd] at hc)
            go_wp2_with ((((with_reducible refine wl_store ?_ (fun K hK => ?_)); rfl; refine owp_store rfl st ?_; apply Exists.intro; apply Exists.intro; refine ⟨?_, ?_, ?_⟩; (focus (go_simp; try rfl)); (focus (go_simp; try rfl)); (with_reducible refine ⟨1, _, _, _, _, get1, rfl, rfl, ?_, ?_, ?_, ?_⟩); (kernel_rfl); (simp [Value.cells]); (rfl); (clear st; intro w st))); (try simp only [nsl, Value.cells, unB] at st); (try clear hc); have hc := st.facts; (try simp only [nfl, nft, Nat.reduceAdd] at hc))
            (try simp only [Exit.inBlock, Exit.then])
            refine bodyPost_cell rfl rfl (st.blk (i := 1) get1) Try.underlying111 rfl (by kernel_rfl) rfl ?_
            unfold RdC
            rw [H1.out]
            have st' := st.keep [0] (by decide) (by simp)
            exact ⟨_, [], rfl, ⟨rfl, rfl⟩, by simpa [pick] using st'⟩
          | false =>
            have H1 : Hid (rdMg0 xs = .error 11) := Lib.hid (by simp [rdMg0, HR1.out, HR2.out, HR3.out, bdm, okMg, hmr])
            have hmr2 := hmr
            unfold mg0 at hmr2
            rw [hmr2]
            clear hmr hmr2 HQ
            (try simp only [nsl, Value.cells, unB] at st)
            (try clear hc); have hc := st.facts; (try simp only [nfl, nft, Nat.reduceAdd] at hc)
            obtain ⟨_, sq, ⟨_, hrd⟩, _⟩ := st.get (i := 0) (I := rdI r us) get0
            have HRD := Lib.hid hrd.any
            clear hrd
            go_wp2_with fail
            refine (fail_any _ r 11 HRD.out (by decide)).mono ?_
            rintro en w' ⟨rfl, rfl⟩
            go_wp2_with fail
            refine ⟨rfl, ?_⟩
            unfold RdC
            rw [H1.out]
            have st' := (st.rdAny (i := 0) get0).keep [0] (by decide) (by simp)
            exact ⟨rfl, by simpa [pick] using st'⟩
    · have k1b : ((k : Int) == 1) = false := by simpa using (by omega : (k : Int) ≠ 1)
      have k2b : ((k : Int) == 2) = false := by simpa using (by omega : (k : Int) ≠ 2)
      by_cases k5 : k = 5
      · subst k5
        clear hk2 k1
        go_wp2_with ((first
              | ((with_reducible refine wl_alloc ?_ (fun K hK => ?_)); rfl; refine owp_alloc (o := ⟨some 3, _, _, _, _, _⟩) rfl st ?_; apply Exists.intro; apply Exists.intro; refine ⟨?_, ?_⟩; (focus (first | (go_simp; done) | (go_simp; rfl))); (clear st; intro b3 w hb st; clear hb))
              | ((with_reducible refine wl_store ?_ (fun K hK => ?_)); rfl; refine owp_store rfl st ?_; apply Exists.intro; apply Exists.intro; refine ⟨?_, ?_, ?_⟩; (focus (go_simp; try rfl)); (focus (go_simp; try rfl)); (with_reducible refine ⟨2, _, _, _, _, get2, rfl, rfl, ?_, ?_, ?_, ?_⟩); (kernel_rfl); (simp [Value.cells]); (rfl); (clear st; intro w st))); (try simp only [nsl, Value.cells, unB] at st); (try clear hc); have hc := st.facts; (try simp only [nfl, nft, Nat.reduceAdd] at hc))
        obtain ⟨fr', al', st', back⟩ := st.sub [0] (by decide) (by simp)
        (try simp only [nsl, Value.cells, unB] at st')
        refine (number_c st' 99).mono ?_
        clear st'
        intro en w hen
        unfold RdC at hen
        cases hr : rdNumber 99 ys with
        | error e =>
          rw [hr] at hen
          obtain ⟨rfl, st'⟩ := hen
          replace st := back _ _ (by simp) st'
          clear back st'
          (try simp only [nsl, Value.cells, unB] at st)
          (try clear hc); have hc := st.facts; (try simp only [nfl, nft, Nat.reduceAdd] at hc)
          have H1 : Hid (rdMg0 xs = .error e) := Lib.hid (by simp [rdMg0, HR1.out, hr, bdm])
          clear hr
          go_wp2_with fail
          refine ⟨rfl, ?_⟩
          unfold RdC
          rw [H1.out]
          have st' := st.keep [0] (by decide) (by simp)
          exact ⟨rfl, by simpa [pick] using st'⟩
        | ok p =>
          obtain ⟨en, us⟩ := p
          rw [hr] at hen
          obtain ⟨v, M, rfl, ⟨rfl, rfl⟩, st'⟩ := hen
          replace st := back _ _ (by simp) st'
          clear back st'
          (try simp only [nsl, Value.cells, unB] at st)
          (try clear hc); have hc := st.facts; (try simp only [nfl, nft, Nat.reduceAdd] at hc)
          have HR3 := Lib.hid hr
          clear hr
          have HQ := Lib.hid (fun W => msgRight_any (mg0 5 0 en []) W (mg0_ok W _ _ _ _) (mg0_L (by first | omega | simp)))
          unfold mgV mg0 S at HQ
          simp only at HQ
          go_wp2_with ((((with_reducible refine wl_store ?_ (fun K hK => ?_)); rfl; refine owp_store rfl st ?_; apply Exists.intro; apply Exists.intro; refine ⟨?_, ?_, ?_⟩; (focus (go_simp; try rfl)); (focus (go_simp; try rfl)); (with_reducible refine ⟨2, _, _, _, _, get2, rfl, rfl, ?_, ?_, ?_, ?_⟩); (kernel_rfl); (simp [Value.cells]); (rfl); (clear st; intro w st))); (try simp only [nsl, Value.cells, unB] at st); (try clear hc); have hc := st.facts; (try simp only [nfl, nft, Nat.reduceAdd] at hc))
          refine (HQ.out _).mono ?_
          rintro en w ⟨rfl, hx⟩
          replace st := st.ext hx
          clear hx
          cases hmr : mgR (mg0 5 0 en []) with
          | true =>
            have H1 : Hid (rdMg0 xs = .ok ((mg0 5 0 en []), us)) := Lib.hid (by simp [rdMg0, HR1.out, HR3.out, bdm, okMg, hmr])
            have hmr2 := hmr
            unfold mg0 at hmr2
            rw [hmr2]
            clear hmr hmr2 HQ
            (try simp only [nsl, Value.cells, unB] at st)
            (try clear hc); have hc := st.facts; (try simp only [nfl, nft, Nat.reduceAdd] at hc)
            go_wp2_with ((((with_reducible refine wl_store ?_ (fun K hK => ?_)); rfl; refine owp_store rfl st ?_; apply Exists.intro; apply Exists.intro; refine ⟨?_, ?_, ?_⟩; (focus (go_simp; try rfl)); (focus (go_simp; try rfl)); (with_reducible refine ⟨1, _, _, _, _, get1, rfl, rfl, ?_, ?_, ?_, ?_⟩); (kernel_rfl); (simp [Value.cells]); (rfl); (clear st; intro w st))); (try simp only [nsl, Value.cells, unB] at st); (try clear hc); have hc := st.facts; (try simp only [nfl, nft, Nat.reduceAdd] at hc))
            (try simp only [Exit.inBlock, Exit.then])
            refine bodyPost_cell rfl rfl (st.blk (i := 1) get1) Try.underlying111 rfl (by kernel_rfl) rfl ?_
            unfold RdC
            rw [H1.out]
            have st' := st.keep [0] (by decide) (by simp)
            exact ⟨_, [], rfl, ⟨rfl, rfl⟩, by simpa [pick] using st'⟩
          | false =>
            have H1 : Hid (rdMg0 xs = .error 11) := Lib.hid (by simp [rdMg0, HR1.out, HR3.out, bdm, okMg, hmr])
            have hmr2 := hmr
            unfold mg0 at hmr2
            rw [hmr2]
            clear hmr hmr2 HQ
            (try simp only [nsl, Value.cells, unB] at st)
            (try clear hc); have hc := st.facts; (try simp only [nfl, nft, Nat.reduceAdd] at hc)
            obtain ⟨_, sq, ⟨_, hrd⟩, _⟩ := st.get (i := 0) (I := rdI r us) get0
            have HRD := Lib.hid hrd.any
            clear hrd
            go_wp2_with fail
            refine (fail_any _ r 11 HRD.out (by decide)).mono ?_
            rintro en w' ⟨rfl, rfl⟩
            go_wp2_with fail
            refine ⟨rfl, ?_⟩
            unfold RdC
            rw [H1.out]
            have st' := (st.rdAny (i := 0) get0).keep [0] (by decide) (by simp)
            exact ⟨rfl, by simpa [pick] using st'⟩
      · have k5b : ((k : Int) == 5) = false := by simpa using (by omega : (k : Int) ≠ 5)
        have HK := Lib.hid (And.intro k1 k5)
        clear hk2 k1 k5
        have HQ := Lib.hid (fun W => msgRight_any (mg0 k 0 0 []) W (mg0_ok W _ _ _ _) (mg0_L (by first | omega | simp)))
        unfold mgV mg0 S at HQ
        simp only at HQ
        go_wp2_with ((first
              | ((with_reducible refine wl_alloc ?_ (fun K hK => ?_)); rfl; refine owp_alloc (o := ⟨some 3, _, _, _, _, _⟩) rfl st ?_; apply Exists.intro; apply Exists.intro; refine ⟨?_, ?_⟩; (focus (first | (go_simp; done) | (go_simp; rfl))); (clear st; intro b3 w hb st; clear hb))
              | ((with_reducible refine wl_store ?_ (fun K hK => ?_)); rfl; refine owp_store rfl st ?_; apply Exists.intro; apply Exists.intro; refine ⟨?_, ?_, ?_⟩; (focus (go_simp; try rfl)); (focus (go_simp; try rfl)); (with_reducible refine ⟨2, _, _, _, _, get2, rfl, rfl, ?_, ?_, ?_, ?_⟩); (kernel_rfl); (simp [Value.cells]); (rfl); (clear st; intro w st))); (try simp only [nsl, Value.cells, unB] at st); (try clear hc); have hc := st.facts; (try simp only [nfl, nft, Nat.reduceAdd] at hc))
        refine (HQ.out _).mono ?_
        rintro en w ⟨rfl, hx⟩
        replace st := st.ext hx
        clear hx
        cases hmr : mgR (mg0 k 0 0 []) with
        | true =>
          have H1 : Hid (rdMg0 xs = .ok ((mg0 k 0 0 []), ys)) := Lib.hid (by simp [rdMg0, HR1.out, HK.out.1, HK.out.2, bdm, okMg, hmr])
          have hmr2 := hmr
          unfold mg0 at hmr2
          rw [hmr2]
          clear hmr hmr2 HQ
          (try simp only [nsl, Value.cells, unB] at st)
          (try clear hc); have hc := st.facts; (try simp only [nfl, nft, Nat.reduceAdd] at hc)
          go_wp2_with ((((with_reducible refine wl_store ?_ (fun K hK => ?_)); rfl; refine owp_store rfl st ?_; apply Exists.intro; apply Exists.intro; refine ⟨?_, ?_, ?_⟩; (focus (go_simp; try rfl)); (focus (go_simp; try rfl)); (with_reducible refine ⟨1, _, _, _, _, get1, rfl, rfl, ?_, ?_, ?_, ?_⟩); (kernel_rfl); (simp [Value.cells]); (rfl); (clear st; intro w st))); (try simp only [nsl, Value.cells, unB] at st); (try clear hc); have hc := st.facts; (try simp only [nfl, nft, Nat.reduceAdd] at hc))
          (try simp only [Exit.inBlock, Exit.then])
          refine bodyPost_cell rfl rfl (st.blk (i := 1) get1) Try.underlying111 rfl (by kernel_rfl) rfl ?_
          unfold RdC
          rw [H1.out]
          have st' := st.keep [0] (by decide) (by simp)
          exact ⟨_, [], rfl, ⟨rfl, rfl⟩, by simpa [pick] using st'⟩
        | false =>
          have H1 : Hid (rdMg0 xs = .error 11) := Lib.hid (by simp [rdMg0, HR1.out, HK.out.1, HK.out.2, bdm, okMg, hmr])
          have hmr2 := hmr
          unfold mg0 at hmr2
          rw [hmr2]
          clear hmr hmr2 HQ
          (try simp only [nsl, Value.cells, unB] at st)
          (try clear hc); have hc := st.facts; (try simp only [nfl, nft, Nat.reduceAdd] at hc)
          obtain ⟨_, sq, ⟨_, hrd⟩, _⟩ := st.get (i := 0) (I := rdI r ys) get0
          have HRD := Lib.hid hrd.any
          clear hrd
          go_wp2_with fail
          refine (fail_any _ r 11 HRD.out (by decide)).mono ?_
          rintro en w' ⟨rfl, rfl⟩
          go_wp2_with fail
          refine ⟨rfl, ?_⟩
          unfold RdC
          rw [H1.out]
          have st' := (st.rdAny (i := 0) get0).keep [0] (by decide) (by simp)
          exact ⟨rfl, by simpa [pick] using st'⟩
set_option maxRecDepth 100000 in
set_option maxHeartbeats 1000000 in
theorem msgRead1_c {fr al : Nat → Prop} {W : World} {r b : Nat} {xs : List UInt8} (st : Own fr al W [rdI r xs, blkI b (mgC (mg0 0 0 0 []))] W) (hl : xs.length ≤ 100000) (hnt : NoTurn xs) :
    Calls Try.prog 154 #[.pointer (some ⟨r, 0, none⟩), .pointer (some ⟨b, 0, none⟩)] W (GetPost fr al W r b (rdMg0 xs) (mgC (mg0 0 0 0 [])) mgC) := by
  have HNT := Lib.hid hnt
  clear hnt
  go_enter Try.func154, Try.ntmps154
  go_wp2_with fail
  obtain ⟨fr', al', st', back⟩ := st.sub [0] (by decide) (by simp)
  (try simp only [nsl, Value.cells, unB] at st')
  refine (msgGet0_c st' hl HNT.out).mono ?_
  clear st'
  intro en w hen
  unfold RdC at hen
  cases hr : rdMg0 xs with
  | error e =>
    rw [hr] at hen
    obtain ⟨rfl, st'⟩ := hen
    replace st := back _ _ (by simp) st'
    clear back st'
    (try simp only [nsl, Value.cells, unB] at st)
    (try clear hc); have hc := st.facts; (try simp only [nfl, nft, Nat.reduceAdd] at hc)
    have HR := Lib.hid hr
    clear hr
    go_wp2_with fail
    refine ⟨rfl, ?_⟩
    unfold GetPost
    (try rw [HR.out])
    exact ⟨rfl, st⟩
  | ok p =>
    obtain ⟨x, ys⟩ := p
    rw [hr] at hen
    obtain ⟨v, M, rfl, ⟨rfl, rfl⟩, st'⟩ := hen
    replace st := back _ _ (by simp) st'
    clear back st'
    (try simp only [nsl, Value.cells, unB] at st)
    (try clear hc); have hc := st.facts; (try simp only [nfl, nft, Nat.reduceAdd] at hc)
    have HR := Lib.hid hr
    clear hr
    unfold mgC at st
    unfold mgV S
    (try simp only [nsl, Value.cells, unB] at st)
    (try clear hc); have hc := st.facts; (try simp only [nfl, nft, Nat.reduceAdd] at hc)
    go_wp2_with ((((with_reducible refine wl_store ?_ (fun K hK => ?_)); rfl; refine owp_store rfl st ?_; apply Exists.intro; apply Exists.intro; refine ⟨?_, ?_, ?_⟩; (focus (go_simp; try rfl)); (focus (go_simp; try rfl)); (with_reducible refine ⟨1, _, _, _, _, get1, rfl, rfl, ?_, ?_, ?_, ?_⟩); (kernel_rfl); (simp [Value.cells]); (rfl); (clear st; intro w st))); (try simp only [nsl, Value.cells, unB] at st); (try clear hc); have hc := st.facts; (try simp only [nfl, nft, Nat.reduceAdd] at hc))
    go_end0
    unfold GetPost
    (try rw [HR.out])
    exact ⟨rfl, by simpa [S, mgC] using st⟩
/-- What a message is read as. -/
def readV (res : Except Int (MsgT × List UInt8)) : Value := match res with
  | .ok (m, []) => .tuple #[mgV m, .int .i64 0]
  | .ok (_, _ :: _) => .tuple #[mgV (mg0 0 0 0 []), .int .i64 13]
  | .error e => .tuple #[mgV (mg0 0 0 0 []), .int .i64 e]
set_option maxRecDepth 100000 in
set_option maxHeartbeats 2000000 in
theorem msgRead0_any (a : Option Addr) (n c : Nat) (xs : List UInt8) (W : World) (h : By W a n xs) (hc : n ≤ c ∧ c ≤ maxLen) (hl : xs.length ≤ 100000) (hnt : NoTurn xs) (her : ∀ e, rdMg0 xs = .error e → e ≠ 0) :
    Calls Try.prog 78 #[.slice a n c] W fun e w' => e = .returned (readV (rdMg0 xs)) ∧ Ext W w' := by
  have HC := Lib.hid hc
  have HNT := Lib.hid hnt
  have HER := Lib.hid her
  have HN : Hid (n = xs.length) := Lib.hid h.1
  have st := (Own.startOld W).addOldBy (i := 0) rfl h
  clear h hc hnt her
  (try simp only [nsl, Value.cells, unB] at st)
  (try clear hc); have hc := st.facts; (try simp only [nfl, nft, Nat.reduceAdd] at hc)
  go_enter Try.func78, Try.ntmps78
  go_wp2_with ((first
        | ((with_reducible refine wl_alloc ?_ (fun K hK => ?_)); rfl; refine owp_alloc (o := ⟨some 2, _, _, _, _, _⟩) rfl st ?_; apply Exists.intro; apply Exists.intro; refine ⟨?_, ?_⟩; (focus (first | (go_simp; done) | (go_simp; rfl))); (clear st; intro b2 w hb st; clear hb))
        | ((with_reducible refine wl_alloc ?_ (fun K hK => ?_)); rfl; refine owp_alloc (o := ⟨some 4, _, _, _, _, _⟩) rfl st ?_; apply Exists.intro; apply Exists.intro; refine ⟨?_, ?_⟩; (focus (first | (go_simp; done) | (go_simp; rfl))); (clear st; intro b4 w hb st; clear hb))); (try simp only [nsl, Value.cells, unB] at st); (try clear hc); have hc := st.facts; (try simp only [nfl, nft, Nat.reduceAdd] at hc))
  refine (readGet_c (i := 3) (b := b4) (z := mgC (mg0 0 0 0 [])) st get3 (st.by (i := 1) get1) HC.out (by have := HN.out; omega) 154 (fun _ _ => by kernel_rfl) (rdMg0 xs) mgC (fun fr al w r st => msgRead1_c st hl HNT.out)).mono ?_
  rintro en w ⟨r1, rfl, st'⟩
  clear st
  have st := st'.keep [3, 4] (by decide) (by simp)
  clear st'
  simp only [pick, List.map_cons, List.map_nil, List.set, List.getElem?_cons_zero, List.getElem?_cons_succ, Option.getD_some] at st
  cases hr : rdMg0 xs with
  | error e =>
    have he := HER.out e hr
    have heb : (e != 0) = true := by simpa using he
    rw [hr] at st
    have HV : Hid (readV (rdMg0 xs) = .tuple #[mgV (mg0 0 0 0 []), .int .i64 e]) := Lib.hid (by rw [hr]; rfl)
    simp only [gotE, gotZ, mgC, mg0, S] at st ⊢
    clear hr he
    (try simp only [nsl, Value.cells, unB] at st)
    (try clear hc); have hc := st.facts; (try simp only [nfl, nft, Nat.reduceAdd] at hc)
    go_wp2_with ((((with_reducible refine wl_store ?_ (fun K hK => ?_)); rfl; refine owp_store rfl st ?_; apply Exists.intro; apply Exists.intro; refine ⟨?_, ?_, ?_⟩; (focus (go_simp; try rfl)); (focus (go_simp; try rfl)); (with_reducible refine ⟨0, _, _, _, _, get0, rfl, rfl, ?_, ?_, ?_, ?_⟩); (kernel_rfl); (simp [Value.cells]); (rfl); (clear st; intro w st))); (try simp only [nsl, Value.cells, unB] at st); (try clear hc); have hc := st.facts; (try simp only [nfl, nft, Nat.reduceAdd] at hc))
    (try simp only [Exit.inBlock, Exit.then])
    refine bodyPost_cell2 rfl rfl (st.blk (i := 0) get0) Try.underlying111 rfl (by kernel_rfl) rfl ?_
    exact ⟨by rw [HV.out]; rfl, st.ext0⟩
  | ok p =>
    obtain ⟨m, ys⟩ := p
    rw [hr] at st
    simp only [gotE, gotZ, mgC, S] at st ⊢
    cases ys with
    | nil =>
      have HV : Hid (readV (rdMg0 xs) = .tuple #[mgV m, .int .i64 0]) := Lib.hid (by rw [hr]; rfl)
      clear hr
      simp only [if_true]
      (try simp only [nsl, Value.cells, unB] at st)
      (try clear hc); have hc := st.facts; (try simp only [nfl, nft, Nat.reduceAdd] at hc)
      go_wp2_with ((((with_reducible refine wl_store ?_ (fun K hK => ?_)); rfl; refine owp_store rfl st ?_; apply Exists.intro; apply Exists.intro; refine ⟨?_, ?_, ?_⟩; (focus (go_simp; try rfl)); (focus (go_simp; try rfl)); (with_reducible refine ⟨0, _, _, _, _, get0, rfl, rfl, ?_, ?_, ?_, ?_⟩); (kernel_rfl); (simp [Value.cells]); (rfl); (clear st; intro w st))); (try simp only [nsl, Value.cells, unB] at st); (try clear hc); have hc := st.facts; (try simp only [nfl, nft, Nat.reduceAdd] at hc))
      (try simp only [Exit.inBlock, Exit.then])
      refine bodyPost_cell2 rfl rfl (st.blk (i := 0) get0) Try.underlying111 rfl (by kernel_rfl) rfl ?_
      exact ⟨by rw [HV.out]; rfl, st.ext0⟩
    | cons y ys =>
      have HV : Hid (readV (rdMg0 xs) = .tuple #[mgV (mg0 0 0 0 []), .int .i64 13]) := Lib.hid (by rw [hr]; rfl)
      clear hr
      simp only [if_neg (List.cons_ne_nil y ys)]
      (try simp only [nsl, Value.cells, unB] at st)
      (try clear hc); have hc := st.facts; (try simp only [nfl, nft, Nat.reduceAdd] at hc)
      go_wp2_with ((((with_reducible refine wl_store ?_ (fun K hK => ?_)); rfl; refine owp_store rfl st ?_; apply Exists.intro; apply Exists.intro; refine ⟨?_, ?_, ?_⟩; (focus (go_simp; try rfl)); (focus (go_simp; try rfl)); (with_reducible refine ⟨0, _, _, _, _, get0, rfl, rfl, ?_, ?_, ?_, ?_⟩); (kernel_rfl); (simp [Value.cells]); (rfl); (clear st; intro w st))); (try simp only [nsl, Value.cells, unB] at st); (try clear hc); have hc := st.facts; (try simp only [nfl, nft, Nat.reduceAdd] at hc))
      (try simp only [Exit.inBlock, Exit.then])
      refine bodyPost_cell2 rfl rfl (st.blk (i := 0) get0) Try.underlying111 rfl (by kernel_rfl) rfl ?_
      exact ⟨by rw [HV.out]; rfl, st.ext0⟩
end Go.Proofs.Ytekngjkjgmplpaa

namespace Go.Proofs.Ytekngjkjgmplpaa
set_option linter.unusedSimpArgs false
set_option linter.unusedVariables false
open Go Go.RowKit
def refMgR (x : MsgT) : Bool :=
  if x.k < 1 ∨ 5 < x.k then false
  else if (x.k ≠ 1 ∧ (x.nm ≠ [] ∨ x.p ≠ 0)) ∨ (x.k ≠ 2 ∧ 0 < x.ws.length + x.ss.length) ∨ (x.k ≠ 5 ∧ x.e ≠ 0) then false
  else if x.k = 1 then nameR x.nm && decide (1 ≤ x.p) && decide (x.p ≤ 2)
  else if x.k = 5 then decide (1 ≤ x.e) && decide (x.e ≤ 99)
  else if 16 < x.ws.length ∨ 8 < x.ss.length ∨ roleSet x.ws ≠ x.ws then false
  else (List.range x.ss.length).all (shAt x.ss)
theorem sameSs_refl : ∀ l : List SgnT, sameSs l l = true
  | [] => rfl
  | x :: l => by unfold sameSs sameSg; rw [credEq_self, sameSs_refl l]; simp
theorem sameSs_nil (l : List SgnT) : sameSs [] l = decide (l = []) := by cases l <;> rfl
theorem roleSet_nil : roleSet ([] : List Role) = [] := by
  have := roleSet_len ([] : List Role)
  exact List.eq_nil_of_length_eq_zero (by simpa using this)
theorem showsR_nil : showsR [] = true := by decide
theorem showsR_eq (l : List SgnT) : showsR l = ((List.range l.length).all (shAt l) && decide (l.length ≤ 8)) := rfl
theorem refMgR_eq (x : MsgT) : refMgR x = mgR x := by
  obtain ⟨k, p, e, nm, wa, wn, wc, ws, sa, sn, sc, ss⟩ := x
  have hlen : (0 < ws.length + ss.length) ↔ ¬ (ws = [] ∧ ss = []) := by
    cases ws <;> cases ss <;> (try simp) <;> (try omega)
  unfold refMgR mgR kindR bareMg sameMg
  simp only
  by_cases k1 : k = 1
  · subst k1
    simp only [if_true, if_pos, sameSs_nil]
    rw [if_neg (by decide)]
    by_cases h1 : ws = [] ∧ ss = []
    · obtain ⟨rfl, rfl⟩ := h1
      by_cases h2 : e = 0
      · subst h2
        have hp : (decide (1 ≤ p) && decide (p ≤ 2)) = (decide (p = 1) || decide (p = 2)) := by rw [Bool.eq_iff_iff]; simp; omega
        rw [Bool.and_assoc, hp]
        simp
      · have h2' : ((0 : Int) == e) = false := by simpa using Ne.symm h2
        simp [h2, h2']
    · rw [if_pos (.inr (.inl ⟨by decide, hlen.2 h1⟩))]
      by_cases h3 : ws = []
      · have h4 : ss ≠ [] := fun q => h1 ⟨h3, q⟩
        simp [h3, h4]
      · have h3' : ¬ ([] = ws) := fun q => h3 q.symm
        simp [h3']
  by_cases k2 : k = 2
  · subst k2
    simp only [if_neg k1, if_true, if_pos, sameSs_refl]
    rw [if_neg (by decide)]
    by_cases h1 : nm = []
    · subst h1
      by_cases h2 : p = 0
      · subst h2
        by_cases h3 : e = 0
        · subst h3
          have hw : wantsR ws = (decide (ws.length ≤ 16) && decide (roleSet ws = ws)) := rfl
          rw [hw, showsR_eq]
          by_cases h4 : 16 < ws.length
          · simp [h4]
            (try (intro q; omega))
          · by_cases h5 : 8 < ss.length
            · simp [h5]
              (try (intros; omega))
            · by_cases h6 : roleSet ws = ws
              · simp [h4, h5, h6, (by omega : ws.length ≤ 16), (by omega : ss.length ≤ 8)]
              · simp [h6]
        · have h3' : ((0 : Int) == e) = false := by simpa using Ne.symm h3
          simp [h3, h3']
      · have h2' : ((0 : Int) == p) = false := by simpa using Ne.symm h2
        simp [h2, h2']
    · have h1' : (([] : List UInt8) == nm) = false := by simpa using Ne.symm h1
      simp [h1, h1']
  by_cases k5 : k = 5
  · subst k5
    simp only [if_neg k1, if_neg k2, if_true, if_pos, sameSs_nil]
    rw [if_neg (by decide)]
    by_cases h1 : nm = []
    · subst h1
      by_cases h2 : p = 0
      · subst h2
        by_cases h3 : ws = [] ∧ ss = []
        · obtain ⟨rfl, rfl⟩ := h3
          simp
        · rw [if_pos (.inr (.inl ⟨by decide, hlen.2 h3⟩))]
          by_cases h4 : ws = []
          · have h5 : ss ≠ [] := fun q => h3 ⟨h4, q⟩
            simp [h4, h5]
          · have h4' : ¬ ([] = ws) := fun q => h4 q.symm
            simp [h4']
      · have h2' : ((0 : Int) == p) = false := by simpa using Ne.symm h2
        simp [h2, h2']
    · have h1' : (([] : List UInt8) == nm) = false := by simpa using Ne.symm h1
      simp [h1, h1']
  simp only [if_neg k1, if_neg k2, if_neg k5, sameSs_nil]
  by_cases hk : k < 1 ∨ 5 < k
  · have h3 : ¬ k = 3 := by omega
    have h4 : ¬ k = 4 := by omega
    rw [if_pos hk]
    simp [h3, h4]
  · have h34 : k = 3 ∨ k = 4 := by omega
    have h34b : (decide (k = 3) || decide (k = 4)) = true := by simpa using h34
    rw [if_neg hk, h34b]
    by_cases h1 : nm = []
    · subst h1
      by_cases h2 : p = 0
      · subst h2
        by_cases h3 : ws = [] ∧ ss = []
        · obtain ⟨rfl, rfl⟩ := h3
          by_cases h5 : e = 0
          · subst h5
            rw [roleSet_nil]
            simp
          · have h5' : ((0 : Int) == e) = false := by simpa using Ne.symm h5
            simp [h5, h5', k5]
        · rw [if_pos (.inr (.inl ⟨k2, hlen.2 h3⟩))]
          by_cases h4 : ws = []
          · have h5 : ss ≠ [] := fun q => h3 ⟨h4, q⟩
            simp [h4, h5]
          · have h4' : ¬ ([] = ws) := fun q => h4 q.symm
            simp [h4']
      · have h2' : ((0 : Int) == p) = false := by simpa using Ne.symm h2
        simp [h2, h2', k1]
    · have h1' : (([] : List UInt8) == nm) = false := by simpa using Ne.symm h1
      simp [h1, h1', k1]
end Go.Proofs.Ytekngjkjgmplpaa
