/- Nets: way, Len, Send, Next. -/
import Derived.Test.YtcminppmmhinjaaNetA
namespace Go.Proofs.Ytcminppmmhinjaa
set_option linter.unusedSimpArgs false
set_option linter.unusedVariables false
open Go Go.RowKit Go.Conc
def wayV (v0 v1 : Value) (to : Int) : Value := if to = 0 then v0 else if to = 1 then v1 else .chan none
set_option maxRecDepth 100000 in
set_option maxHeartbeats 1000000 in
theorem netWay_nil (to : Int) (W : World) : Calls Try.prog 89 #[.pointer none, .int .i64 to] W fun e w' => e = .returned (.chan none) ∧ W = w' := by
  go_enter Try.func89, Try.ntmps89
  go_wp2_with fail
  go_ret
  exact ⟨rfl, rfl⟩
set_option maxRecDepth 100000 in
set_option maxHeartbeats 1000000 in
theorem netWay_any (p : Nat) (v0 v1 : Value) (to : Int) (W : World) (h0 : W.cell? ⟨p, 0, none⟩ = some v0) (h1 : W.cell? ⟨p, 1, none⟩ = some v1) : Calls Try.prog 89 #[.pointer (some ⟨p, 0, none⟩), .int .i64 to] W fun e w' => e = .returned (wayV v0 v1 to) ∧ W = w' := by
  by_cases t0 : to = 0
  · subst t0
    go_enter Try.func89, Try.ntmps89
    go_wp2_with fail
    go_ret
    exact ⟨rfl, rfl⟩
  by_cases t1 : to = 1
  · subst t1
    go_enter Try.func89, Try.ntmps89
    go_wp2_with fail
    go_ret
    exact ⟨rfl, rfl⟩
  have hv : wayV v0 v1 to = .chan none := by unfold wayV; rw [if_neg t0, if_neg t1]
  rw [hv]
  rcases Int.lt_or_le to 0 with t2 | t2
  · skip
    go_enter Try.func89, Try.ntmps89
    go_wp2_with fail
    go_ret
    exact ⟨rfl, rfl⟩
  · have t3 : 2 ≤ to := by omega
    clear hv t0 t1
    go_enter Try.func89, Try.ntmps89
    go_wp2_with fail
    go_ret
    exact ⟨rfl, rfl⟩
set_option maxRecDepth 100000 in
set_option maxHeartbeats 2000000 in
theorem netNext_no (q : Value) (to : Int) (W : World) (hw : Calls Try.prog 89 #[q, .int .i64 to] W fun e w' => e = .returned (.chan none) ∧ W = w') : Calls Try.prog 16 #[q, .int .i64 to] W fun e w' => e = .returned (.tuple #[.slice none 0 0, .bool false]) ∧ W = w' := by
  go_enter Try.func16, Try.ntmps16
  generalize hR : Code.region 2 (_ : Array Oper) false = R
  go_wp2_with fail
  refine hw.mono ?_
  rintro en w' ⟨rfl, rfl⟩
  go_wp2_with fail
  subst hR
  refine wp_comm (cases := #[rcaseNil (.slice none 0 0)]) rfl rfl (by simp [go_sem, execOp, rcaseNil, Act.eval]; rfl) (fun fr cs es h => step_lone_select_recv_nil h) ?_
  go_wp2_with fail
  go_ret2
  exact ⟨rfl, rfl⟩
section
variable {fr al : Nat → Prop} {w0 w : World} {L : List It}
set_option maxRecDepth 100000 in
set_option maxHeartbeats 2000000 in
theorem netNext_some {p c : Nat} {v0 v1 : Value} {bs : List UInt8} {bss : List (List UInt8)} (to : Int) (hv : wayV v0 v1 to = .chan (some c)) (st : Own fr al w0 (blkI p [v0, v1] :: chI c (bs :: bss) :: L) w) :
    Calls Try.prog 16 #[.pointer (some ⟨p, 0, none⟩), .int .i64 to] w fun e w' => ∃ a n cc, e = .returned (.tuple #[.slice a n cc, .bool true]) ∧ (n ≤ cc ∧ cc ≤ maxLen) ∧ Own fr al w0 (blkI p [v0, v1] :: chI c bss :: (L ++ [byI a n bs])) w' := by
  have hb := st.blk (i := 0) get0
  go_enter Try.func16, Try.ntmps16
  generalize hR : Code.region 2 (_ : Array Oper) false = R
  go_wp2_with fail
  refine (netWay_any p v0 v1 to _ (hb.cell 0) (hb.cell 1)).mono ?_
  rintro en w' ⟨rfl, rfl⟩
  rw [hv]
  go_wp2_with fail
  subst hR
  obtain ⟨buf, sn, r, hbuf, hsz⟩ := st.chBuf (i := 1) get1
  obtain ⟨a, n, cc, hg, hc, st2⟩ := st.chRecv (i := 1) get1 hbuf
  have hs0 : 0 < buf.size := by rw [hsz]; simp
  clear hsz
  refine wp_comm (cases := #[rcase c (.slice none 0 0)]) rfl rfl (by simp [go_sem, execOp, rcase, Act.eval]) (fun fr cs es h => step_lone_select_recv_buf h hbuf hs0) ?_
  rw [hg]
  clear hs0
  go_wp2_with fail
  go_ret2
  exact ⟨a, n, cc, rfl, hc, by simpa using st2⟩
set_option maxRecDepth 100000 in
set_option maxHeartbeats 2000000 in
theorem netNext_none {p c : Nat} {v0 v1 : Value} (to : Int) (hv : wayV v0 v1 to = .chan (some c)) (st : Own fr al w0 (blkI p [v0, v1] :: chI c [] :: L) w) :
    Calls Try.prog 16 #[.pointer (some ⟨p, 0, none⟩), .int .i64 to] w fun e w' => e = .returned (.tuple #[.slice none 0 0, .bool false]) ∧ w = w' := by
  have hb := st.blk (i := 0) get0
  go_enter Try.func16, Try.ntmps16
  generalize hR : Code.region 2 (_ : Array Oper) false = R
  go_wp2_with fail
  refine (netWay_any p v0 v1 to _ (hb.cell 0) (hb.cell 1)).mono ?_
  rintro en w' ⟨rfl, rfl⟩
  rw [hv]
  go_wp2_with fail
  subst hR
  obtain ⟨buf, sn, r, hbuf, hsz⟩ := st.chBuf (i := 1) get1
  have hb0 : buf = #[] := Array.eq_empty_of_size_eq_zero hsz
  subst hb0
  refine wp_comm (cases := #[rcase c (.slice none 0 0)]) rfl rfl (by simp [go_sem, execOp, rcase, Act.eval]) (fun fr cs es h => step_lone_select_default h hbuf) ?_
  go_wp2_with fail
  go_ret2
  exact ⟨rfl, rfl⟩
set_option maxRecDepth 100000 in
set_option maxHeartbeats 2000000 in
theorem netSend_no (q : Value) (to : Int) (a : Option Addr) (n c : Nat) (bs : List UInt8) (W : World) (hw : Calls Try.prog 89 #[q, .int .i64 to] W fun e w' => e = .returned (.chan none) ∧ W = w') (hb : By W a n bs) (hc : n ≤ c ∧ c ≤ maxLen) (hn : n ≤ 140737488355328) :
    Calls Try.prog 17 #[q, .int .i64 to, .slice a n c] W fun e w' => e = .returned (.bool false) ∧ Ext W w' := by
  go_enter Try.func17, Try.ntmps17
  generalize hR : Code.region 3 (_ : Array Oper) false = R
  go_wp2_with fail
  refine hw.mono ?_
  rintro en w' ⟨rfl, rfl⟩
  go_wp2_with fail
  refine (clone_any a n c bs _ hb hc hn).mono ?_
  rintro en w' ⟨v, rfl, hrow, hx⟩
  go_wp2_with fail
  subst hR
  refine wp_comm (cases := #[scaseNil v (.slice none 0 0)]) rfl rfl (by simp [go_sem, execOp, scaseNil, Act.eval]; rfl) (fun fr cs es h => step_lone_select_send_nil h) ?_
  go_wp2_with fail
  go_ret
  exact ⟨rfl, hx⟩
set_option maxRecDepth 100000 in
set_option maxHeartbeats 2000000 in
theorem netSend_room {p ch : Nat} {v0 v1 : Value} {bss : List (List UInt8)} (to : Int) (hv : wayV v0 v1 to = .chan (some ch)) (st : Own fr al w0 (blkI p [v0, v1] :: chI ch bss :: L) w) (hr : bss.length < 64) (a : Option Addr) (n c : Nat) (bs : List UInt8) (hbb : By w a n bs) (hc : n ≤ c ∧ c ≤ maxLen) (hn : n ≤ 140737488355328) :
    Calls Try.prog 17 #[.pointer (some ⟨p, 0, none⟩), .int .i64 to, .slice a n c] w fun e w' => e = .returned (.bool true) ∧ Own fr al w0 (blkI p [v0, v1] :: chI ch (bss ++ [bs]) :: L) w' := by
  have hb := st.blk (i := 0) get0
  go_enter Try.func17, Try.ntmps17
  generalize hR : Code.region 3 (_ : Array Oper) false = R
  go_wp2_with fail
  refine (netWay_any p v0 v1 to _ (hb.cell 0) (hb.cell 1)).mono ?_
  rintro en w' ⟨rfl, rfl⟩
  rw [hv]
  go_wp2_with fail
  refine (clone_any a n c bs _ hbb hc hn).mono ?_
  rintro en w' ⟨v, rfl, hrow, hx⟩
  have hrow' := hrow
  obtain ⟨a2, m2, c2, rfl, h1, h2, h3⟩ := own_by hrow'
  obtain rfl : m2 = n := by rw [h3.1]; exact hbb.1.symm
  go_wp2_with fail
  subst hR
  replace st := st.newRow hx hrow
  have hl : (blkI p [v0, v1] :: chI ch bss :: L ++ [rowI 5 1 (.slice a2 m2 c2) m2 (bs.map B)])[L.length + 2]? = some (rowI 5 1 (.slice a2 m2 c2) m2 (bs.map B)) := by simp
  replace st := st.freezeRow hl
  obtain ⟨buf, sn, r, hbuf, hsz⟩ := st.chBuf (c := ch) (bss := bss) (i := 1) (by simp)
  have st2 := st.chSend (c := ch) (bss := bss) (bs := bs) (i := 1) (j := L.length + 2) (a := a2) (n := m2) (cc := c2) (by simp) (by simp) (by omega) hbuf ⟨h1, h2⟩
  refine wp_comm (cases := #[scase ch (.slice a2 m2 c2) (.slice none 0 0)]) rfl rfl (by simp [go_sem, execOp, scase, Act.eval]) (fun fr cs es h => step_lone_select_send_room h hbuf (by rw [hsz]; exact hr)) ?_
  go_wp2_with fail
  go_ret
  have e : ∀ I J K : It, ((I :: J :: L ++ [rowI 5 1 (.slice a2 m2 c2) m2 (bs.map B)]).set (L.length + 2) K) = I :: J :: L ++ [K] := fun I J K => by simp
  refine ⟨rfl, ?_⟩
  simp at st2
  exact Own.dropLast (L := blkI p [v0, v1] :: chI ch (bss ++ [bs]) :: L) (J := nullI) (by simpa using st2)
set_option maxRecDepth 100000 in
set_option maxHeartbeats 2000000 in
theorem netSend_full {p ch : Nat} {v0 v1 : Value} {bss : List (List UInt8)} (to : Int) (hv : wayV v0 v1 to = .chan (some ch)) (st : Own fr al w0 (blkI p [v0, v1] :: chI ch bss :: L) w) (hr : bss.length = 64) (a : Option Addr) (n c : Nat) (bs : List UInt8) (hbb : By w a n bs) (hc : n ≤ c ∧ c ≤ maxLen) (hn : n ≤ 140737488355328) :
    Calls Try.prog 17 #[.pointer (some ⟨p, 0, none⟩), .int .i64 to, .slice a n c] w fun e w' => e = .returned (.bool false) ∧ Own fr al w0 (blkI p [v0, v1] :: chI ch bss :: L) w' := by
  have hb := st.blk (i := 0) get0
  go_enter Try.func17, Try.ntmps17
  generalize hR : Code.region 3 (_ : Array Oper) false = R
  go_wp2_with fail
  refine (netWay_any p v0 v1 to _ (hb.cell 0) (hb.cell 1)).mono ?_
  rintro en w' ⟨rfl, rfl⟩
  rw [hv]
  go_wp2_with fail
  refine (clone_any a n c bs _ hbb hc hn).mono ?_
  rintro en w' ⟨v, rfl, hrow, hx⟩
  go_wp2_with fail
  subst hR
  replace st := st.ext hx
  obtain ⟨buf, sn, r, hbuf, hsz⟩ := st.chBuf (i := 1) get1
  refine wp_comm (cases := #[scase ch v (.slice none 0 0)]) rfl rfl (by simp [go_sem, execOp, scase, Act.eval]) (fun fr cs es h => step_lone_select_send_full h hbuf (by rw [hsz, hr]; exact Nat.le_refl _)) ?_
  go_wp2_with fail
  go_ret
  exact ⟨rfl, st⟩
end
end Go.Proofs.Ytcminppmmhinjaa
