/- Nets: New, Len, Lose, Late. -/
import Derived.Test.YtcminppmmhinjaaNetB
import Derived.Test.YtcminppmmhinjaaRow
namespace Go.Proofs.Ytcminppmmhinjaa
set_option linter.unusedSimpArgs false
set_option linter.unusedVariables false
open Go Go.RowKit Go.Conc
theorem sliceInfo : ∃ i, Try.prog.info? 30 = some i ∧ i.zero = some (.slice none 0 0) ∧ i.size = 1 ∧ i.bytes = 24 := info_parts (by kernel_rfl)
set_option maxRecDepth 100000 in
set_option maxHeartbeats 2000000 in
theorem netNew_c {fr al : Nat → Prop} {w0 w : World} (st : Own fr al w0 [] w) : Calls Try.prog 15 #[] w fun e w' => ∃ p c0 c1, e = .returned (.pointer (some ⟨p, 0, none⟩)) ∧ Own fr al w0 [blkI p [.chan (some c0), .chan (some c1)], chI c0 [], chI c1 []] w' := by
  obtain ⟨inf, hi, -, -, hby⟩ := sliceInfo
  have hmk : ∀ w : World, (Instr.makeChan 148 (.int .i64 64)).run Try.prog w = .ok (.chan (some w.heap.size)) (w.alloc (.chan 64 #[] false 0 0 false)) := fun w => run_makeChan (n := 64) Try.underlying148 hi .i64 (by decide) (by rw [hby]; decide)
  have HMK := Lib.hid hmk
  clear hmk hi hby inf
  go_enter Try.func15, Try.ntmps15
  go_wp2_with ((first
        | ((with_reducible refine wl_box ?_ (fun K hK => ?_)); rfl; refine owp_box (o := ⟨some 4, _, _, _, _, _⟩) rfl st ?_; apply Exists.intro; refine ⟨?_, ?_⟩; (focus (go_simp; try rfl)); (clear st; intro b4 w hb st; clear hb))
        | ((with_reducible refine wl_store ?_ (fun K hK => ?_)); rfl; refine owp_store rfl st ?_; apply Exists.intro; apply Exists.intro; refine ⟨?_, ?_, ?_⟩; (focus (go_simp; try rfl)); (focus (go_simp; try rfl)); (first | (with_reducible refine ⟨0, _, _, _, _, get0, rfl, rfl, ?_, ?_, ?_, ?_⟩) | (with_reducible refine ⟨1, _, _, _, _, get1, rfl, rfl, ?_, ?_, ?_, ?_⟩) | (with_reducible refine ⟨2, _, _, _, _, get2, rfl, rfl, ?_, ?_, ?_, ?_⟩) | (with_reducible refine ⟨3, _, _, _, _, get3, rfl, rfl, ?_, ?_, ?_, ?_⟩)); (kernel_rfl); (simp [Value.cells]); (rfl); (clear st; intro w st))); (try simp only [Value.cells, List.cons_append, List.nil_append, List.set, spl, putIt, pick, List.map_cons, List.map_nil, List.getElem?_cons_zero, List.getElem?_cons_succ, Option.getD_some, List.drop_succ_cons, List.drop_zero, List.drop_nil, List.append_nil, unB] at st); (try clear hc); have hc := st.facts; (try simp only [factsOf, blkI, blkFacts, rowI, byI, datI, nullI, oldI, penI, rdI, rdAnyI, rdOverI, Nat.zero_add, Nat.reduceAdd, and_true, true_and, and_self] at hc))
  go_loopg [5] 2 (fun k i wr => (i = .int .i64 0 ∧ k = 2 ∧ Own fr al w0 [blkI b4 [.chan none, .chan none]] wr) ∨ (i = .int .i64 1 ∧ k = 1 ∧ ∃ c0, Own fr al w0 [blkI b4 [.chan (some c0), .chan none], chI c0 []] wr) ∨ (i = .int .i64 2 ∧ k = 0 ∧ ∃ c0 c1, Own fr al w0 [blkI b4 [.chan (some c0), .chan (some c1)], chI c0 [], chI c1 []] wr))
  case atStart => exact .inl ⟨rfl, rfl, st⟩
  case round =>
    clear st hc
    rcases hrel with ⟨rfl, rfl, st⟩ | ⟨rfl, rfl, c0, st⟩ | ⟨rfl, rfl, c0, c1, st⟩
    · go_wp2_with fail
      refine Rg4.wp_region4_eq #[0, 0, 0, 1, 9, 31, 63] [2, 6] [] (fun _ => True) [0, 1, 3, 4, 2, 5, 6] (by kernel_rfl) (by kernel_rfl) (by kernel_rfl) (by kernel_rfl) (show Rg4.PB _ by repeat (first | with_reducible exact Rg4.pb_body | with_reducible exact Rg4.pb_bodyD rfl | with_reducible refine Rg4.pb_then ?_ | with_reducible refine Rg4.pb_inBlock ?_ | with_reducible refine Rg4.pb_noGoto ?_)) (trivial) ?_
      replace st := st.drew
      change Rg4.wp4 _ _ _ _ _ _ _ _ _ (World.drew _) _ _
      generalize World.drew _ = w at st ⊢
      (try clear hc); have hc := st.facts; (try simp only [factsOf, blkI, blkFacts, rowI, byI, datI, nullI, oldI, penI, rdI, rdAnyI, rdOverI, Nat.zero_add, Nat.reduceAdd, and_true, true_and, and_self] at hc)
      (refine Rg4.w4_any (Rg4.want_none rfl) rfl ?_; apply Exists.intro; refine ⟨fun w' => ?_, ?_⟩; (focus (first | (go_simp; done) | (go_simp; first | rfl | (rw [if_neg] <;> first | rfl | omega) | (rw [if_pos] <;> first | rfl | omega)))); (try simp only [Act.put, List.setIfInBounds_toArray, List.set]))
      (refine Rg4.w4_any (Rg4.want_none rfl) rfl ?_; apply Exists.intro; refine ⟨fun w' => ?_, ?_⟩; (focus (first | (go_simp; done) | (go_simp; first | rfl | (rw [if_neg] <;> first | rfl | omega) | (rw [if_pos] <;> first | rfl | omega)))); (try simp only [Act.put, List.setIfInBounds_toArray, List.set]))
      (refine Rg4.w4_any (Rg4.want_none rfl) rfl ?_; apply Exists.intro; refine ⟨fun w' => ?_, ?_⟩; (focus (first | (go_simp; done) | (go_simp; first | rfl | (rw [if_neg] <;> first | rfl | omega) | (rw [if_pos] <;> first | rfl | omega)))); (try simp only [Act.put, List.setIfInBounds_toArray, List.set]))
      (refine Rg4.w4_any (Rg4.want_none rfl) rfl ?_; apply Exists.intro; refine ⟨fun w' => ?_, ?_⟩; (focus (first | (go_simp; done) | (go_simp; first | rfl | (rw [if_neg] <;> first | rfl | omega) | (rw [if_pos] <;> first | rfl | omega)))); (try simp only [Act.put, List.setIfInBounds_toArray, List.set]))
      refine Rg4.w4_bar (Rg4.want_none rfl) rfl (fun w' hw' hcl _ K hK => ?_)
      subst hw'
      have hmk := HMK.out w
      refine owp_run (v := .chan (some w.heap.size)) (w' := w.alloc (.chan 64 #[] false 0 0 false)) (by go_simp) ?_
      clear hmk
      replace st := st.newCh
      obtain ⟨c0, hc0⟩ : ∃ c, w.heap.size = c := ⟨_, rfl⟩
      rw [hc0] at st ⊢
      clear hc0
      generalize w.alloc (.chan 64 #[] false 0 0 false) = w at st ⊢
      simp only [List.cons_append, List.nil_append] at st
      refine hK _ _ ⟨trivial, ?_⟩
      clear hK
      (try simp only [Act.put, List.setIfInBounds_toArray, List.set])
      (refine Rg4.w4_any (Rg4.want_none rfl) rfl ?_; apply Exists.intro; refine ⟨fun w' => ?_, ?_⟩; (focus (first | (go_simp; done) | (go_simp; first | rfl | (rw [if_neg] <;> first | rfl | omega) | (rw [if_pos] <;> first | rfl | omega)))); (try simp only [Act.put, List.setIfInBounds_toArray, List.set]))
      (refine Rg4.w4_bar (Rg4.want_none rfl) rfl (fun w' hw' hcl' _ K hK => ?_); subst hw'; (refine owp_store rfl st ?_; apply Exists.intro; apply Exists.intro; refine ⟨?_, ?_, ?_⟩; (focus (go_simp; try rfl)); (focus (go_simp; try rfl)); (first | (with_reducible refine ⟨0, _, _, _, _, get0, rfl, rfl, ?_, ?_, ?_, ?_⟩) | (with_reducible refine ⟨1, _, _, _, _, get1, rfl, rfl, ?_, ?_, ?_, ?_⟩) | (with_reducible refine ⟨2, _, _, _, _, get2, rfl, rfl, ?_, ?_, ?_, ?_⟩) | (with_reducible refine ⟨3, _, _, _, _, get3, rfl, rfl, ?_, ?_, ?_, ?_⟩)); (kernel_rfl); (simp [Value.cells]); (rfl); (clear st; intro w st); (try simp only [Value.cells, List.cons_append, List.nil_append, List.set, spl, putIt, pick, List.map_cons, List.map_nil, List.getElem?_cons_zero, List.getElem?_cons_succ, Option.getD_some, List.drop_succ_cons, List.drop_zero, List.drop_nil, List.append_nil, unB] at st); (try clear hc); have hc := st.facts; (try simp only [factsOf, blkI, blkFacts, rowI, byI, datI, nullI, oldI, penI, rdI, rdAnyI, rdOverI, Nat.zero_add, Nat.reduceAdd, and_true, true_and, and_self] at hc)); refine hK _ _ ⟨trivial, ?_⟩; (try simp only [Act.put, List.setIfInBounds_toArray, List.set]))
      refine Rg4.w4_nil (fun w' hw' hcl' _ => ?_); subst hw'; clear hcl'
      go_wp2_with fail
      go_roundg 1
      case measure => omega
      case rel => exact .inr (.inl ⟨rfl, rfl, c0, st⟩)
    · go_wp2_with fail
      refine Rg4.wp_region4_eq #[0, 0, 0, 1, 9, 31, 63] [2, 6] [] (fun _ => True) [0, 1, 3, 4, 2, 5, 6] (by kernel_rfl) (by kernel_rfl) (by kernel_rfl) (by kernel_rfl) (show Rg4.PB _ by repeat (first | with_reducible exact Rg4.pb_body | with_reducible exact Rg4.pb_bodyD rfl | with_reducible refine Rg4.pb_then ?_ | with_reducible refine Rg4.pb_inBlock ?_ | with_reducible refine Rg4.pb_noGoto ?_)) (trivial) ?_
      replace st := st.drew
      change Rg4.wp4 _ _ _ _ _ _ _ _ _ (World.drew _) _ _
      generalize World.drew _ = w at st ⊢
      (try clear hc); have hc := st.facts; (try simp only [factsOf, blkI, blkFacts, rowI, byI, datI, nullI, oldI, penI, rdI, rdAnyI, rdOverI, Nat.zero_add, Nat.reduceAdd, and_true, true_and, and_self] at hc)
      (refine Rg4.w4_any (Rg4.want_none rfl) rfl ?_; apply Exists.intro; refine ⟨fun w' => ?_, ?_⟩; (focus (first | (go_simp; done) | (go_simp; first | rfl | (rw [if_neg] <;> first | rfl | omega) | (rw [if_pos] <;> first | rfl | omega)))); (try simp only [Act.put, List.setIfInBounds_toArray, List.set]))
      (refine Rg4.w4_any (Rg4.want_none rfl) rfl ?_; apply Exists.intro; refine ⟨fun w' => ?_, ?_⟩; (focus (first | (go_simp; done) | (go_simp; first | rfl | (rw [if_neg] <;> first | rfl | omega) | (rw [if_pos] <;> first | rfl | omega)))); (try simp only [Act.put, List.setIfInBounds_toArray, List.set]))
      (refine Rg4.w4_any (Rg4.want_none rfl) rfl ?_; apply Exists.intro; refine ⟨fun w' => ?_, ?_⟩; (focus (first | (go_simp; done) | (go_simp; first | rfl | (rw [if_neg] <;> first | rfl | omega) | (rw [if_pos] <;> first | rfl | omega)))); (try simp only [Act.put, List.setIfInBounds_toArray, List.set]))
      (refine Rg4.w4_any (Rg4.want_none rfl) rfl ?_; apply Exists.intro; refine ⟨fun w' => ?_, ?_⟩; (focus (first | (go_simp; done) | (go_simp; first | rfl | (rw [if_neg] <;> first | rfl | omega) | (rw [if_pos] <;> first | rfl | omega)))); (try simp only [Act.put, List.setIfInBounds_toArray, List.set]))
      refine Rg4.w4_bar (Rg4.want_none rfl) rfl (fun w' hw' hcl _ K hK => ?_)
      subst hw'
      have hmk := HMK.out w
      refine owp_run (v := .chan (some w.heap.size)) (w' := w.alloc (.chan 64 #[] false 0 0 false)) (by go_simp) ?_
      clear hmk
      replace st := st.newCh
      obtain ⟨c1, hc1⟩ : ∃ c, w.heap.size = c := ⟨_, rfl⟩
      rw [hc1] at st ⊢
      clear hc1
      generalize w.alloc (.chan 64 #[] false 0 0 false) = w at st ⊢
      simp only [List.cons_append, List.nil_append] at st
      refine hK _ _ ⟨trivial, ?_⟩
      clear hK
      (try simp only [Act.put, List.setIfInBounds_toArray, List.set])
      (refine Rg4.w4_any (Rg4.want_none rfl) rfl ?_; apply Exists.intro; refine ⟨fun w' => ?_, ?_⟩; (focus (first | (go_simp; done) | (go_simp; first | rfl | (rw [if_neg] <;> first | rfl | omega) | (rw [if_pos] <;> first | rfl | omega)))); (try simp only [Act.put, List.setIfInBounds_toArray, List.set]))
      (refine Rg4.w4_bar (Rg4.want_none rfl) rfl (fun w' hw' hcl' _ K hK => ?_); subst hw'; (refine owp_store rfl st ?_; apply Exists.intro; apply Exists.intro; refine ⟨?_, ?_, ?_⟩; (focus (go_simp; try rfl)); (focus (go_simp; try rfl)); (first | (with_reducible refine ⟨0, _, _, _, _, get0, rfl, rfl, ?_, ?_, ?_, ?_⟩) | (with_reducible refine ⟨1, _, _, _, _, get1, rfl, rfl, ?_, ?_, ?_, ?_⟩) | (with_reducible refine ⟨2, _, _, _, _, get2, rfl, rfl, ?_, ?_, ?_, ?_⟩) | (with_reducible refine ⟨3, _, _, _, _, get3, rfl, rfl, ?_, ?_, ?_, ?_⟩)); (kernel_rfl); (simp [Value.cells]); (rfl); (clear st; intro w st); (try simp only [Value.cells, List.cons_append, List.nil_append, List.set, spl, putIt, pick, List.map_cons, List.map_nil, List.getElem?_cons_zero, List.getElem?_cons_succ, Option.getD_some, List.drop_succ_cons, List.drop_zero, List.drop_nil, List.append_nil, unB] at st); (try clear hc); have hc := st.facts; (try simp only [factsOf, blkI, blkFacts, rowI, byI, datI, nullI, oldI, penI, rdI, rdAnyI, rdOverI, Nat.zero_add, Nat.reduceAdd, and_true, true_and, and_self] at hc)); refine hK _ _ ⟨trivial, ?_⟩; (try simp only [Act.put, List.setIfInBounds_toArray, List.set]))
      refine Rg4.w4_nil (fun w' hw' hcl' _ => ?_); subst hw'; clear hcl'
      go_wp2_with fail
      go_roundg 0
      case measure => omega
      case rel => exact .inr (.inr ⟨rfl, rfl, c0, c1, st⟩)
    · go_wp2_with fail
      go_ret
      exact ⟨_, c0, c1, rfl, st⟩
set_option maxRecDepth 100000 in
set_option maxHeartbeats 1000000 in
theorem netLen_no (q : Value) (to : Int) (W : World) (hw : Calls Try.prog 89 #[q, .int .i64 to] W fun e w' => e = .returned (.chan none) ∧ W = w') : Calls Try.prog 21 #[q, .int .i64 to] W fun e w' => e = .returned (.int .i64 0) ∧ W = w' := by
  have hlen : ∀ (ty : TypeId) (w : World), (Builtin.len_ #[148] ty #[.chan none]).run Try.prog w = .ok (goInt 0) w := fun ty w => by simp [Builtin.len_, run_underlying Try.underlying148, Sem.run_pure]
  go_enter Try.func21, Try.ntmps21
  go_wp2_with fail
  refine hw.mono ?_
  rintro en w' ⟨rfl, rfl⟩
  go_wp2_with fail
  go_ret
  exact ⟨rfl, rfl⟩
section
variable {fr al : Nat → Prop} {w0 w : World} {L : List It}
set_option maxRecDepth 100000 in
set_option maxHeartbeats 1000000 in
theorem netLen_c {p c : Nat} {v0 v1 : Value} {bss : List (List UInt8)} (to : Int) (hv : wayV v0 v1 to = .chan (some c)) (st : Own fr al w0 (blkI p [v0, v1] :: chI c bss :: L) w) :
    Calls Try.prog 21 #[.pointer (some ⟨p, 0, none⟩), .int .i64 to] w fun e w' => e = .returned (.int .i64 (bss.length : Int)) ∧ w = w' := by
  have hb := st.blk (i := 0) get0
  obtain ⟨buf, sn, r, hbuf, hsz⟩ := st.chBuf (i := 1) get1
  have hlen := fun ty => run_len_chan (P := Try.prog) 148 ty Try.underlying148 hbuf
  rw [hsz] at hlen
  have HSZ := Lib.hid hsz
  clear hsz
  go_enter Try.func21, Try.ntmps21
  go_wp2_with fail
  refine (netWay_any p v0 v1 to _ (hb.cell 0) (hb.cell 1)).mono ?_
  rintro en w' ⟨rfl, rfl⟩
  rw [hv]
  go_wp2_with fail
  go_ret
  exact ⟨rfl, rfl⟩
set_option maxRecDepth 100000 in
set_option maxHeartbeats 1000000 in
theorem netLose_no (q : Value) (to : Int) (W : World) (hw : Calls Try.prog 89 #[q, .int .i64 to] W fun e w' => e = .returned (.chan none) ∧ W = w') : Calls Try.prog 18 #[q, .int .i64 to] W fun e w' => e = .returned (.bool false) ∧ W = w' := by
  go_enter Try.func18, Try.ntmps18
  go_wp2_with fail
  refine (netNext_no q to _ hw).mono ?_
  rintro en w' ⟨rfl, rfl⟩
  go_wp2_with fail
  go_ret
  exact ⟨rfl, rfl⟩
set_option maxRecDepth 100000 in
set_option maxHeartbeats 1000000 in
theorem netLate_no (q : Value) (to : Int) (W : World) (hw : Calls Try.prog 89 #[q, .int .i64 to] W fun e w' => e = .returned (.chan none) ∧ W = w') : Calls Try.prog 20 #[q, .int .i64 to] W fun e w' => e = .returned (.bool false) ∧ W = w' := by
  go_enter Try.func20, Try.ntmps20
  go_wp2_with fail
  refine (netNext_no q to _ hw).mono ?_
  rintro en w' ⟨rfl, rfl⟩
  go_wp2_with fail
  go_ret
  exact ⟨rfl, rfl⟩
/-- What flies behind Late. -/
def lateL : List (List UInt8) → List (List UInt8)
  | [] => []
  | x :: l => l ++ [x]
set_option maxRecDepth 100000 in
set_option maxHeartbeats 1000000 in
theorem netLose_c {p c : Nat} {v0 v1 : Value} {bss : List (List UInt8)} (to : Int) (hv : wayV v0 v1 to = .chan (some c)) (st : Own fr al w0 [blkI p [v0, v1], chI c bss] w) :
    Calls Try.prog 18 #[.pointer (some ⟨p, 0, none⟩), .int .i64 to] w fun e w' => e = .returned (.bool (!bss.isEmpty)) ∧ Own fr al w0 [blkI p [v0, v1], chI c bss.tail] w' := by
  cases bss with
  | nil =>
    go_enter Try.func18, Try.ntmps18
    go_wp2_with fail
    refine (netNext_none to hv st).mono ?_
    rintro en w' ⟨rfl, rfl⟩
    go_wp2_with fail
    go_ret
    exact ⟨rfl, st⟩
  | cons x l =>
    go_enter Try.func18, Try.ntmps18
    go_wp2_with fail
    refine (netNext_some to hv st).mono ?_
    rintro en w' ⟨a, n, cc, rfl, hc, st2⟩
    go_wp2_with fail
    go_ret
    exact ⟨rfl, st2.keep [0, 1] (by decide) (by simp)⟩
set_option maxRecDepth 100000 in
set_option maxHeartbeats 1000000 in
theorem netLate_c {p c : Nat} {v0 v1 : Value} {bss : List (List UInt8)} (to : Int) (hv : wayV v0 v1 to = .chan (some c)) (st : Own fr al w0 [blkI p [v0, v1], chI c bss] w) (hl : bss.length ≤ 64) (hx : ∀ x ∈ bss, x.length ≤ 140737488355328) :
    Calls Try.prog 20 #[.pointer (some ⟨p, 0, none⟩), .int .i64 to] w fun e w' => e = .returned (.bool (!bss.isEmpty)) ∧ Own fr al w0 [blkI p [v0, v1], chI c (lateL bss)] w' := by
  cases bss with
  | nil =>
    go_enter Try.func20, Try.ntmps20
    go_wp2_with fail
    refine (netNext_none to hv st).mono ?_
    rintro en w' ⟨rfl, rfl⟩
    go_wp2_with fail
    go_ret
    exact ⟨rfl, st⟩
  | cons x l =>
    have hll : l.length < 64 := by simp at hl; omega
    have hxl : x.length ≤ 140737488355328 := hx x (by simp)
    clear hx hl
    go_enter Try.func20, Try.ntmps20
    go_wp2_with fail
    refine (netNext_some to hv st).mono ?_
    rintro en w' ⟨a, n, cc, rfl, hc, st2⟩
    have hby := st2.by (i := 2) get2
    have hn : n ≤ 140737488355328 := by rw [hby.1]; exact hxl
    go_wp2_with fail
    refine (netSend_room to hv st2 hll a n cc x hby hc hn).mono ?_
    rintro en w' ⟨rfl, st3⟩
    go_wp2_with fail
    go_ret
    exact ⟨rfl, st3.keep [0, 1] (by decide) (by simp)⟩
end
end Go.Proofs.Ytcminppmmhinjaa
