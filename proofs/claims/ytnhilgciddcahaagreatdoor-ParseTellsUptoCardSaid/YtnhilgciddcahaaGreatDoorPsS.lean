/- The reference's words. -/
import Derived.Test.YtnhilgciddcahaaGreatDoorPsC
import Derived.Test.YtnhilgciddcahaaGreatDoorCellB
import Derived.Test.YtnhilgciddcahaaGreatDoorPsW
namespace Go.Proofs.YtnhilgciddcahaaGreatDoor
set_option linter.unusedSimpArgs false
set_option linter.unusedVariables false
open Go Go.RowKit
theorem sgB_nat (c : UInt8) : sgB c = decide ((97 ≤ c.toNat ∧ c.toNat ≤ 122) ∨ (48 ≤ c.toNat ∧ c.toNat ≤ 57) ∨ c.toNat = 45 ∨ c.toNat = 46) := by
  have := all_u8 (p := fun c => sgB c == decide ((97 ≤ c.toNat ∧ c.toNat ≤ 122) ∨ (48 ≤ c.toNat ∧ c.toNat ≤ 57) ∨ c.toNat = 45 ∨ c.toNat = 46)) (by decide +kernel) c
  simpa using this
theorem mkB_nat (c : UInt8) : mkB c = decide (c.toNat = 40 ∨ c.toNat = 41 ∨ c.toNat = 44) := by
  have := all_u8 (p := fun c => mkB c == decide (c.toNat = 40 ∨ c.toNat = 41 ∨ c.toNat = 44)) (by decide +kernel) c
  simpa using this
theorem blB_nat (c : UInt8) : blB c = decide (c.toNat = 32 ∨ c.toNat = 9 ∨ c.toNat = 10) := by
  have := all_u8 (p := fun c => blB c == decide (c.toNat = 32 ∨ c.toNat = 9 ∨ c.toNat = 10)) (by decide +kernel) c
  simpa using this
set_option maxRecDepth 100000 in
set_option maxHeartbeats 1000000 in
theorem sign_any (c : UInt8) (W : World) : Calls Tryz.prog 26 #[.int .u8 (c.toNat : Int)] W fun e w' => e = .returned (.bool (sgB c)) ∧ Ext W w' := by
  have HS := Lib.hid (sgB_nat c)
  obtain ⟨v, hv⟩ : ∃ v, sgB c = v := ⟨_, rfl⟩
  rw [hv] at HS ⊢
  have hm := c.toNat_lt
  generalize c.toNat = m at *
  clear hv
  go_enter Tryz.func26, Tryz.ntmps26
  go_wp2_with fail
  all_goals (go_ret; refine ⟨?_, Ext.refl _⟩; rw [HS.out]; simp)
  all_goals first | omega | (rw [Bool.eq_iff_iff]; simp only [Bool.or_eq_true, Bool.and_eq_true, decide_eq_true_eq, beq_iff_eq]; omega)
theorem spl_last (pre : List (List UInt8)) (x y : List UInt8) (q : Nat) (hq : q = pre.length) : spl (cellsL (pre ++ [x])) q [S y] = cellsL (pre ++ [y]) := by
  have hl : (cellsL pre).length = pre.length := by rw [cellsL_len, fltStr_k, Nat.mul_one]
  rw [cellsL_append, cellsL_append, cellsL_one', cellsL_one', str_cells, str_cells, hq, ← hl]
  simp [spl, S]
theorem last_at (pre : List (List UInt8)) (x : List UInt8) (q : Nat) (hq : q = pre.length) : (cellsL (pre ++ [x]))[q]? = some (S x) := by
  have hl : (cellsL pre).length = pre.length := by rw [cellsL_len, fltStr_k, Nat.mul_one]
  rw [cellsL_append, cellsL_one', str_cells, hq, ← hl]
  simp [S]
theorem ba_one (s : List UInt8) (j : Nat) (x : UInt8) (h : s[j]? = some x) : (⟨s.toArray⟩ : ByteArray).extract j (j + 1) = ⟨[x].toArray⟩ := by
  have hj : j < s.length := (List.getElem?_eq_some_iff.1 h).1
  have hx : s[j] = x := (List.getElem?_eq_some_iff.1 h).2
  have h1 : s.extract j (j + 1) = [x] := by
    rw [List.extract_eq_take_drop, show j + 1 - j = 1 from by omega, List.drop_eq_getElem_cons hj, hx]; rfl
  have : (⟨s.toArray⟩ : ByteArray).extract j (j + 1) = ⟨(s.extract j (j + 1)).toArray⟩ := by
    apply ByteArray.ext
    simp [ByteArray.data_extract]
  rw [this, h1]
theorem lenS {out : List Tok} {x : UInt8} {j : Nat} (h : ∀ u ∈ out, u.length ≤ j) : ∀ u ∈ out ++ [[x]], u.length ≤ j + 1 := fun u hu => by
  rcases List.mem_append.1 hu with q | q
  · exact Nat.le_succ_of_le (h u q)
  · rw [List.mem_singleton.1 q]; simp
theorem lenL {pre : List Tok} {lst : Tok} {x : UInt8} {j : Nat} (h : ∀ u ∈ pre ++ [lst], u.length ≤ j) : ∀ u ∈ pre ++ [lst ++ [x]], u.length ≤ j + 1 := fun u hu => by
  rcases List.mem_append.1 hu with q | q
  · exact Nat.le_succ_of_le (h u (List.mem_append_left _ q))
  · rw [List.mem_singleton.1 q, List.length_append]; exact Nat.succ_le_succ (h lst (by simp))
section
variable {fr al : Nat → Prop} {w0 w W : World}
/-- The words, or no. -/
def WordsGot (fr al : Nat → Prop) (w0 W : World) (o : Option (List Tok)) (e : Ending) (w' : World) : Prop :=
  match o with
  | some ts => ∃ va c, e = .returned (.tuple #[.slice va ts.length c, .bool true]) ∧ (ts.length ≤ c ∧ c ≤ maxLen) ∧ Own fr al w0 [oldI W, flI va ts.length ts] w'
  | none => e = .returned (.tuple #[.slice none 0 0, .bool false]) ∧ Own fr al w0 [oldI W] w'
theorem wordsR_sg1 {c : UInt8} {s : List UInt8} {pre : List Tok} {lst : Tok} (h : sgB c = true) : wordsR (c :: s) (pre ++ [lst]) true = wordsR s (pre ++ [lst ++ [c]]) true := by rw [wordsR, if_pos h, if_pos rfl, List.dropLast_concat, List.getLast?_concat, Option.getD_some]
theorem wordsR_sg0 {c : UInt8} {s : List UInt8} {out : List Tok} (h : sgB c = true) : wordsR (c :: s) out false = wordsR s (out ++ [[c]]) true := by rw [wordsR, if_pos h, if_neg (by decide)]
theorem wordsR_mk {c : UInt8} {s : List UInt8} {out : List Tok} {wd : Bool} (h : sgB c = false) (h2 : mkB c = true) : wordsR (c :: s) out wd = wordsR s (out ++ [[c]]) false := by rw [wordsR, if_neg (by rw [h]; decide), if_pos h2]
theorem wordsR_bl {c : UInt8} {s : List UInt8} {out : List Tok} {wd : Bool} (h : sgB c = false) (h2 : mkB c = false) (h3 : blB c = true) : wordsR (c :: s) out wd = wordsR s out false := by rw [wordsR, if_neg (by rw [h]; decide), if_neg (by rw [h2]; decide), if_pos h3]
theorem wordsR_no {c : UInt8} {s : List UInt8} {out : List Tok} {wd : Bool} (h : sgB c = false) (h2 : mkB c = false) (h3 : blB c = false) : wordsR (c :: s) out wd = none := by rw [wordsR, if_neg (by rw [h]; decide), if_neg (by rw [h2]; decide), if_neg (by rw [h3]; decide)]
set_option maxRecDepth 100000 in
set_option maxHeartbeats 8000000 in
theorem words_c (s : List UInt8) (hs : s.length ≤ 100000) (st : Own fr al w0 [oldI W] w) :
    Calls Tryz.prog 17 #[S s] w (WordsGot fr al w0 W (wordsR s [] false)) := by
  obtain ⟨res, hres⟩ : ∃ r, wordsR s [] false = r := ⟨_, rfl⟩
  have HRES := Lib.hid hres
  rw [hres]
  clear hres
  obtain ⟨n, hn⟩ : ∃ n, s.length = n := ⟨_, rfl⟩
  have hsz : (⟨s.toArray⟩ : ByteArray).size = n := by rw [ba_size]; exact hn
  rw [hn] at hs
  have HN := Lib.hid hn
  clear hn
  unfold S
  (try simp only [nsl, Value.cells, unB] at st)
  (try clear hc); have hc := st.facts; (try simp only [nfl, nft, Nat.reduceAdd] at hc)
  go_enter Tryz.func17, Tryz.ntmps17
  go_wp2_with ((first
        | ((with_reducible refine wl_store ?_ (fun K hK => ?_)); rfl; refine owp_store rfl st ?_; apply Exists.intro; apply Exists.intro; refine ⟨?_, ?_, ?_⟩; (focus (go_simp; try rfl)); (focus (go_simp; try rfl)); (first | (with_reducible refine ⟨0, _, _, _, _, get0, rfl, rfl, ?_, ?_, ?_, ?_⟩) | (with_reducible refine ⟨1, _, _, _, _, get1, rfl, rfl, ?_, ?_, ?_, ?_⟩) | (with_reducible refine ⟨2, _, _, _, _, get2, rfl, rfl, ?_, ?_, ?_, ?_⟩) | (with_reducible refine ⟨3, _, _, _, _, get3, rfl, rfl, ?_, ?_, ?_, ?_⟩)); (kernel_rfl); (simp [Value.cells]); (rfl); (clear st; intro w st))
        | ((with_reducible refine wl_buildSlice ?_ (fun K hK => ?_)); rfl; refine owp_buildSlice (o := ⟨some 39, _, _, _, _, _⟩) rfl st ?_; apply Exists.intro; apply Exists.intro; apply Exists.intro; apply Exists.intro; refine ⟨?_, ?_⟩; (focus (go_simp; (first | done | exact ⟨⟨rfl, rfl⟩, rfl⟩ | rfl))); (clear st; intro b39 w hb st; clear hb))
        | ((with_reducible refine wl_buildSlice ?_ (fun K hK => ?_)); rfl; refine owp_buildSlice (o := ⟨some 57, _, _, _, _, _⟩) rfl st ?_; apply Exists.intro; apply Exists.intro; apply Exists.intro; apply Exists.intro; refine ⟨?_, ?_⟩; (focus (go_simp; (first | done | exact ⟨⟨rfl, rfl⟩, rfl⟩ | rfl))); (clear st; intro b57 w hb st; clear hb))); (try simp only [nsl, Value.cells, unB] at st); (try clear hc); have hc := st.facts; (try simp only [nfl, nft, Nat.reduceAdd] at hc))
  replace st := st.row_nil 9 1
  simp only [List.cons_append, List.nil_append] at st
  go_loopg [4, 5, 6] n (fun k v b i wr => ∃ (j m : Nat) (out : List Tok) (wd : Bool) (va : Option Addr) (vc : Nat), j ≤ n ∧ k = n - j ∧ v = .slice va m vc ∧ b = .bool wd ∧ i = .int .i64 (j : Int) ∧ m ≤ j ∧ (wd = true → 1 ≤ m) ∧ Hid (m = out.length) ∧ Hid (∀ u ∈ out, u.length ≤ j) ∧ Hid (wordsR (s.drop j) out wd = res) ∧ Own fr al w0 [oldI W, rowI 9 1 (.slice va m vc) m (cellsL out)] wr)
  case atStart => exact ⟨0, 0, [], false, none, 0, by omega, by omega, rfl, rfl, rfl, by omega, by simp, Lib.hid rfl, Lib.hid (by simp), Lib.hid HRES.out, by simpa [cellsL] using st⟩
  case round =>
    obtain ⟨j, m, out, wd, va, vc, hj, rfl, rfl, rfl, rfl, hm, hwd, HM, HU, HX, st'⟩ := hrel
    clear st hc HRES
    have st := st'
    clear st'
    (try simp only [nsl, Value.cells, unB] at st)
    (try clear hc); have hc := st.facts; (try simp only [nfl, nft, Nat.reduceAdd] at hc)
    by_cases hjn : j < n
    · have hjs : j < s.length := by have := HN.out; omega
      obtain ⟨x, hxj⟩ : ∃ x, s[j] = x := ⟨_, rfl⟩
      have hgy : ∀ h, (⟨s.toArray⟩ : ByteArray)[j]'h = x := fun h => (ba_get _ _ h).trans hxj
      have hex : (⟨s.toArray⟩ : ByteArray).extract j (j + 1) = ⟨[x].toArray⟩ := ba_one s j x (by rw [List.getElem?_eq_getElem hjs, hxj])
      have hdr : s.drop j = x :: s.drop (j + 1) := by rw [List.drop_eq_getElem_cons hjs, hxj]
      rw [hdr] at HX
      have hw1 : IntKind.i64.wrap ((j : Int) + 1) = (j : Int) + 1 := IntWalk.i64_in _ ⟨by omega, by omega⟩
      clear hjs hxj hdr
      have HSG := Lib.hid (fun w => sign_any x w)
      by_cases hsg : sgB x = true
      · rw [hsg] at HSG
        cases wd with
        | true =>
          obtain ⟨pre, lst, rfl⟩ : ∃ pre lst, out = pre ++ [lst] := by
            have h1 := hwd rfl
            have h2 := HM.out
            exact ⟨out.dropLast, out.getLast (by rintro rfl; simp at h2; omega), (List.dropLast_concat_getLast _).symm⟩
          have HX2 : Hid (wordsR (s.drop (j + 1)) (pre ++ [lst ++ [x]]) true = res) := Lib.hid (by rw [← HX.out, wordsR_sg1 hsg])
          obtain ⟨q, hq⟩ : ∃ q, q = pre.length := ⟨_, rfl⟩
          have hqm : m = q + 1 := by have := HM.out; rw [List.length_append, ← hq] at this; exact this
          have HQ := Lib.hid hq
          obtain ⟨g, cap', hv, hcap, _⟩ := st.rowAt (i := 1) get1 (by omega)
          injection hv with hv1 hv2 hv3
          subst hv1 hv3
          have hmm : (m : Int) - 1 = (q : Int) := by omega
          have hmw : IntKind.i64.wrap (q : Int) = (q : Int) := IntWalk.i64_in _ ⟨by omega, by omega⟩
          have hqm2 : q < m := by omega
          have HQM := Lib.hid hqm
          have HCAT : Hid ((⟨lst.toArray⟩ : ByteArray) ++ ⟨[x].toArray⟩ = ⟨(lst ++ [x]).toArray⟩) := Lib.hid (ba_append lst [x])
          have hcat := HCAT.out
          have hll : lst.length ≤ 100000 := by have := HU.out lst (by simp); omega
          have hb1 : 0 ≤ (j : Int) + 1 := by omega
          have hb2 : (j : Int) + 1 ≤ (n : Int) := by omega
          have hb3 : (j : Int) ≤ (j : Int) + 1 := by omega
          clear hq hqm hcap HX hsg hwd
          (try simp only [nsl, Value.cells, unB] at st)
          (try clear hc); have hc := st.facts; (try simp only [nfl, nft, Nat.reduceAdd] at hc)
          go_wp2_with fail
          refine (HSG.out _).mono ?_
          rintro en w ⟨rfl, hx⟩
          replace st := st.ext hx
          clear hx
          (try clear hc); have hc := st.facts; (try simp only [nfl, nft, Nat.reduceAdd] at hc)
          go_wp2_with ((first
                | ((with_reducible refine wl_store ?_ (fun K hK => ?_)); rfl; refine owp_store rfl st ?_; apply Exists.intro; apply Exists.intro; refine ⟨?_, ?_, ?_⟩; (focus (go_simp; try rfl)); (focus (go_simp; try rfl)); (first | (with_reducible refine ⟨0, _, _, _, _, get0, rfl, rfl, ?_, ?_, ?_, ?_⟩) | (with_reducible refine ⟨1, _, _, _, _, get1, rfl, rfl, ?_, ?_, ?_, ?_⟩) | (with_reducible refine ⟨2, _, _, _, _, get2, rfl, rfl, ?_, ?_, ?_, ?_⟩) | (with_reducible refine ⟨3, _, _, _, _, get3, rfl, rfl, ?_, ?_, ?_, ?_⟩)); (kernel_rfl); (simp [Value.cells]); (rfl); (clear st; intro w st))
                | ((with_reducible refine wl_buildSlice ?_ (fun K hK => ?_)); rfl; refine owp_buildSlice (o := ⟨some 39, _, _, _, _, _⟩) rfl st ?_; apply Exists.intro; apply Exists.intro; apply Exists.intro; apply Exists.intro; refine ⟨?_, ?_⟩; (focus (go_simp; (first | done | exact ⟨⟨rfl, rfl⟩, rfl⟩ | rfl))); (clear st; intro b39 w hb st; clear hb))
                | ((with_reducible refine wl_buildSlice ?_ (fun K hK => ?_)); rfl; refine owp_buildSlice (o := ⟨some 57, _, _, _, _, _⟩) rfl st ?_; apply Exists.intro; apply Exists.intro; apply Exists.intro; apply Exists.intro; refine ⟨?_, ?_⟩; (focus (go_simp; (first | done | exact ⟨⟨rfl, rfl⟩, rfl⟩ | rfl))); (clear st; intro b57 w hb st; clear hb))); (try simp only [nsl, Value.cells, unB] at st); (try clear hc); have hc := st.facts; (try simp only [nfl, nft, Nat.reduceAdd] at hc))
          refine Rg4.wp_region4_eq #[0, 0, 2, 6, 15, 31, 0, 0, 0, 256, 960, 2047, 4095, 8191] [13] [5] (fun _ => True) [0, 1, 2, 3, 4, 5, 6, 7, 8, 9, 10, 11, 12, 13] (by kernel_rfl) (by kernel_rfl) (by kernel_rfl) (by kernel_rfl) (show Rg4.PB _ by repeat (first | with_reducible exact Rg4.pb_body | with_reducible exact Rg4.pb_bodyD rfl | with_reducible refine Rg4.pb_then ?_ | with_reducible refine Rg4.pb_inBlock ?_ | with_reducible refine Rg4.pb_noGoto ?_ | with_reducible assumption)) (trivial) ?_
          replace st := st.drew
          change Rg4.wp4 _ _ _ _ _ _ _ _ _ (World.drew _) _ _
          generalize World.drew _ = w at st ⊢
          (try clear hc); have hc := st.facts; (try simp only [nfl, nft, Nat.reduceAdd] at hc)
          iterate 5 (refine Rg4.w4_any (Rg4.want_none rfl) rfl ?_; apply Exists.intro; refine ⟨fun w' => ?_, ?_⟩; (focus (first | (go_simp; done) | (go_simp; first | rfl | (rw [if_neg] <;> first | rfl | omega) | (rw [if_pos] <;> first | rfl | omega)))); (try simp only [Rg4.nrm]))
          (refine Rg4.w4_read (Rg4.want_none rfl) rfl rfl ?_; apply Exists.intro; refine ⟨fun w' hw' hcl' => ?_, ?_⟩; focus (subst hw'; have r0 := st.rowC (i := 1) get1 _ _ (last_at pre lst q HQ.out); (unfold S at r0); (focus (first | (go_simp; done) | (go_simp; first | rfl | (rw [if_neg] <;> first | rfl | omega) | (rw [if_pos] <;> first | rfl | omega))))); (try simp only [Rg4.nrm]))
          iterate 7 (refine Rg4.w4_any (Rg4.want_none rfl) rfl ?_; apply Exists.intro; refine ⟨fun w' => ?_, ?_⟩; (focus (first | (go_simp; done) | (go_simp; first | rfl | (rw [if_neg] <;> first | rfl | omega) | (rw [if_pos] <;> first | rfl | omega)))); (try simp only [Rg4.nrm]))
          refine Rg4.w4_bar (Rg4.want_none rfl) rfl (fun w' hw' hcl _ K hK => ?_)
          subst hw'
          refine owp_storeRow' rfl st ?_
          apply Exists.intro; apply Exists.intro
          refine ⟨?_, ?_, ?_⟩
          (focus (go_simp; try rfl))
          (focus (go_simp; try rfl))
          refine ⟨1, _, _, _, _, _, _, _, _, get1, rfl, rfl, ?_, ?_, ?_, ?_⟩
          · kernel_rfl
          · simp [Value.cells]; omega
          · rfl
          clear st
          intro w st
          simp only [List.set_cons_zero, List.set_cons_succ, Value.cells] at st
          have hsp := spl_last pre lst (lst ++ [x]) q HQ.out
          unfold S at hsp
          rw [hsp] at st
          clear hsp
          refine hK _ _ ⟨trivial, ?_⟩
          clear hK
          (try simp only [Rg4.nrm])
          refine Rg4.w4_nil (fun w' hw' hcl' _ => ?_); subst hw'; clear hcl'
          go_wp2_with fail
          have st' := st.keep [0, 1] (by decide) (by simp)
          go_roundg (n - (j + 1))
          case measure => omega
          case rel =>
            exact ⟨j + 1, m, pre ++ [lst ++ [x]], true, _, _, by omega, by omega, rfl, rfl, by go_num, by omega, fun _ => by omega, Lib.hid (by rw [HM.out]; simp), Lib.hid (lenL HU.out), HX2, by simpa [pick] using st'⟩
        | false =>
          have HX2 : Hid (wordsR (s.drop (j + 1)) (out ++ [[x]]) true = res) := Lib.hid (by rw [← HX.out, wordsR_sg0 hsg])
          clear HX hsg hwd
          (try simp only [nsl, Value.cells, unB] at st)
          (try clear hc); have hc := st.facts; (try simp only [nfl, nft, Nat.reduceAdd] at hc)
          go_wp2_with fail
          refine (HSG.out _).mono ?_
          rintro en w ⟨rfl, hx⟩
          replace st := st.ext hx
          clear hx
          (try clear hc); have hc := st.facts; (try simp only [nfl, nft, Nat.reduceAdd] at hc)
          go_wp2_with (first
              | ((with_reducible refine wl_append ?_ (fun K hK => ?_)); (rfl); (obtain ⟨inf, hinf, hz0, hz1, hz2⟩ := strInfo); (refine owp_append rfl st 1 get1 Tryz.underlying42 hinf hz0 hz1 hz2 rfl (by decide) rfl rfl ((st.blk (i := 2) get2).flat rfl) (by first | exact cellsL_all _ | simp [Value.oneCell']) (by simp only [maxLen]; omega) (by omega) ?_); (clear hinf hz0 hz1 hz2 inf); (clear st; intro v' w st); (obtain ⟨va', vc', rfl⟩ := own_slice (st.row (i := 1) get1)); (try simp only [nsl, Value.cells, unB] at st); (try simp only [Nat.zero_add] at st); (try clear hc); have hc := st.facts; (try simp only [nfl, nft, Nat.reduceAdd] at hc))
              | ((first
                | ((with_reducible refine wl_store ?_ (fun K hK => ?_)); rfl; refine owp_store rfl st ?_; apply Exists.intro; apply Exists.intro; refine ⟨?_, ?_, ?_⟩; (focus (go_simp; try rfl)); (focus (go_simp; try rfl)); (first | (with_reducible refine ⟨0, _, _, _, _, get0, rfl, rfl, ?_, ?_, ?_, ?_⟩) | (with_reducible refine ⟨1, _, _, _, _, get1, rfl, rfl, ?_, ?_, ?_, ?_⟩) | (with_reducible refine ⟨2, _, _, _, _, get2, rfl, rfl, ?_, ?_, ?_, ?_⟩) | (with_reducible refine ⟨3, _, _, _, _, get3, rfl, rfl, ?_, ?_, ?_, ?_⟩)); (kernel_rfl); (simp [Value.cells]); (rfl); (clear st; intro w st))
                | ((with_reducible refine wl_buildSlice ?_ (fun K hK => ?_)); rfl; refine owp_buildSlice (o := ⟨some 39, _, _, _, _, _⟩) rfl st ?_; apply Exists.intro; apply Exists.intro; apply Exists.intro; apply Exists.intro; refine ⟨?_, ?_⟩; (focus (go_simp; (first | done | exact ⟨⟨rfl, rfl⟩, rfl⟩ | rfl))); (clear st; intro b39 w hb st; clear hb))
                | ((with_reducible refine wl_buildSlice ?_ (fun K hK => ?_)); rfl; refine owp_buildSlice (o := ⟨some 57, _, _, _, _, _⟩) rfl st ?_; apply Exists.intro; apply Exists.intro; apply Exists.intro; apply Exists.intro; refine ⟨?_, ?_⟩; (focus (go_simp; (first | done | exact ⟨⟨rfl, rfl⟩, rfl⟩ | rfl))); (clear st; intro b57 w hb st; clear hb))); (try simp only [nsl, Value.cells, unB] at st); (try clear hc); have hc := st.facts; (try simp only [nfl, nft, Nat.reduceAdd] at hc)))
          have st' := st.keep [0, 1] (by decide) (by simp)
          go_roundg (n - (j + 1))
          case measure => omega
          case rel =>
            refine ⟨j + 1, m + 1, out ++ [[x]], true, va', vc', by omega, by omega, rfl, rfl, by go_num, by omega, by omega, Lib.hid (by rw [List.length_append, ← HM.out]; rfl), Lib.hid (lenS HU.out), HX2, ?_⟩
            rw [cellsL_append, cellsL_one', str_cells]
            simpa [pick, S] using st'
      · have hsg0 : sgB x = false := by simpa using hsg
        rw [hsg0] at HSG
        by_cases hmk : mkB x = true
        · have HX2 : Hid (wordsR (s.drop (j + 1)) (out ++ [[x]]) false = res) := Lib.hid (by rw [← HX.out, wordsR_mk hsg0 hmk])
          have hmn := mkB_nat x
          rw [hmk] at hmn
          have hmo := of_decide_eq_true hmn.symm
          clear HX hsg hsg0 hmk hwd hmn
          obtain ⟨xn, hxn⟩ : ∃ v, x.toNat = v := ⟨_, rfl⟩
          rw [hxn] at HSG hmo
          rcases hmo with rfl | rfl | rfl
          · skip
            change Hid (∀ w, Calls _ _ #[.int .u8 40] w _) at HSG
            (try simp only [nsl, Value.cells, unB] at st)
            (try clear hc); have hc := st.facts; (try simp only [nfl, nft, Nat.reduceAdd] at hc)
            go_wp2_with fail
            refine (HSG.out _).mono ?_
            rintro en w ⟨rfl, hx⟩
            replace st := st.ext hx
            clear hx
            (try clear hc); have hc := st.facts; (try simp only [nfl, nft, Nat.reduceAdd] at hc)
            go_wp2_with (first
                | ((with_reducible refine wl_append ?_ (fun K hK => ?_)); (rfl); (obtain ⟨inf, hinf, hz0, hz1, hz2⟩ := strInfo); (refine owp_append rfl st 1 get1 Tryz.underlying42 hinf hz0 hz1 hz2 rfl (by decide) rfl rfl ((st.blk (i := 2) get2).flat rfl) (by first | exact cellsL_all _ | simp [Value.oneCell']) (by simp only [maxLen]; omega) (by omega) ?_); (clear hinf hz0 hz1 hz2 inf); (clear st; intro v' w st); (obtain ⟨va', vc', rfl⟩ := own_slice (st.row (i := 1) get1)); (try simp only [nsl, Value.cells, unB] at st); (try simp only [Nat.zero_add] at st); (try clear hc); have hc := st.facts; (try simp only [nfl, nft, Nat.reduceAdd] at hc))
                | ((first
                  | ((with_reducible refine wl_store ?_ (fun K hK => ?_)); rfl; refine owp_store rfl st ?_; apply Exists.intro; apply Exists.intro; refine ⟨?_, ?_, ?_⟩; (focus (go_simp; try rfl)); (focus (go_simp; try rfl)); (first | (with_reducible refine ⟨0, _, _, _, _, get0, rfl, rfl, ?_, ?_, ?_, ?_⟩) | (with_reducible refine ⟨1, _, _, _, _, get1, rfl, rfl, ?_, ?_, ?_, ?_⟩) | (with_reducible refine ⟨2, _, _, _, _, get2, rfl, rfl, ?_, ?_, ?_, ?_⟩) | (with_reducible refine ⟨3, _, _, _, _, get3, rfl, rfl, ?_, ?_, ?_, ?_⟩)); (kernel_rfl); (simp [Value.cells]); (rfl); (clear st; intro w st))
                  | ((with_reducible refine wl_buildSlice ?_ (fun K hK => ?_)); rfl; refine owp_buildSlice (o := ⟨some 39, _, _, _, _, _⟩) rfl st ?_; apply Exists.intro; apply Exists.intro; apply Exists.intro; apply Exists.intro; refine ⟨?_, ?_⟩; (focus (go_simp; (first | done | exact ⟨⟨rfl, rfl⟩, rfl⟩ | rfl))); (clear st; intro b39 w hb st; clear hb))
                  | ((with_reducible refine wl_buildSlice ?_ (fun K hK => ?_)); rfl; refine owp_buildSlice (o := ⟨some 57, _, _, _, _, _⟩) rfl st ?_; apply Exists.intro; apply Exists.intro; apply Exists.intro; apply Exists.intro; refine ⟨?_, ?_⟩; (focus (go_simp; (first | done | exact ⟨⟨rfl, rfl⟩, rfl⟩ | rfl))); (clear st; intro b57 w hb st; clear hb))); (try simp only [nsl, Value.cells, unB] at st); (try clear hc); have hc := st.facts; (try simp only [nfl, nft, Nat.reduceAdd] at hc)))
            have st' := st.keep [0, 1] (by decide) (by simp)
            go_roundg (n - (j + 1))
            case measure => omega
            case rel =>
              refine ⟨j + 1, m + 1, out ++ [[x]], false, va', vc', by omega, by omega, rfl, rfl, by go_num, by omega, by simp, Lib.hid (by rw [List.length_append, ← HM.out]; rfl), Lib.hid (lenS HU.out), HX2, ?_⟩
              rw [cellsL_append, cellsL_one', str_cells]
              simpa [pick, S] using st'
          · skip
            change Hid (∀ w, Calls _ _ #[.int .u8 41] w _) at HSG
            (try simp only [nsl, Value.cells, unB] at st)
            (try clear hc); have hc := st.facts; (try simp only [nfl, nft, Nat.reduceAdd] at hc)
            go_wp2_with fail
            refine (HSG.out _).mono ?_
            rintro en w ⟨rfl, hx⟩
            replace st := st.ext hx
            clear hx
            (try clear hc); have hc := st.facts; (try simp only [nfl, nft, Nat.reduceAdd] at hc)
            go_wp2_with (first
                | ((with_reducible refine wl_append ?_ (fun K hK => ?_)); (rfl); (obtain ⟨inf, hinf, hz0, hz1, hz2⟩ := strInfo); (refine owp_append rfl st 1 get1 Tryz.underlying42 hinf hz0 hz1 hz2 rfl (by decide) rfl rfl ((st.blk (i := 2) get2).flat rfl) (by first | exact cellsL_all _ | simp [Value.oneCell']) (by simp only [maxLen]; omega) (by omega) ?_); (clear hinf hz0 hz1 hz2 inf); (clear st; intro v' w st); (obtain ⟨va', vc', rfl⟩ := own_slice (st.row (i := 1) get1)); (try simp only [nsl, Value.cells, unB] at st); (try simp only [Nat.zero_add] at st); (try clear hc); have hc := st.facts; (try simp only [nfl, nft, Nat.reduceAdd] at hc))
                | ((first
                  | ((with_reducible refine wl_store ?_ (fun K hK => ?_)); rfl; refine owp_store rfl st ?_; apply Exists.intro; apply Exists.intro; refine ⟨?_, ?_, ?_⟩; (focus (go_simp; try rfl)); (focus (go_simp; try rfl)); (first | (with_reducible refine ⟨0, _, _, _, _, get0, rfl, rfl, ?_, ?_, ?_, ?_⟩) | (with_reducible refine ⟨1, _, _, _, _, get1, rfl, rfl, ?_, ?_, ?_, ?_⟩) | (with_reducible refine ⟨2, _, _, _, _, get2, rfl, rfl, ?_, ?_, ?_, ?_⟩) | (with_reducible refine ⟨3, _, _, _, _, get3, rfl, rfl, ?_, ?_, ?_, ?_⟩)); (kernel_rfl); (simp [Value.cells]); (rfl); (clear st; intro w st))
                  | ((with_reducible refine wl_buildSlice ?_ (fun K hK => ?_)); rfl; refine owp_buildSlice (o := ⟨some 39, _, _, _, _, _⟩) rfl st ?_; apply Exists.intro; apply Exists.intro; apply Exists.intro; apply Exists.intro; refine ⟨?_, ?_⟩; (focus (go_simp; (first | done | exact ⟨⟨rfl, rfl⟩, rfl⟩ | rfl))); (clear st; intro b39 w hb st; clear hb))
                  | ((with_reducible refine wl_buildSlice ?_ (fun K hK => ?_)); rfl; refine owp_buildSlice (o := ⟨some 57, _, _, _, _, _⟩) rfl st ?_; apply Exists.intro; apply Exists.intro; apply Exists.intro; apply Exists.intro; refine ⟨?_, ?_⟩; (focus (go_simp; (first | done | exact ⟨⟨rfl, rfl⟩, rfl⟩ | rfl))); (clear st; intro b57 w hb st; clear hb))); (try simp only [nsl, Value.cells, unB] at st); (try clear hc); have hc := st.facts; (try simp only [nfl, nft, Nat.reduceAdd] at hc)))
            have st' := st.keep [0, 1] (by decide) (by simp)
            go_roundg (n - (j + 1))
            case measure => omega
            case rel =>
              refine ⟨j + 1, m + 1, out ++ [[x]], false, va', vc', by omega, by omega, rfl, rfl, by go_num, by omega, by simp, Lib.hid (by rw [List.length_append, ← HM.out]; rfl), Lib.hid (lenS HU.out), HX2, ?_⟩
              rw [cellsL_append, cellsL_one', str_cells]
              simpa [pick, S] using st'
          · skip
            change Hid (∀ w, Calls _ _ #[.int .u8 44] w _) at HSG
            (try simp only [nsl, Value.cells, unB] at st)
            (try clear hc); have hc := st.facts; (try simp only [nfl, nft, Nat.reduceAdd] at hc)
            go_wp2_with fail
            refine (HSG.out _).mono ?_
            rintro en w ⟨rfl, hx⟩
            replace st := st.ext hx
            clear hx
            (try clear hc); have hc := st.facts; (try simp only [nfl, nft, Nat.reduceAdd] at hc)
            go_wp2_with (first
                | ((with_reducible refine wl_append ?_ (fun K hK => ?_)); (rfl); (obtain ⟨inf, hinf, hz0, hz1, hz2⟩ := strInfo); (refine owp_append rfl st 1 get1 Tryz.underlying42 hinf hz0 hz1 hz2 rfl (by decide) rfl rfl ((st.blk (i := 2) get2).flat rfl) (by first | exact cellsL_all _ | simp [Value.oneCell']) (by simp only [maxLen]; omega) (by omega) ?_); (clear hinf hz0 hz1 hz2 inf); (clear st; intro v' w st); (obtain ⟨va', vc', rfl⟩ := own_slice (st.row (i := 1) get1)); (try simp only [nsl, Value.cells, unB] at st); (try simp only [Nat.zero_add] at st); (try clear hc); have hc := st.facts; (try simp only [nfl, nft, Nat.reduceAdd] at hc))
                | ((first
                  | ((with_reducible refine wl_store ?_ (fun K hK => ?_)); rfl; refine owp_store rfl st ?_; apply Exists.intro; apply Exists.intro; refine ⟨?_, ?_, ?_⟩; (focus (go_simp; try rfl)); (focus (go_simp; try rfl)); (first | (with_reducible refine ⟨0, _, _, _, _, get0, rfl, rfl, ?_, ?_, ?_, ?_⟩) | (with_reducible refine ⟨1, _, _, _, _, get1, rfl, rfl, ?_, ?_, ?_, ?_⟩) | (with_reducible refine ⟨2, _, _, _, _, get2, rfl, rfl, ?_, ?_, ?_, ?_⟩) | (with_reducible refine ⟨3, _, _, _, _, get3, rfl, rfl, ?_, ?_, ?_, ?_⟩)); (kernel_rfl); (simp [Value.cells]); (rfl); (clear st; intro w st))
                  | ((with_reducible refine wl_buildSlice ?_ (fun K hK => ?_)); rfl; refine owp_buildSlice (o := ⟨some 39, _, _, _, _, _⟩) rfl st ?_; apply Exists.intro; apply Exists.intro; apply Exists.intro; apply Exists.intro; refine ⟨?_, ?_⟩; (focus (go_simp; (first | done | exact ⟨⟨rfl, rfl⟩, rfl⟩ | rfl))); (clear st; intro b39 w hb st; clear hb))
                  | ((with_reducible refine wl_buildSlice ?_ (fun K hK => ?_)); rfl; refine owp_buildSlice (o := ⟨some 57, _, _, _, _, _⟩) rfl st ?_; apply Exists.intro; apply Exists.intro; apply Exists.intro; apply Exists.intro; refine ⟨?_, ?_⟩; (focus (go_simp; (first | done | exact ⟨⟨rfl, rfl⟩, rfl⟩ | rfl))); (clear st; intro b57 w hb st; clear hb))); (try simp only [nsl, Value.cells, unB] at st); (try clear hc); have hc := st.facts; (try simp only [nfl, nft, Nat.reduceAdd] at hc)))
            have st' := st.keep [0, 1] (by decide) (by simp)
            go_roundg (n - (j + 1))
            case measure => omega
            case rel =>
              refine ⟨j + 1, m + 1, out ++ [[x]], false, va', vc', by omega, by omega, rfl, rfl, by go_num, by omega, by simp, Lib.hid (by rw [List.length_append, ← HM.out]; rfl), Lib.hid (lenS HU.out), HX2, ?_⟩
              rw [cellsL_append, cellsL_one', str_cells]
              simpa [pick, S] using st'
        · have hmk0 : mkB x = false := by simpa using hmk
          by_cases hbl : blB x = true
          · have HX2 : Hid (wordsR (s.drop (j + 1)) out false = res) := Lib.hid (by rw [← HX.out, wordsR_bl hsg0 hmk0 hbl])
            have hmn := blB_nat x
            rw [hbl] at hmn
            have hmo := of_decide_eq_true hmn.symm
            clear HX hsg hsg0 hmk hmk0 hwd hmn hbl
            obtain ⟨xn, hxn⟩ : ∃ v, x.toNat = v := ⟨_, rfl⟩
            rw [hxn] at HSG hmo
            rcases hmo with rfl | rfl | rfl
            · skip
              change Hid (∀ w, Calls _ _ #[.int .u8 32] w _) at HSG
              (try simp only [nsl, Value.cells, unB] at st)
              (try clear hc); have hc := st.facts; (try simp only [nfl, nft, Nat.reduceAdd] at hc)
              go_wp2_with fail
              refine (HSG.out _).mono ?_
              rintro en w ⟨rfl, hx⟩
              replace st := st.ext hx
              clear hx
              (try clear hc); have hc := st.facts; (try simp only [nfl, nft, Nat.reduceAdd] at hc)
              go_wp2_with ((first
                    | ((with_reducible refine wl_store ?_ (fun K hK => ?_)); rfl; refine owp_store rfl st ?_; apply Exists.intro; apply Exists.intro; refine ⟨?_, ?_, ?_⟩; (focus (go_simp; try rfl)); (focus (go_simp; try rfl)); (first | (with_reducible refine ⟨0, _, _, _, _, get0, rfl, rfl, ?_, ?_, ?_, ?_⟩) | (with_reducible refine ⟨1, _, _, _, _, get1, rfl, rfl, ?_, ?_, ?_, ?_⟩) | (with_reducible refine ⟨2, _, _, _, _, get2, rfl, rfl, ?_, ?_, ?_, ?_⟩) | (with_reducible refine ⟨3, _, _, _, _, get3, rfl, rfl, ?_, ?_, ?_, ?_⟩)); (kernel_rfl); (simp [Value.cells]); (rfl); (clear st; intro w st))
                    | ((with_reducible refine wl_buildSlice ?_ (fun K hK => ?_)); rfl; refine owp_buildSlice (o := ⟨some 39, _, _, _, _, _⟩) rfl st ?_; apply Exists.intro; apply Exists.intro; apply Exists.intro; apply Exists.intro; refine ⟨?_, ?_⟩; (focus (go_simp; (first | done | exact ⟨⟨rfl, rfl⟩, rfl⟩ | rfl))); (clear st; intro b39 w hb st; clear hb))
                    | ((with_reducible refine wl_buildSlice ?_ (fun K hK => ?_)); rfl; refine owp_buildSlice (o := ⟨some 57, _, _, _, _, _⟩) rfl st ?_; apply Exists.intro; apply Exists.intro; apply Exists.intro; apply Exists.intro; refine ⟨?_, ?_⟩; (focus (go_simp; (first | done | exact ⟨⟨rfl, rfl⟩, rfl⟩ | rfl))); (clear st; intro b57 w hb st; clear hb))); (try simp only [nsl, Value.cells, unB] at st); (try clear hc); have hc := st.facts; (try simp only [nfl, nft, Nat.reduceAdd] at hc))
              have st' := st.keep [0, 1] (by decide) (by simp)
              go_roundg (n - (j + 1))
              case measure => omega
              case rel => exact ⟨j + 1, m, out, false, va, vc, by omega, by omega, rfl, rfl, by go_num, by omega, by simp, HM, Lib.hid (fun u hu => Nat.le_succ_of_le (HU.out u hu)), HX2, by simpa [pick] using st'⟩
            · skip
              change Hid (∀ w, Calls _ _ #[.int .u8 9] w _) at HSG
              (try simp only [nsl, Value.cells, unB] at st)
              (try clear hc); have hc := st.facts; (try simp only [nfl, nft, Nat.reduceAdd] at hc)
              go_wp2_with fail
              refine (HSG.out _).mono ?_
              rintro en w ⟨rfl, hx⟩
              replace st := st.ext hx
              clear hx
              (try clear hc); have hc := st.facts; (try simp only [nfl, nft, Nat.reduceAdd] at hc)
              go_wp2_with ((first
                    | ((with_reducible refine wl_store ?_ (fun K hK => ?_)); rfl; refine owp_store rfl st ?_; apply Exists.intro; apply Exists.intro; refine ⟨?_, ?_, ?_⟩; (focus (go_simp; try rfl)); (focus (go_simp; try rfl)); (first | (with_reducible refine ⟨0, _, _, _, _, get0, rfl, rfl, ?_, ?_, ?_, ?_⟩) | (with_reducible refine ⟨1, _, _, _, _, get1, rfl, rfl, ?_, ?_, ?_, ?_⟩) | (with_reducible refine ⟨2, _, _, _, _, get2, rfl, rfl, ?_, ?_, ?_, ?_⟩) | (with_reducible refine ⟨3, _, _, _, _, get3, rfl, rfl, ?_, ?_, ?_, ?_⟩)); (kernel_rfl); (simp [Value.cells]); (rfl); (clear st; intro w st))
                    | ((with_reducible refine wl_buildSlice ?_ (fun K hK => ?_)); rfl; refine owp_buildSlice (o := ⟨some 39, _, _, _, _, _⟩) rfl st ?_; apply Exists.intro; apply Exists.intro; apply Exists.intro; apply Exists.intro; refine ⟨?_, ?_⟩; (focus (go_simp; (first | done | exact ⟨⟨rfl, rfl⟩, rfl⟩ | rfl))); (clear st; intro b39 w hb st; clear hb))
                    | ((with_reducible refine wl_buildSlice ?_ (fun K hK => ?_)); rfl; refine owp_buildSlice (o := ⟨some 57, _, _, _, _, _⟩) rfl st ?_; apply Exists.intro; apply Exists.intro; apply Exists.intro; apply Exists.intro; refine ⟨?_, ?_⟩; (focus (go_simp; (first | done | exact ⟨⟨rfl, rfl⟩, rfl⟩ | rfl))); (clear st; intro b57 w hb st; clear hb))); (try simp only [nsl, Value.cells, unB] at st); (try clear hc); have hc := st.facts; (try simp only [nfl, nft, Nat.reduceAdd] at hc))
              have st' := st.keep [0, 1] (by decide) (by simp)
              go_roundg (n - (j + 1))
              case measure => omega
              case rel => exact ⟨j + 1, m, out, false, va, vc, by omega, by omega, rfl, rfl, by go_num, by omega, by simp, HM, Lib.hid (fun u hu => Nat.le_succ_of_le (HU.out u hu)), HX2, by simpa [pick] using st'⟩
            · skip
              change Hid (∀ w, Calls _ _ #[.int .u8 10] w _) at HSG
              (try simp only [nsl, Value.cells, unB] at st)
              (try clear hc); have hc := st.facts; (try simp only [nfl, nft, Nat.reduceAdd] at hc)
              go_wp2_with fail
              refine (HSG.out _).mono ?_
              rintro en w ⟨rfl, hx⟩
              replace st := st.ext hx
              clear hx
              (try clear hc); have hc := st.facts; (try simp only [nfl, nft, Nat.reduceAdd] at hc)
              go_wp2_with ((first
                    | ((with_reducible refine wl_store ?_ (fun K hK => ?_)); rfl; refine owp_store rfl st ?_; apply Exists.intro; apply Exists.intro; refine ⟨?_, ?_, ?_⟩; (focus (go_simp; try rfl)); (focus (go_simp; try rfl)); (first | (with_reducible refine ⟨0, _, _, _, _, get0, rfl, rfl, ?_, ?_, ?_, ?_⟩) | (with_reducible refine ⟨1, _, _, _, _, get1, rfl, rfl, ?_, ?_, ?_, ?_⟩) | (with_reducible refine ⟨2, _, _, _, _, get2, rfl, rfl, ?_, ?_, ?_, ?_⟩) | (with_reducible refine ⟨3, _, _, _, _, get3, rfl, rfl, ?_, ?_, ?_, ?_⟩)); (kernel_rfl); (simp [Value.cells]); (rfl); (clear st; intro w st))
                    | ((with_reducible refine wl_buildSlice ?_ (fun K hK => ?_)); rfl; refine owp_buildSlice (o := ⟨some 39, _, _, _, _, _⟩) rfl st ?_; apply Exists.intro; apply Exists.intro; apply Exists.intro; apply Exists.intro; refine ⟨?_, ?_⟩; (focus (go_simp; (first | done | exact ⟨⟨rfl, rfl⟩, rfl⟩ | rfl))); (clear st; intro b39 w hb st; clear hb))
                    | ((with_reducible refine wl_buildSlice ?_ (fun K hK => ?_)); rfl; refine owp_buildSlice (o := ⟨some 57, _, _, _, _, _⟩) rfl st ?_; apply Exists.intro; apply Exists.intro; apply Exists.intro; apply Exists.intro; refine ⟨?_, ?_⟩; (focus (go_simp; (first | done | exact ⟨⟨rfl, rfl⟩, rfl⟩ | rfl))); (clear st; intro b57 w hb st; clear hb))); (try simp only [nsl, Value.cells, unB] at st); (try clear hc); have hc := st.facts; (try simp only [nfl, nft, Nat.reduceAdd] at hc))
              have st' := st.keep [0, 1] (by decide) (by simp)
              go_roundg (n - (j + 1))
              case measure => omega
              case rel => exact ⟨j + 1, m, out, false, va, vc, by omega, by omega, rfl, rfl, by go_num, by omega, by simp, HM, Lib.hid (fun u hu => Nat.le_succ_of_le (HU.out u hu)), HX2, by simpa [pick] using st'⟩
          · have hbl0 : blB x = false := by simpa using hbl
            obtain rfl : none = res := by rw [← HX.out, wordsR_no hsg0 hmk0 hbl0]
            have h1 := mkB_nat x
            have h2 := blB_nat x
            rw [hmk0] at h1
            rw [hbl0] at h2
            obtain ⟨xn, hxn⟩ : ∃ v, x.toNat = v := ⟨_, rfl⟩
            rw [hxn] at h1 h2 HSG
            have h3 := of_decide_eq_false h1.symm
            have h4 := of_decide_eq_false h2.symm
            have f40 : ((xn : Int) == 40) = false := by simp; omega
            have f41 : ((xn : Int) == 41) = false := by simp; omega
            have f44 : ((xn : Int) == 44) = false := by simp; omega
            have f32 : ((xn : Int) != 32) = true := by simp; omega
            have f9 : ((xn : Int) != 9) = true := by simp; omega
            have f10 : ((xn : Int) != 10) = true := by simp; omega
            have g40 : ¬ (xn : Int) = 40 := by omega
            have g41 : ¬ (xn : Int) = 41 := by omega
            have g44 : ¬ (xn : Int) = 44 := by omega
            have g32 : ¬ (xn : Int) = 32 := by omega
            have g9 : ¬ (xn : Int) = 9 := by omega
            have g10 : ¬ (xn : Int) = 10 := by omega
            clear HX hsg hsg0 hmk hmk0 hwd hbl hbl0 h1 h2 h3 h4
            (try simp only [nsl, Value.cells, unB] at st)
            (try clear hc); have hc := st.facts; (try simp only [nfl, nft, Nat.reduceAdd] at hc)
            go_wp2_with fail
            refine (HSG.out _).mono ?_
            rintro en w ⟨rfl, hx⟩
            replace st := st.ext hx
            clear hx
            (try clear hc); have hc := st.facts; (try simp only [nfl, nft, Nat.reduceAdd] at hc)
            go_wp2_with ((first
                  | ((with_reducible refine wl_store ?_ (fun K hK => ?_)); rfl; refine owp_store rfl st ?_; apply Exists.intro; apply Exists.intro; refine ⟨?_, ?_, ?_⟩; (focus (go_simp; try rfl)); (focus (go_simp; try rfl)); (first | (with_reducible refine ⟨0, _, _, _, _, get0, rfl, rfl, ?_, ?_, ?_, ?_⟩) | (with_reducible refine ⟨1, _, _, _, _, get1, rfl, rfl, ?_, ?_, ?_, ?_⟩) | (with_reducible refine ⟨2, _, _, _, _, get2, rfl, rfl, ?_, ?_, ?_, ?_⟩) | (with_reducible refine ⟨3, _, _, _, _, get3, rfl, rfl, ?_, ?_, ?_, ?_⟩)); (kernel_rfl); (simp [Value.cells]); (rfl); (clear st; intro w st))
                  | ((with_reducible refine wl_buildSlice ?_ (fun K hK => ?_)); rfl; refine owp_buildSlice (o := ⟨some 39, _, _, _, _, _⟩) rfl st ?_; apply Exists.intro; apply Exists.intro; apply Exists.intro; apply Exists.intro; refine ⟨?_, ?_⟩; (focus (go_simp; (first | done | exact ⟨⟨rfl, rfl⟩, rfl⟩ | rfl))); (clear st; intro b39 w hb st; clear hb))
                  | ((with_reducible refine wl_buildSlice ?_ (fun K hK => ?_)); rfl; refine owp_buildSlice (o := ⟨some 57, _, _, _, _, _⟩) rfl st ?_; apply Exists.intro; apply Exists.intro; apply Exists.intro; apply Exists.intro; refine ⟨?_, ?_⟩; (focus (go_simp; (first | done | exact ⟨⟨rfl, rfl⟩, rfl⟩ | rfl))); (clear st; intro b57 w hb st; clear hb))); (try simp only [nsl, Value.cells, unB] at st); (try clear hc); have hc := st.facts; (try simp only [nfl, nft, Nat.reduceAdd] at hc))
            go_ret2
            exact ⟨rfl, by simpa [pick] using st.keep [0] (by decide) (by simp)⟩
    · obtain rfl : j = n := by omega
      have HE : Hid (some out = res) := Lib.hid (by rw [← HX.out, List.drop_of_length_le (by have := HN.out; omega)]; rfl)
      clear HX
      go_wp2_with ((first
            | ((with_reducible refine wl_store ?_ (fun K hK => ?_)); rfl; refine owp_store rfl st ?_; apply Exists.intro; apply Exists.intro; refine ⟨?_, ?_, ?_⟩; (focus (go_simp; try rfl)); (focus (go_simp; try rfl)); (first | (with_reducible refine ⟨0, _, _, _, _, get0, rfl, rfl, ?_, ?_, ?_, ?_⟩) | (with_reducible refine ⟨1, _, _, _, _, get1, rfl, rfl, ?_, ?_, ?_, ?_⟩) | (with_reducible refine ⟨2, _, _, _, _, get2, rfl, rfl, ?_, ?_, ?_, ?_⟩) | (with_reducible refine ⟨3, _, _, _, _, get3, rfl, rfl, ?_, ?_, ?_, ?_⟩)); (kernel_rfl); (simp [Value.cells]); (rfl); (clear st; intro w st))
            | ((with_reducible refine wl_buildSlice ?_ (fun K hK => ?_)); rfl; refine owp_buildSlice (o := ⟨some 39, _, _, _, _, _⟩) rfl st ?_; apply Exists.intro; apply Exists.intro; apply Exists.intro; apply Exists.intro; refine ⟨?_, ?_⟩; (focus (go_simp; (first | done | exact ⟨⟨rfl, rfl⟩, rfl⟩ | rfl))); (clear st; intro b39 w hb st; clear hb))
            | ((with_reducible refine wl_buildSlice ?_ (fun K hK => ?_)); rfl; refine owp_buildSlice (o := ⟨some 57, _, _, _, _, _⟩) rfl st ?_; apply Exists.intro; apply Exists.intro; apply Exists.intro; apply Exists.intro; refine ⟨?_, ?_⟩; (focus (go_simp; (first | done | exact ⟨⟨rfl, rfl⟩, rfl⟩ | rfl))); (clear st; intro b57 w hb st; clear hb))); (try simp only [nsl, Value.cells, unB] at st); (try clear hc); have hc := st.facts; (try simp only [nfl, nft, Nat.reduceAdd] at hc))
      go_ret2
      rw [← HE.out]
      obtain ⟨hcap, _⟩ := rowFl' (α := Tok) st (i := 1) get1
      have hmo := HM.out
      subst hmo
      refine ⟨va, vc, rfl, hcap, ?_⟩
      simpa using st.rowToFl (α := Tok) (i := 1) get1
end
end Go.Proofs.YtnhilgciddcahaaGreatDoor

namespace Go.Proofs.YtnhilgciddcahaaGreatDoor
set_option linter.unusedSimpArgs false
set_option linter.unusedVariables false
open Go Go.RowKit
theorem Fl.fromT {w : World} {b off n : Nat} {x : Tok} {xs : List Tok} (h : Fl w (some ⟨b, off, none⟩) (n + 1) (x :: xs)) : Fl w (some ⟨b, off + 1, none⟩) n xs := by
  have := h.part 1 n (by omega)
  rw [fltStr_k, Nat.mul_one] at this
  rwa [show ((x :: xs).drop 1).take n = xs from by simp only [List.drop_succ_cons, List.drop_zero]; exact List.take_of_length_le (by have := h.1; rw [List.length_cons] at this; omega)] at this
section
variable {fr al : Nat → Prop} {w0 w W : World} {L : List It} {rb : Nat}
theorem Own.flTail (st : Own fr al w0 L w) {i b off n : Nat} {x : Tok} {xs : List Tok} (hi : L[i]? = some (flI (some ⟨b, off, none⟩) (n + 1) (x :: xs))) : Own fr al w0 (L ++ [flI (some ⟨b, off + 1, none⟩) n xs]) w :=
  st.share hi fun e s h => ⟨h.1.fromT, fun _ ad had => by cases had; exact h.2 (by omega) ⟨b, off, none⟩ rfl⟩
theorem Own.flNone (st : Own fr al w0 L w) (a : Option Addr) : Own fr al w0 (L ++ [flI a 0 ([] : List Tok)]) w := st.bare ⟨Fl.nil _ _, fun h => by omega⟩
/-- What has tells, and what is left. -/
def hasR (bad : Bool) (wd : Tok) (t : List Tok) : Bool × List Tok := if bad = false ∧ nxT t = wd then (true, t.tail) else (false, t)
def RhGot (fr al : Nat → Prop) (w0 : World) (rb : Nat) (bad : Bool) (p : Bool × List Tok) (e : Ending) (w' : World) : Prop := ∃ a' n' c', e = .returned (.bool p.1) ∧ (n' ≤ c' ∧ c' ≤ maxLen) ∧ Own fr al w0 [blkI rb [.slice a' n' c', .bool bad], flI a' n' p.2] w'
set_option maxRecDepth 100000 in
set_option maxHeartbeats 4000000 in
theorem rhas_c {a : Option Addr} {n c : Nat} {bad : Bool} {t : List Tok} (wd : Tok) (hw : wd ≠ []) (hc : n ≤ c ∧ c ≤ maxLen) (st : Own fr al w0 [blkI rb [.slice a n c, .bool bad], flI a n t] w) :
    Calls Tryz.prog 28 #[.pointer (some ⟨rb, 0, none⟩), S wd] w (RhGot fr al w0 rb bad (hasR bad wd t)) := by
  obtain ⟨res, hres⟩ : ∃ r, hasR bad wd t = r := ⟨_, rfl⟩
  have HR := Lib.hid hres
  have HC := Lib.hid hc
  have HN := Lib.hid (st.flAt (i := 1) get1).1
  rw [hres]
  clear hres hc
  unfold S
  cases bad with
  | true =>
    obtain rfl : (false, t) = res := by rw [← HR.out]; rfl
    (try simp only [nsl, Value.cells, unB] at st)
    (try clear hc); have hc := st.facts; (try simp only [nfl, nft, Nat.reduceAdd] at hc)
    go_enter Tryz.func28, Tryz.ntmps28
    go_wp2_with ((((with_reducible refine wl_store ?_ (fun K hK => ?_)); rfl; refine owp_store rfl st ?_; apply Exists.intro; apply Exists.intro; refine ⟨?_, ?_, ?_⟩; (focus (go_simp; try rfl)); (focus (go_simp; try rfl)); (first | (with_reducible refine ⟨0, _, _, _, _, get0, rfl, rfl, ?_, ?_, ?_, ?_⟩) | (with_reducible refine ⟨1, _, _, _, _, get1, rfl, rfl, ?_, ?_, ?_, ?_⟩) | (with_reducible refine ⟨2, _, _, _, _, get2, rfl, rfl, ?_, ?_, ?_, ?_⟩)); (kernel_rfl); (simp [Value.cells]); (rfl); (clear st; intro w st))); (try simp only [nsl, Value.cells, unB] at st); (try clear hc); have hc := st.facts; (try simp only [nfl, nft, Nat.reduceAdd] at hc))
    go_ret
    exact ⟨_, _, _, rfl, HC.out, st⟩
  | false =>
    cases t with
    | nil =>
      obtain rfl : (false, []) = res := by
        rw [← HR.out]; unfold hasR
        rw [if_neg]; rintro ⟨_, h⟩; exact hw h.symm
      obtain rfl : n = 0 := HN.out
      (try simp only [nsl, Value.cells, unB] at st)
      (try clear hc); have hc := st.facts; (try simp only [nfl, nft, Nat.reduceAdd] at hc)
      go_enter Tryz.func28, Tryz.ntmps28
      go_wp2_with ((((with_reducible refine wl_store ?_ (fun K hK => ?_)); rfl; refine owp_store rfl st ?_; apply Exists.intro; apply Exists.intro; refine ⟨?_, ?_, ?_⟩; (focus (go_simp; try rfl)); (focus (go_simp; try rfl)); (first | (with_reducible refine ⟨0, _, _, _, _, get0, rfl, rfl, ?_, ?_, ?_, ?_⟩) | (with_reducible refine ⟨1, _, _, _, _, get1, rfl, rfl, ?_, ?_, ?_, ?_⟩) | (with_reducible refine ⟨2, _, _, _, _, get2, rfl, rfl, ?_, ?_, ?_, ?_⟩)); (kernel_rfl); (simp [Value.cells]); (rfl); (clear st; intro w st))); (try simp only [nsl, Value.cells, unB] at st); (try clear hc); have hc := st.facts; (try simp only [nfl, nft, Nat.reduceAdd] at hc))
      go_ret
      exact ⟨_, _, _, rfl, HC.out, st⟩
    | cons x l =>
      obtain ⟨m, rfl⟩ : ∃ m, n = m + 1 := ⟨l.length, HN.out⟩
      obtain ⟨b, off, rfl, hcell⟩ := (st.flAt (i := 1) get1).str (by omega)
      have r0 := hcell 0 x rfl
      unfold S at r0
      simp only [Nat.add_zero] at r0
      have R0 := Lib.hid (st.flTail (i := 1) get1)
      by_cases hx : x = wd
      · have hxb : (x == wd) = true := by simp [hx]
        have hm0 : ((m : Int) + 1 == 0) = false := by simp; omega
        have HR2 : Hid ((true, l) = res) := Lib.hid (by rw [← HR.out]; unfold hasR; rw [if_pos ⟨rfl, hx⟩]; rfl)
        clear hcell HR hx R0
        by_cases hc1 : c = 1
        · subst hc1
          obtain rfl : m = 0 := by have := HC.out; omega
          obtain rfl : l = [] := List.eq_nil_of_length_eq_zero (by have := HN.out; rw [List.length_cons] at this; omega)
          (try simp only [nsl, Value.cells, unB] at st)
          (try clear hc); have hc := st.facts; (try simp only [nfl, nft, Nat.reduceAdd] at hc)
          go_enter Tryz.func28, Tryz.ntmps28
          go_wp2_with ((((with_reducible refine wl_store ?_ (fun K hK => ?_)); rfl; refine owp_store rfl st ?_; apply Exists.intro; apply Exists.intro; refine ⟨?_, ?_, ?_⟩; (focus (go_simp; try rfl)); (focus (go_simp; try rfl)); (first | (with_reducible refine ⟨0, _, _, _, _, get0, rfl, rfl, ?_, ?_, ?_, ?_⟩) | (with_reducible refine ⟨1, _, _, _, _, get1, rfl, rfl, ?_, ?_, ?_, ?_⟩) | (with_reducible refine ⟨2, _, _, _, _, get2, rfl, rfl, ?_, ?_, ?_, ?_⟩)); (kernel_rfl); (simp [Value.cells]); (rfl); (clear st; intro w st))); (try simp only [nsl, Value.cells, unB] at st); (try clear hc); have hc := st.facts; (try simp only [nfl, nft, Nat.reduceAdd] at hc))
          go_ret
          rw [← HR2.out]
          have st' := (st.flNone (some ⟨b, off, none⟩)).keep [0, 2] (by decide) (by simp)
          exact ⟨_, 0, 0, rfl, by simp [maxLen], by simpa [pick] using st'⟩
        · skip
          (try simp only [nsl, Value.cells, unB] at st)
          (try clear hc); have hc := st.facts; (try simp only [nfl, nft, Nat.reduceAdd] at hc)
          go_enter Tryz.func28, Tryz.ntmps28
          go_wp2_with ((((with_reducible refine wl_store ?_ (fun K hK => ?_)); rfl; refine owp_store rfl st ?_; apply Exists.intro; apply Exists.intro; refine ⟨?_, ?_, ?_⟩; (focus (go_simp; try rfl)); (focus (go_simp; try rfl)); (first | (with_reducible refine ⟨0, _, _, _, _, get0, rfl, rfl, ?_, ?_, ?_, ?_⟩) | (with_reducible refine ⟨1, _, _, _, _, get1, rfl, rfl, ?_, ?_, ?_, ?_⟩) | (with_reducible refine ⟨2, _, _, _, _, get2, rfl, rfl, ?_, ?_, ?_, ?_⟩)); (kernel_rfl); (simp [Value.cells]); (rfl); (clear st; intro w st))); (try simp only [nsl, Value.cells, unB] at st); (try clear hc); have hc := st.facts; (try simp only [nfl, nft, Nat.reduceAdd] at hc))
          go_ret
          rw [← HR2.out]
          have st' := (st.flTail (i := 1) get1).keep [0, 2] (by decide) (by simp)
          exact ⟨some ⟨b, off + 1, none⟩, m, c - 1, rfl, by have := HC.out; omega, by simpa [pick] using st'⟩
      · have hxb : (x == wd) = false := by simpa using hx
        have hm0 : ((m : Int) + 1 == 0) = false := by simp; omega
        have HR2 : Hid ((false, x :: l) = res) := Lib.hid (by
          rw [← HR.out]; unfold hasR
          rw [if_neg]; rintro ⟨_, h⟩; exact hx h)
        clear hcell HR R0 hx
        (try simp only [nsl, Value.cells, unB] at st)
        (try clear hc); have hc := st.facts; (try simp only [nfl, nft, Nat.reduceAdd] at hc)
        go_enter Tryz.func28, Tryz.ntmps28
        go_wp2_with ((((with_reducible refine wl_store ?_ (fun K hK => ?_)); rfl; refine owp_store rfl st ?_; apply Exists.intro; apply Exists.intro; refine ⟨?_, ?_, ?_⟩; (focus (go_simp; try rfl)); (focus (go_simp; try rfl)); (first | (with_reducible refine ⟨0, _, _, _, _, get0, rfl, rfl, ?_, ?_, ?_, ?_⟩) | (with_reducible refine ⟨1, _, _, _, _, get1, rfl, rfl, ?_, ?_, ?_, ?_⟩) | (with_reducible refine ⟨2, _, _, _, _, get2, rfl, rfl, ?_, ?_, ?_, ?_⟩)); (kernel_rfl); (simp [Value.cells]); (rfl); (clear st; intro w st))); (try simp only [nsl, Value.cells, unB] at st); (try clear hc); have hc := st.facts; (try simp only [nfl, nft, Nat.reduceAdd] at hc))
        go_ret
        rw [← HR2.out]
        exact ⟨_, _, _, rfl, HC.out, st⟩
/-- What must leaves. -/
def mustR (bad : Bool) (wd : Tok) (t : List Tok) : Bool × List Tok := if bad = false ∧ nxT t = wd then (false, t.tail) else (true, t)
def RmGot (fr al : Nat → Prop) (w0 : World) (rb : Nat) (p : Bool × List Tok) (e : Ending) (w' : World) : Prop := ∃ a' n' c', e = .returned (.tuple #[]) ∧ (n' ≤ c' ∧ c' ≤ maxLen) ∧ Own fr al w0 [blkI rb [.slice a' n' c', .bool p.1], flI a' n' p.2] w'
set_option maxRecDepth 100000 in
set_option maxHeartbeats 4000000 in
theorem rmust_c {a : Option Addr} {n c : Nat} {bad : Bool} {t : List Tok} (wd : Tok) (hw : wd ≠ []) (hc : n ≤ c ∧ c ≤ maxLen) (st : Own fr al w0 [blkI rb [.slice a n c, .bool bad], flI a n t] w) :
    Calls Tryz.prog 55 #[.pointer (some ⟨rb, 0, none⟩), S wd] w (RmGot fr al w0 rb (mustR bad wd t)) := by
  have HH := Lib.hid (fun fr al w0 w st => rhas_c (fr := fr) (al := al) (w0 := w0) (w := w) (rb := rb) (a := a) (bad := bad) (t := t) wd hw hc st)
  unfold mustR
  unfold S at HH ⊢
  unfold hasR at HH
  clear hc
  by_cases h : bad = false ∧ nxT t = wd
  · rw [if_pos h] at HH ⊢
    obtain ⟨rfl, _⟩ := h
    (try simp only [nsl, Value.cells, unB] at st)
    (try clear hc); have hc := st.facts; (try simp only [nfl, nft, Nat.reduceAdd] at hc)
    go_enter Tryz.func55, Tryz.ntmps55
    go_wp2_with ((((with_reducible refine wl_store ?_ (fun K hK => ?_)); rfl; refine owp_store rfl st ?_; apply Exists.intro; apply Exists.intro; refine ⟨?_, ?_, ?_⟩; (focus (go_simp; try rfl)); (focus (go_simp; try rfl)); (first | (with_reducible refine ⟨0, _, _, _, _, get0, rfl, rfl, ?_, ?_, ?_, ?_⟩) | (with_reducible refine ⟨1, _, _, _, _, get1, rfl, rfl, ?_, ?_, ?_, ?_⟩) | (with_reducible refine ⟨2, _, _, _, _, get2, rfl, rfl, ?_, ?_, ?_, ?_⟩)); (kernel_rfl); (simp [Value.cells]); (rfl); (clear st; intro w st))); (try simp only [nsl, Value.cells, unB] at st); (try clear hc); have hc := st.facts; (try simp only [nfl, nft, Nat.reduceAdd] at hc))
    refine (HH.out _ _ _ _ st).mono ?_
    clear st hc
    rintro en w ⟨a', n', c', rfl, hc', st⟩
    have HC := Lib.hid hc'
    clear hc'
    (try simp only [nsl, Value.cells, unB] at st)
    (try clear hc); have hc := st.facts; (try simp only [nfl, nft, Nat.reduceAdd] at hc)
    go_wp2_with ((((with_reducible refine wl_store ?_ (fun K hK => ?_)); rfl; refine owp_store rfl st ?_; apply Exists.intro; apply Exists.intro; refine ⟨?_, ?_, ?_⟩; (focus (go_simp; try rfl)); (focus (go_simp; try rfl)); (first | (with_reducible refine ⟨0, _, _, _, _, get0, rfl, rfl, ?_, ?_, ?_, ?_⟩) | (with_reducible refine ⟨1, _, _, _, _, get1, rfl, rfl, ?_, ?_, ?_, ?_⟩) | (with_reducible refine ⟨2, _, _, _, _, get2, rfl, rfl, ?_, ?_, ?_, ?_⟩)); (kernel_rfl); (simp [Value.cells]); (rfl); (clear st; intro w st))); (try simp only [nsl, Value.cells, unB] at st); (try clear hc); have hc := st.facts; (try simp only [nfl, nft, Nat.reduceAdd] at hc))
    go_end0
    exact ⟨_, _, _, rfl, HC.out, st⟩
  · rw [if_neg h] at HH ⊢
    clear h
    (try simp only [nsl, Value.cells, unB] at st)
    (try clear hc); have hc := st.facts; (try simp only [nfl, nft, Nat.reduceAdd] at hc)
    go_enter Tryz.func55, Tryz.ntmps55
    go_wp2_with ((((with_reducible refine wl_store ?_ (fun K hK => ?_)); rfl; refine owp_store rfl st ?_; apply Exists.intro; apply Exists.intro; refine ⟨?_, ?_, ?_⟩; (focus (go_simp; try rfl)); (focus (go_simp; try rfl)); (first | (with_reducible refine ⟨0, _, _, _, _, get0, rfl, rfl, ?_, ?_, ?_, ?_⟩) | (with_reducible refine ⟨1, _, _, _, _, get1, rfl, rfl, ?_, ?_, ?_, ?_⟩) | (with_reducible refine ⟨2, _, _, _, _, get2, rfl, rfl, ?_, ?_, ?_, ?_⟩)); (kernel_rfl); (simp [Value.cells]); (rfl); (clear st; intro w st))); (try simp only [nsl, Value.cells, unB] at st); (try clear hc); have hc := st.facts; (try simp only [nfl, nft, Nat.reduceAdd] at hc))
    refine (HH.out _ _ _ _ st).mono ?_
    clear st hc
    rintro en w ⟨a', n', c', rfl, hc', st⟩
    have HC := Lib.hid hc'
    clear hc'
    (try simp only [nsl, Value.cells, unB] at st)
    (try clear hc); have hc := st.facts; (try simp only [nfl, nft, Nat.reduceAdd] at hc)
    go_wp2_with ((((with_reducible refine wl_store ?_ (fun K hK => ?_)); rfl; refine owp_store rfl st ?_; apply Exists.intro; apply Exists.intro; refine ⟨?_, ?_, ?_⟩; (focus (go_simp; try rfl)); (focus (go_simp; try rfl)); (first | (with_reducible refine ⟨0, _, _, _, _, get0, rfl, rfl, ?_, ?_, ?_, ?_⟩) | (with_reducible refine ⟨1, _, _, _, _, get1, rfl, rfl, ?_, ?_, ?_, ?_⟩) | (with_reducible refine ⟨2, _, _, _, _, get2, rfl, rfl, ?_, ?_, ?_, ?_⟩)); (kernel_rfl); (simp [Value.cells]); (rfl); (clear st; intro w st))); (try simp only [nsl, Value.cells, unB] at st); (try clear hc); have hc := st.facts; (try simp only [nfl, nft, Nat.reduceAdd] at hc))
    go_end0
    exact ⟨_, _, _, rfl, HC.out, st⟩
end
end Go.Proofs.YtnhilgciddcahaaGreatDoor

namespace Go.Proofs.YtnhilgciddcahaaGreatDoor
set_option linter.unusedSimpArgs false
set_option linter.unusedVariables false
open Go Go.RowKit
def TokL (t : List Tok) : Prop := t.length ≤ 100000 ∧ ∀ u ∈ t, u.length ≤ 100000
theorem TokL.tail {t : List Tok} (h : TokL t) : TokL t.tail := ⟨by have := h.1; simp; omega, fun u hu => h.2 u (List.mem_of_mem_tail hu)⟩
/-- What a method of the reference's reader tells: is it wrong, what was read, what is left. -/
def RIs {α : Type} (bad : Bool) (o : Option (α × List Tok)) (bad' : Bool) (f : α) (t' : List Tok) : Prop := if bad' = true then (bad = true ∨ o = none) else (bad = false ∧ o = some (f, t'))
theorem RIs.ok {α : Type} {bad : Bool} {o : Option (α × List Tok)} {f : α} {t' : List Tok} (h : RIs bad o false f t') : bad = false ∧ o = some (f, t') := h
theorem RIs.no {α : Type} {bad : Bool} {o : Option (α × List Tok)} {f : α} {t' : List Tok} (h : RIs bad o true f t') : bad = true ∨ o = none := h
section
variable {fr al : Nat → Prop} {w0 w W : World} {rb : Nat}
def RfGot (fr al : Nat → Prop) (w0 : World) (rb : Nat) (bad : Bool) (o : PRes) (k : Nat) (e : Ending) (w' : World) : Prop :=
  ∃ g bad' a' n' c' t', e = .returned (fmV g) ∧ (n' ≤ c' ∧ c' ≤ maxLen) ∧ TokL t' ∧ t'.length ≤ k ∧ RIs bad o bad' g.strip t' ∧ Own fr al w0 [blkI rb [.slice a' n' c', .bool bad'], flI a' n' t', fmI g] w'
theorem rfGot {bad bad' : Bool} {o : PRes} {k : Nat} (g : Fm) {a' : Option Addr} {n' c' : Nat} {t' : List Tok} {f : Fo} {v : Value} (hv : v = fmV g) (hg : g.strip = f) (hc : n' ≤ c' ∧ c' ≤ maxLen) (ht : TokL t') (hl : t'.length ≤ k) (hr : RIs bad o bad' f t') (st : Own fr al w0 [blkI rb [.slice a' n' c', .bool bad'], flI a' n' t', fmI g] w) : RfGot fr al w0 rb bad o k (.returned v) w :=
  ⟨g, bad', a', n', c', t', by rw [hv], hc, ht, hl, by rw [hg]; exact hr, st⟩
def Rone (rb : Nat) (F : FuncId) (f : Nat) (one : List Tok → PRes) : Prop :=
  ∀ (fr al : Nat → Prop) (w0 w : World) (a : Option Addr) (n c : Nat) (bad : Bool) (t : List Tok), TokL t → (bad = false → t.length < f) → (n ≤ c ∧ c ≤ maxLen) → Own fr al w0 [blkI rb [.slice a n c, .bool bad], flI a n t] w → Calls Tryz.prog F #[.pointer (some ⟨rb, 0, none⟩)] w (RfGot fr al w0 rb bad (one t) t.length)
/-- Where the loop of both, Any stands. -/
def LIs {α : Type} (bad : Bool) (res : Option α) (bad' : Bool) (now : Option α) : Prop := if bad' = true then (bad = true ∨ res = none) else (bad = false ∧ now = res)
theorem LIs.ok {α : Type} {bad : Bool} {res now : Option α} (h : LIs bad res false now) : bad = false ∧ now = res := h
theorem LIs.no {α : Type} {bad : Bool} {res now : Option α} (h : LIs bad res true now) : bad = true ∨ res = none := h
theorem stF (t : List Tok) : stT false t = some t.tail := by unfold stT; rw [if_neg (by simp)]
set_option maxRecDepth 100000 in
set_option maxHeartbeats 8000000 in
theorem rboth_c {f : Nat} {one : List Tok → PRes} (hsh : Short one) (ho : Rone rb 41 f one) : Rone rb 27 f (joinP false tAnd 2 one) := by
  intro fr al w0 w a n c bad t ht hf hc st
  have HO := Lib.hid ho
  have HSH := Lib.hid hsh
  have HT := Lib.hid ht
  have HF := Lib.hid hf
  have HC := Lib.hid hc
  obtain ⟨res, hres⟩ : ∃ r, joinP false tAnd 2 one t = r := ⟨_, rfl⟩
  have HJ := Lib.hid hres
  rw [hres]
  have HTL : Hid (t.length ≤ t.length) := Lib.hid (Nat.le_refl _)
  obtain ⟨tl, htl⟩ : ∃ tl, t.length = tl := ⟨_, rfl⟩
  have HTLE := Lib.hid htl
  rw [htl]
  clear hres ho hsh ht hf hc htl
  (try simp only [nsl, Value.cells, unB] at st)
  (try clear hc); have hc := st.facts; (try simp only [nfl, nft, Nat.reduceAdd] at hc)
  go_enter Tryz.func27, Tryz.ntmps27
  go_wp2_with ((first
        | ((with_reducible refine wl_alloc ?_ (fun K hK => ?_)); rfl; refine owp_alloc (o := ⟨some 2, _, _, _, _, _⟩) rfl st ?_; apply Exists.intro; apply Exists.intro; refine ⟨?_, ?_⟩; (focus (first | (go_simp; done) | (go_simp; rfl))); (clear st; intro b2 w hb st; clear hb))
        | ((with_reducible refine wl_buildSlice ?_ (fun K hK => ?_)); rfl; refine owp_buildSlice (o := ⟨some 6, _, _, _, _, _⟩) rfl st ?_; apply Exists.intro; apply Exists.intro; apply Exists.intro; apply Exists.intro; refine ⟨?_, ?_⟩; (focus (go_simp; (first | done | exact ⟨⟨rfl, rfl⟩, rfl⟩ | rfl))); (clear st; intro b6 w hb st; clear hb))
        | ((with_reducible refine wl_buildSlice ?_ (fun K hK => ?_)); rfl; refine owp_buildSlice (o := ⟨some 12, _, _, _, _, _⟩) rfl st ?_; apply Exists.intro; apply Exists.intro; apply Exists.intro; apply Exists.intro; refine ⟨?_, ?_⟩; (focus (go_simp; (first | done | exact ⟨⟨rfl, rfl⟩, rfl⟩ | rfl))); (clear st; intro b12 w hb st; clear hb))
        | ((with_reducible refine wl_store ?_ (fun K hK => ?_)); rfl; refine owp_store rfl st ?_; apply Exists.intro; apply Exists.intro; refine ⟨?_, ?_, ?_⟩; (focus (go_simp; try rfl)); (focus (go_simp; try rfl)); (first | (with_reducible refine ⟨0, _, _, _, _, get0, rfl, rfl, ?_, ?_, ?_, ?_⟩) | (with_reducible refine ⟨1, _, _, _, _, get1, rfl, rfl, ?_, ?_, ?_, ?_⟩) | (with_reducible refine ⟨2, _, _, _, _, get2, rfl, rfl, ?_, ?_, ?_, ?_⟩) | (with_reducible refine ⟨3, _, _, _, _, get3, rfl, rfl, ?_, ?_, ?_, ?_⟩) | (with_reducible refine ⟨4, _, _, _, _, get4, rfl, rfl, ?_, ?_, ?_, ?_⟩) | (with_reducible refine ⟨5, _, _, _, _, get5, rfl, rfl, ?_, ?_, ?_, ?_⟩) | (with_reducible refine ⟨6, _, _, _, _, get6, rfl, rfl, ?_, ?_, ?_, ?_⟩)); (kernel_rfl); (simp [Value.cells]); (rfl); (clear st; intro w st))); (try simp only [nsl, Value.cells, unB] at st); (try clear hc); have hc := st.facts; (try simp only [nfl, nft, Nat.reduceAdd] at hc))
  obtain ⟨fr', al', st', back⟩ := st.sub [0, 1] (by decide) (by simp)
  (try simp only [nsl, Value.cells, unB] at st')
  refine (HO.out _ _ _ _ _ _ _ _ _ HT.out HF.out HC.out st').mono ?_
  clear st'
  rintro en w ⟨g, bad1, a1, n1, c1, t1, rfl, hc1, ht1, hl1, hr1, st'⟩
  have HC1 := Lib.hid hc1
  have HT1 := Lib.hid ht1
  have HL1 : Hid (t1.length ≤ tl) := Lib.hid (by have := HTLE.out; omega)
  have HF1 : Hid (bad1 = false → t1.length < f) := Lib.hid (fun h => by subst h; have := HF.out hr1.ok.1; omega)
  have HLI : Hid (LIs bad res bad1 ((moreP false tAnd one t1.length [g.strip] t1).map fun q => (joined 2 q.1, q.2))) := Lib.hid (by
    unfold LIs
    split
    · rename_i h
      subst h
      rcases hr1.no with q | q
      · exact .inl q
      · exact .inr (by rw [← HJ.out]; exact joinP_none q)
    · rename_i h
      have hb : bad1 = false := by simpa using h
      subst hb
      obtain ⟨q1, q2⟩ := hr1.ok
      exact ⟨q1, by rw [← HJ.out, joinP_some q2]⟩)
  have htl := ht1.1
  clear hc1 ht1 hl1 hr1 HJ HT HF HC HTL
  replace st := back _ _ (by simp) st'
  clear back st'
  (try simp only [nsl, Value.cells, unB] at st)
  (try clear hc); have hc := st.facts; (try simp only [nfl, nft, Nat.reduceAdd] at hc)
  replace st := st.noFms
  simp only [List.cons_append, List.nil_append] at st
  replace st := st.fmsMore (i := 4) (j := 3) get4 get3
  have st9 := st.keep [0, 1, 2, 5] (by decide) (by simp)
  simp only [pick, List.map_cons, List.map_nil, List.getElem?_cons_zero, List.getElem?_cons_succ, Option.getD_some, List.cons_append, List.nil_append] at st9
  clear st
  have st := st9
  clear st9
  have HGS : Hid ([g].map Fm.strip = [g.strip]) := Lib.hid rfl
  obtain ⟨gx, hgx⟩ : ∃ x, g = x := ⟨_, rfl⟩
  obtain ⟨op', k', ⟨o', d'⟩, a', n', c', kids'⟩ := g
  have HCE : Hid (cellsL [gx] = [.int .i64 op', .int .i64 k', .string ⟨o'.toArray⟩, .string ⟨d'.toArray⟩, .slice a' n' c']) := Lib.hid (by rw [← hgx]; rfl)
  have HV : Hid (fmV gx = .agg #[.int .i64 op', .int .i64 k', .string ⟨o'.toArray⟩, .string ⟨d'.toArray⟩, .slice a' n' c']) := Lib.hid (by rw [← hgx]; rfl)
  rw [hgx] at HGS HLI st ⊢
  rw [HV.out]
  clear hgx
  (try simp only [nsl, Value.cells, unB] at st)
  (try clear hc); have hc := st.facts; (try simp only [nfl, nft, Nat.reduceAdd] at hc)
  go_wp2_with (first
      | ((with_reducible refine wl_buildSlice ?_ (fun K hK => ?_)); (rfl); (refine owp_buildRow (o := ⟨some 6, _, _, _, _, _⟩) rfl st 26 5 ?_; refine ⟨1, #[.int .i64 op', .int .i64 k', .string ⟨o'.toArray⟩, .string ⟨d'.toArray⟩, .slice a' n' c'], ?_, by simp, by simp [maxLen], ?_⟩; (focus (go_simp; (first | done | rfl))); (clear st; intro b6 w hb st; clear hb)); (try simp only [nsl, Value.cells, unB] at st); (try clear hc); have hc := st.facts; (try simp only [nfl, nft, Nat.reduceAdd] at hc))
      | ((first
        | ((with_reducible refine wl_alloc ?_ (fun K hK => ?_)); rfl; refine owp_alloc (o := ⟨some 2, _, _, _, _, _⟩) rfl st ?_; apply Exists.intro; apply Exists.intro; refine ⟨?_, ?_⟩; (focus (first | (go_simp; done) | (go_simp; rfl))); (clear st; intro b2 w hb st; clear hb))
        | ((with_reducible refine wl_buildSlice ?_ (fun K hK => ?_)); rfl; refine owp_buildSlice (o := ⟨some 6, _, _, _, _, _⟩) rfl st ?_; apply Exists.intro; apply Exists.intro; apply Exists.intro; apply Exists.intro; refine ⟨?_, ?_⟩; (focus (go_simp; (first | done | exact ⟨⟨rfl, rfl⟩, rfl⟩ | rfl))); (clear st; intro b6 w hb st; clear hb))
        | ((with_reducible refine wl_buildSlice ?_ (fun K hK => ?_)); rfl; refine owp_buildSlice (o := ⟨some 12, _, _, _, _, _⟩) rfl st ?_; apply Exists.intro; apply Exists.intro; apply Exists.intro; apply Exists.intro; refine ⟨?_, ?_⟩; (focus (go_simp; (first | done | exact ⟨⟨rfl, rfl⟩, rfl⟩ | rfl))); (clear st; intro b12 w hb st; clear hb))
        | ((with_reducible refine wl_store ?_ (fun K hK => ?_)); rfl; refine owp_store rfl st ?_; apply Exists.intro; apply Exists.intro; refine ⟨?_, ?_, ?_⟩; (focus (go_simp; try rfl)); (focus (go_simp; try rfl)); (first | (with_reducible refine ⟨0, _, _, _, _, get0, rfl, rfl, ?_, ?_, ?_, ?_⟩) | (with_reducible refine ⟨1, _, _, _, _, get1, rfl, rfl, ?_, ?_, ?_, ?_⟩) | (with_reducible refine ⟨2, _, _, _, _, get2, rfl, rfl, ?_, ?_, ?_, ?_⟩) | (with_reducible refine ⟨3, _, _, _, _, get3, rfl, rfl, ?_, ?_, ?_, ?_⟩) | (with_reducible refine ⟨4, _, _, _, _, get4, rfl, rfl, ?_, ?_, ?_, ?_⟩) | (with_reducible refine ⟨5, _, _, _, _, get5, rfl, rfl, ?_, ?_, ?_, ?_⟩) | (with_reducible refine ⟨6, _, _, _, _, get6, rfl, rfl, ?_, ?_, ?_, ?_⟩)); (kernel_rfl); (simp [Value.cells]); (rfl); (clear st; intro w st))); (try simp only [nsl, Value.cells, unB] at st); (try clear hc); have hc := st.facts; (try simp only [nfl, nft, Nat.reduceAdd] at hc)))
  obtain ⟨m, hn⟩ : ∃ n, t1.length = n := ⟨_, rfl⟩
  rw [hn] at HLI
  have HN := Lib.hid hn
  rw [hn] at htl
  clear hn
  go_loopg [3] m (fun k v wr => ∃ (q j : Nat) (gs : List Fm) (bad' : Bool) (t' : List Tok) (a' : Option Addr) (n' c' : Nat) (va : Option Addr) (vc : Nat), q = k ∧ k ≤ m ∧ v = .slice va j vc ∧ (1 ≤ j ∧ j + k ≤ 1000010) ∧ Hid (j = gs.length) ∧ Hid (n' ≤ c' ∧ c' ≤ maxLen) ∧ Hid (TokL t') ∧ Hid (t'.length ≤ k) ∧ Hid (t'.length ≤ tl) ∧ Hid (bad' = false → t'.length < f) ∧ Hid (LIs bad res bad' ((moreP false tAnd one k (gs.map Fm.strip) t').map fun q => (joined 2 q.1, q.2))) ∧ Own fr al w0 [blkI rb [.slice a' n' c', .bool bad'], flI a' n' t', blkI b2 [.int .i64 0, .int .i64 0, .string ⟨#[]⟩, .string ⟨#[]⟩, .slice none 0 0], fmsI gs, rowI 26 5 (.slice va j vc) j (cellsL gs)] wr)
  case atStart => exact ⟨m, 1, [gx], bad1, t1, a1, n1, c1, _, _, rfl, by omega, rfl, ⟨by omega, by omega⟩, Lib.hid rfl, HC1, HT1, Lib.hid (by have := HN.out; omega), HL1, HF1, Lib.hid (by rw [HGS.out]; exact HLI.out), by rw [HCE.out]; simpa using st⟩
  case round =>
    clear HC1 HT1 HL1 HF1 HLI HGS HN HCE HV
    obtain ⟨k, j, gs, bad1, t', a1, n1, c1, va, vc, rfl, hkn, rfl, hj, HJ, HC, HT, HK, HL, HF, HLI, st'⟩ := hrel
    clear st hc
    have st := st'
    clear st'
    (try simp only [nsl, Value.cells, unB] at st)
    (try clear hc); have hc := st.facts; (try simp only [nfl, nft, Nat.reduceAdd] at hc)
    go_wp2_with ((first
          | ((with_reducible refine wl_alloc ?_ (fun K hK => ?_)); rfl; refine owp_alloc (o := ⟨some 2, _, _, _, _, _⟩) rfl st ?_; apply Exists.intro; apply Exists.intro; refine ⟨?_, ?_⟩; (focus (first | (go_simp; done) | (go_simp; rfl))); (clear st; intro b2 w hb st; clear hb))
          | ((with_reducible refine wl_buildSlice ?_ (fun K hK => ?_)); rfl; refine owp_buildSlice (o := ⟨some 6, _, _, _, _, _⟩) rfl st ?_; apply Exists.intro; apply Exists.intro; apply Exists.intro; apply Exists.intro; refine ⟨?_, ?_⟩; (focus (go_simp; (first | done | exact ⟨⟨rfl, rfl⟩, rfl⟩ | rfl))); (clear st; intro b6 w hb st; clear hb))
          | ((with_reducible refine wl_buildSlice ?_ (fun K hK => ?_)); rfl; refine owp_buildSlice (o := ⟨some 12, _, _, _, _, _⟩) rfl st ?_; apply Exists.intro; apply Exists.intro; apply Exists.intro; apply Exists.intro; refine ⟨?_, ?_⟩; (focus (go_simp; (first | done | exact ⟨⟨rfl, rfl⟩, rfl⟩ | rfl))); (clear st; intro b12 w hb st; clear hb))
          | ((with_reducible refine wl_store ?_ (fun K hK => ?_)); rfl; refine owp_store rfl st ?_; apply Exists.intro; apply Exists.intro; refine ⟨?_, ?_, ?_⟩; (focus (go_simp; try rfl)); (focus (go_simp; try rfl)); (first | (with_reducible refine ⟨0, _, _, _, _, get0, rfl, rfl, ?_, ?_, ?_, ?_⟩) | (with_reducible refine ⟨1, _, _, _, _, get1, rfl, rfl, ?_, ?_, ?_, ?_⟩) | (with_reducible refine ⟨2, _, _, _, _, get2, rfl, rfl, ?_, ?_, ?_, ?_⟩) | (with_reducible refine ⟨3, _, _, _, _, get3, rfl, rfl, ?_, ?_, ?_, ?_⟩) | (with_reducible refine ⟨4, _, _, _, _, get4, rfl, rfl, ?_, ?_, ?_, ?_⟩) | (with_reducible refine ⟨5, _, _, _, _, get5, rfl, rfl, ?_, ?_, ?_, ?_⟩) | (with_reducible refine ⟨6, _, _, _, _, get6, rfl, rfl, ?_, ?_, ?_, ?_⟩)); (kernel_rfl); (simp [Value.cells]); (rfl); (clear st; intro w st))); (try simp only [nsl, Value.cells, unB] at st); (try clear hc); have hc := st.facts; (try simp only [nfl, nft, Nat.reduceAdd] at hc))
    obtain ⟨fr', al', st', back⟩ := st.sub [0, 1] (by decide) (by simp)
    (try simp only [nsl, Value.cells, unB] at st')
    refine (rhas_c (t := t') tAnd (by decide) HC.out st').mono ?_
    clear st'
    intro en w hg
    unfold hasR at hg
    by_cases hq : bad1 = false ∧ nxT t' = tAnd
    · rw [if_pos hq] at hg
      obtain ⟨a2, n2, c2, rfl, hc2, st'⟩ := hg
      obtain ⟨rfl, hq⟩ := hq
      obtain ⟨q, rfl⟩ : ∃ q, k = q + 1 := by
        obtain ⟨l, hl⟩ := nxT_pos (by decide) hq
        have := HK.out
        rw [hl, List.length_cons] at this
        exact ⟨k - 1, by omega⟩
      have HC2 := Lib.hid hc2
      have HT2 := Lib.hid HT.out.tail
      have HL2 : Hid (t'.tail.length ≤ q ∧ t'.tail.length < f ∧ t'.tail.length ≤ tl) := Lib.hid (by
        obtain ⟨l, hl⟩ := nxT_pos (by decide) hq
        have h1 := HK.out
        have h2 := HF.out rfl
        have h3 := HL.out
        rw [hl] at h1 h2 h3 ⊢
        simp only [List.length_cons, List.tail_cons] at h1 h2 h3 ⊢
        omega)
      have HM : Hid (bad = false ∧ ∀ x t3, one t'.tail = some (x, t3) → (moreP false tAnd one q (gs.map Fm.strip ++ [x]) t3).map (fun q => (joined 2 q.1, q.2)) = res) := Lib.hid ⟨HLI.out.ok.1, fun x t3 h => by rw [← HLI.out.ok.2, moreP_some hq q _ (stF t') h]⟩
      have HM0 : Hid (one t'.tail = none → res = none) := Lib.hid (fun h => by rw [← HLI.out.ok.2, moreP_none2 hq q _ (stF t') h]; rfl)
      clear hq hc2 HC HT HK HF HLI HL
      replace st := back _ _ (by simp) st'
      clear back st'
      (try simp only [nsl, Value.cells, unB] at st)
      (try clear hc); have hc := st.facts; (try simp only [nfl, nft, Nat.reduceAdd] at hc)
      go_wp2_with ((first
            | ((with_reducible refine wl_alloc ?_ (fun K hK => ?_)); rfl; refine owp_alloc (o := ⟨some 2, _, _, _, _, _⟩) rfl st ?_; apply Exists.intro; apply Exists.intro; refine ⟨?_, ?_⟩; (focus (first | (go_simp; done) | (go_simp; rfl))); (clear st; intro b2 w hb st; clear hb))
            | ((with_reducible refine wl_buildSlice ?_ (fun K hK => ?_)); rfl; refine owp_buildSlice (o := ⟨some 6, _, _, _, _, _⟩) rfl st ?_; apply Exists.intro; apply Exists.intro; apply Exists.intro; apply Exists.intro; refine ⟨?_, ?_⟩; (focus (go_simp; (first | done | exact ⟨⟨rfl, rfl⟩, rfl⟩ | rfl))); (clear st; intro b6 w hb st; clear hb))
            | ((with_reducible refine wl_buildSlice ?_ (fun K hK => ?_)); rfl; refine owp_buildSlice (o := ⟨some 12, _, _, _, _, _⟩) rfl st ?_; apply Exists.intro; apply Exists.intro; apply Exists.intro; apply Exists.intro; refine ⟨?_, ?_⟩; (focus (go_simp; (first | done | exact ⟨⟨rfl, rfl⟩, rfl⟩ | rfl))); (clear st; intro b12 w hb st; clear hb))
            | ((with_reducible refine wl_store ?_ (fun K hK => ?_)); rfl; refine owp_store rfl st ?_; apply Exists.intro; apply Exists.intro; refine ⟨?_, ?_, ?_⟩; (focus (go_simp; try rfl)); (focus (go_simp; try rfl)); (first | (with_reducible refine ⟨0, _, _, _, _, get0, rfl, rfl, ?_, ?_, ?_, ?_⟩) | (with_reducible refine ⟨1, _, _, _, _, get1, rfl, rfl, ?_, ?_, ?_, ?_⟩) | (with_reducible refine ⟨2, _, _, _, _, get2, rfl, rfl, ?_, ?_, ?_, ?_⟩) | (with_reducible refine ⟨3, _, _, _, _, get3, rfl, rfl, ?_, ?_, ?_, ?_⟩) | (with_reducible refine ⟨4, _, _, _, _, get4, rfl, rfl, ?_, ?_, ?_, ?_⟩) | (with_reducible refine ⟨5, _, _, _, _, get5, rfl, rfl, ?_, ?_, ?_, ?_⟩) | (with_reducible refine ⟨6, _, _, _, _, get6, rfl, rfl, ?_, ?_, ?_, ?_⟩)); (kernel_rfl); (simp [Value.cells]); (rfl); (clear st; intro w st))); (try simp only [nsl, Value.cells, unB] at st); (try clear hc); have hc := st.facts; (try simp only [nfl, nft, Nat.reduceAdd] at hc))
      obtain ⟨fr', al', st', back⟩ := st.sub [0, 1] (by decide) (by simp)
      (try simp only [nsl, Value.cells, unB] at st')
      refine (HO.out _ _ _ _ _ _ _ _ _ HT2.out (fun _ => HL2.out.2.1) HC2.out st').mono ?_
      clear st'
      rintro en w ⟨g, bad3, a3, n3, c3, t3, rfl, hc3, ht3, hl3, hr3, st'⟩
      have HC3 := Lib.hid hc3
      have HT3 := Lib.hid ht3
      have HK3 : Hid (t3.length ≤ q) := Lib.hid (by have := HL2.out; omega)
      have HL3 : Hid (t3.length ≤ tl) := Lib.hid (by have := HL2.out; omega)
      have HF3 : Hid (bad3 = false → t3.length < f) := Lib.hid (fun _ => by have := HL2.out; omega)
      have HLI3 : Hid (LIs bad res bad3 ((moreP false tAnd one q ((gs ++ [g]).map Fm.strip) t3).map fun q => (joined 2 q.1, q.2))) := Lib.hid (by
        unfold LIs
        split
        · rename_i h
          subst h
          rcases hr3.no with q | q
          · cases q
          · exact .inr (HM0.out q)
        · rename_i h
          have hb : bad3 = false := by simpa using h
          subst hb
          exact ⟨HM.out.1, by rw [List.map_append]; exact HM.out.2 _ _ hr3.ok.2⟩)
      have HJ3 : Hid (j + 1 = (gs ++ [g]).length) := Lib.hid (by rw [List.length_append, ← HJ.out]; rfl)
      clear hc3 ht3 hl3 hr3 HM HM0 HL2 HT2 HC2 HJ
      replace st := back _ _ (by simp) st'
      clear back st'
      (try simp only [nsl, Value.cells, unB] at st)
      (try clear hc); have hc := st.facts; (try simp only [nfl, nft, Nat.reduceAdd] at hc)
      replace st := st.fmsMore (i := 3) (j := 5) get3 get5
      have st9 := st.keep [0, 1, 2, 6, 4] (by decide) (by simp)
      simp only [pick, List.map_cons, List.map_nil, List.getElem?_cons_zero, List.getElem?_cons_succ, Option.getD_some, List.cons_append, List.nil_append] at st9
      clear st
      have st := st9
      clear st9
      obtain ⟨op', k', ⟨o', d'⟩, a', n', c', kids'⟩ := g
      unfold fmV S
      simp only
      (try simp only [nsl, Value.cells, unB] at st)
      (try clear hc); have hc := st.facts; (try simp only [nfl, nft, Nat.reduceAdd] at hc)
      go_wp2_with (first
          | ((with_reducible refine wl_append ?_ (fun K hK => ?_)); (rfl); (obtain ⟨inf, hinf, hz0, hz1, hz2⟩ := fmInfo); (refine owp_append rfl st 4 get4 Tryz.underlying24 hinf hz0 hz1 hz2 rfl (by decide) rfl rfl ((st.blk (i := 5) get5).flat rfl) (by first | exact cellsL_all _ | simp [Value.oneCell']) (by simp only [maxLen]; omega) (by omega) ?_); (clear hinf hz0 hz1 hz2 inf); (clear st; intro v' w st); (obtain ⟨va', vc', rfl⟩ := own_slice (st.row (i := 4) get4)); (try simp only [nsl, Value.cells, unB] at st); (try simp only [Nat.zero_add] at st); (try clear hc); have hc := st.facts; (try simp only [nfl, nft, Nat.reduceAdd] at hc))
          | ((first
            | ((with_reducible refine wl_alloc ?_ (fun K hK => ?_)); rfl; refine owp_alloc (o := ⟨some 2, _, _, _, _, _⟩) rfl st ?_; apply Exists.intro; apply Exists.intro; refine ⟨?_, ?_⟩; (focus (first | (go_simp; done) | (go_simp; rfl))); (clear st; intro b2 w hb st; clear hb))
            | ((with_reducible refine wl_buildSlice ?_ (fun K hK => ?_)); rfl; refine owp_buildSlice (o := ⟨some 6, _, _, _, _, _⟩) rfl st ?_; apply Exists.intro; apply Exists.intro; apply Exists.intro; apply Exists.intro; refine ⟨?_, ?_⟩; (focus (go_simp; (first | done | exact ⟨⟨rfl, rfl⟩, rfl⟩ | rfl))); (clear st; intro b6 w hb st; clear hb))
            | ((with_reducible refine wl_buildSlice ?_ (fun K hK => ?_)); rfl; refine owp_buildSlice (o := ⟨some 12, _, _, _, _, _⟩) rfl st ?_; apply Exists.intro; apply Exists.intro; apply Exists.intro; apply Exists.intro; refine ⟨?_, ?_⟩; (focus (go_simp; (first | done | exact ⟨⟨rfl, rfl⟩, rfl⟩ | rfl))); (clear st; intro b12 w hb st; clear hb))
            | ((with_reducible refine wl_store ?_ (fun K hK => ?_)); rfl; refine owp_store rfl st ?_; apply Exists.intro; apply Exists.intro; refine ⟨?_, ?_, ?_⟩; (focus (go_simp; try rfl)); (focus (go_simp; try rfl)); (first | (with_reducible refine ⟨0, _, _, _, _, get0, rfl, rfl, ?_, ?_, ?_, ?_⟩) | (with_reducible refine ⟨1, _, _, _, _, get1, rfl, rfl, ?_, ?_, ?_, ?_⟩) | (with_reducible refine ⟨2, _, _, _, _, get2, rfl, rfl, ?_, ?_, ?_, ?_⟩) | (with_reducible refine ⟨3, _, _, _, _, get3, rfl, rfl, ?_, ?_, ?_, ?_⟩) | (with_reducible refine ⟨4, _, _, _, _, get4, rfl, rfl, ?_, ?_, ?_, ?_⟩) | (with_reducible refine ⟨5, _, _, _, _, get5, rfl, rfl, ?_, ?_, ?_, ?_⟩) | (with_reducible refine ⟨6, _, _, _, _, get6, rfl, rfl, ?_, ?_, ?_, ?_⟩)); (kernel_rfl); (simp [Value.cells]); (rfl); (clear st; intro w st))); (try simp only [nsl, Value.cells, unB] at st); (try clear hc); have hc := st.facts; (try simp only [nfl, nft, Nat.reduceAdd] at hc)))
      have st' := st.keep [0, 1, 2, 3, 4] (by decide) (by simp)
      go_roundg q
      case measure => omega
      case rel =>
        refine ⟨q, j + 1, gs ++ [.mk op' k' (o', d') a' n' c' kids'], bad3, t3, a3, n3, c3, va', vc', rfl, by omega, rfl, ⟨by omega, by omega⟩, HJ3, HC3, HT3, HK3, HL3, HF3, HLI3, ?_⟩
        rw [cellsL_append, cellsL_one']
        simpa [pick, Flt.cells, fmC, S] using st'
    · rw [if_neg hq] at hg
      obtain ⟨a2, n2, c2, rfl, hc2, st'⟩ := hg
      have HC2 := Lib.hid hc2
      have HRI : Hid (RIs bad res bad1 (joined 2 (gs.map Fm.strip)) t') := Lib.hid (by
        unfold RIs
        split
        · rename_i h; subst h; exact HLI.out.no
        · rename_i h
          have hb : bad1 = false := by simpa using h
          subst hb
          have hn : nxT t' ≠ tAnd := fun h => hq ⟨rfl, h⟩
          exact ⟨HLI.out.ok.1, by rw [← HLI.out.ok.2, moreP_end hn]; rfl⟩)
      clear hq hc2 HC HLI HF HK
      replace st := back _ _ (by simp) st'
      clear back st'
      (try simp only [nsl, Value.cells, unB] at st)
      (try clear hc); have hc := st.facts; (try simp only [nfl, nft, Nat.reduceAdd] at hc)
      by_cases h1 : j = 1
      · subst h1
        obtain ⟨x, rfl⟩ : ∃ x, gs = [x] := List.length_eq_one_iff.1 HJ.out.symm
        obtain ⟨g, cap', hv, hcap, _⟩ := st.rowAt (i := 4) get4 (by omega)
        injection hv with hv1 hv2 hv3
        subst hv1 hv3
        have HS : Hid (RIs bad res bad1 x.strip t') := HRI
        obtain ⟨op', k', ⟨o, d⟩, fa, fn, fc, kids⟩ := x
        have hU := fm_cells' (zs := [Fm.mk op' k' (o, d) fa fn fc kids]) (j := 0) rfl
        have r0 := st.rowC (i := 4) get4 _ _ hU.1
        have r1 := st.rowC (i := 4) get4 _ _ hU.2.1
        have r2 := st.rowC (i := 4) get4 _ _ hU.2.2.1
        have r3 := st.rowC (i := 4) get4 _ _ hU.2.2.2.1
        have r4 := st.rowC (i := 4) get4 _ _ hU.2.2.2.2
        simp only [Nat.zero_mul, Nat.zero_add] at r0 r1 r2 r3 r4
        clear hU hcap
        (try simp only [nsl, Value.cells, unB] at st)
        (try clear hc); have hc := st.facts; (try simp only [nfl, nft, Nat.reduceAdd] at hc)
        go_wp2_with ((first
              | ((with_reducible refine wl_alloc ?_ (fun K hK => ?_)); rfl; refine owp_alloc (o := ⟨some 2, _, _, _, _, _⟩) rfl st ?_; apply Exists.intro; apply Exists.intro; refine ⟨?_, ?_⟩; (focus (first | (go_simp; done) | (go_simp; rfl))); (clear st; intro b2 w hb st; clear hb))
              | ((with_reducible refine wl_buildSlice ?_ (fun K hK => ?_)); rfl; refine owp_buildSlice (o := ⟨some 6, _, _, _, _, _⟩) rfl st ?_; apply Exists.intro; apply Exists.intro; apply Exists.intro; apply Exists.intro; refine ⟨?_, ?_⟩; (focus (go_simp; (first | done | exact ⟨⟨rfl, rfl⟩, rfl⟩ | rfl))); (clear st; intro b6 w hb st; clear hb))
              | ((with_reducible refine wl_buildSlice ?_ (fun K hK => ?_)); rfl; refine owp_buildSlice (o := ⟨some 12, _, _, _, _, _⟩) rfl st ?_; apply Exists.intro; apply Exists.intro; apply Exists.intro; apply Exists.intro; refine ⟨?_, ?_⟩; (focus (go_simp; (first | done | exact ⟨⟨rfl, rfl⟩, rfl⟩ | rfl))); (clear st; intro b12 w hb st; clear hb))
              | ((with_reducible refine wl_store ?_ (fun K hK => ?_)); rfl; refine owp_store rfl st ?_; apply Exists.intro; apply Exists.intro; refine ⟨?_, ?_, ?_⟩; (focus (go_simp; try rfl)); (focus (go_simp; try rfl)); (first | (with_reducible refine ⟨0, _, _, _, _, get0, rfl, rfl, ?_, ?_, ?_, ?_⟩) | (with_reducible refine ⟨1, _, _, _, _, get1, rfl, rfl, ?_, ?_, ?_, ?_⟩) | (with_reducible refine ⟨2, _, _, _, _, get2, rfl, rfl, ?_, ?_, ?_, ?_⟩) | (with_reducible refine ⟨3, _, _, _, _, get3, rfl, rfl, ?_, ?_, ?_, ?_⟩) | (with_reducible refine ⟨4, _, _, _, _, get4, rfl, rfl, ?_, ?_, ?_, ?_⟩) | (with_reducible refine ⟨5, _, _, _, _, get5, rfl, rfl, ?_, ?_, ?_, ?_⟩) | (with_reducible refine ⟨6, _, _, _, _, get6, rfl, rfl, ?_, ?_, ?_, ?_⟩)); (kernel_rfl); (simp [Value.cells]); (rfl); (clear st; intro w st))); (try simp only [nsl, Value.cells, unB] at st); (try clear hc); have hc := st.facts; (try simp only [nfl, nft, Nat.reduceAdd] at hc))
        (try simp only [Exit.inBlock, Exit.then])
        refine bodyPost_cell rfl rfl (st.blk (i := 2) get2) Tryz.underlying26 rfl (by kernel_rfl) rfl ?_
        have st2 := (st.fmOf (i := 3) get3 (x := .mk op' k' (o, d) fa fn fc kids) (by simp)).keep [0, 1, 5] (by decide) (by simp)
        exact rfGot (.mk op' k' (o, d) fa fn fc kids) rfl rfl HC2.out HT.out HL.out HS.out (by simpa [pick, S] using st2)
      · have h1b : ((j : Int) == 1) = false := by simp; omega
        have h1i : ¬ (j : Int) = 1 := by omega
        obtain ⟨hcap, _⟩ := rowFl' (α := Fm) st (i := 4) get4
        have HCAP := Lib.hid hcap
        clear hcap
        replace st := st.rowToFl (α := Fm) (i := 4) get4
        simp only [List.set] at st
        replace st := st.mkFm (i := 4) (j := 3) get4 get3 2 0 ([], []) vc HCAP.out
        simp only [List.cons_append, List.nil_append] at st
        have HS : Hid ((Fm.mk 2 0 ([], []) va j vc gs).strip = joined 2 (gs.map Fm.strip)) := Lib.hid (by
          rw [strip_mk, joined_many]
          rw [List.length_map, ← HJ.out]; exact h1)
        (try simp only [nsl, Value.cells, unB] at st)
        (try clear hc); have hc := st.facts; (try simp only [nfl, nft, Nat.reduceAdd] at hc)
        go_wp2_with ((first
              | ((with_reducible refine wl_alloc ?_ (fun K hK => ?_)); rfl; refine owp_alloc (o := ⟨some 2, _, _, _, _, _⟩) rfl st ?_; apply Exists.intro; apply Exists.intro; refine ⟨?_, ?_⟩; (focus (first | (go_simp; done) | (go_simp; rfl))); (clear st; intro b2 w hb st; clear hb))
              | ((with_reducible refine wl_buildSlice ?_ (fun K hK => ?_)); rfl; refine owp_buildSlice (o := ⟨some 6, _, _, _, _, _⟩) rfl st ?_; apply Exists.intro; apply Exists.intro; apply Exists.intro; apply Exists.intro; refine ⟨?_, ?_⟩; (focus (go_simp; (first | done | exact ⟨⟨rfl, rfl⟩, rfl⟩ | rfl))); (clear st; intro b6 w hb st; clear hb))
              | ((with_reducible refine wl_buildSlice ?_ (fun K hK => ?_)); rfl; refine owp_buildSlice (o := ⟨some 12, _, _, _, _, _⟩) rfl st ?_; apply Exists.intro; apply Exists.intro; apply Exists.intro; apply Exists.intro; refine ⟨?_, ?_⟩; (focus (go_simp; (first | done | exact ⟨⟨rfl, rfl⟩, rfl⟩ | rfl))); (clear st; intro b12 w hb st; clear hb))
              | ((with_reducible refine wl_store ?_ (fun K hK => ?_)); rfl; refine owp_store rfl st ?_; apply Exists.intro; apply Exists.intro; refine ⟨?_, ?_, ?_⟩; (focus (go_simp; try rfl)); (focus (go_simp; try rfl)); (first | (with_reducible refine ⟨0, _, _, _, _, get0, rfl, rfl, ?_, ?_, ?_, ?_⟩) | (with_reducible refine ⟨1, _, _, _, _, get1, rfl, rfl, ?_, ?_, ?_, ?_⟩) | (with_reducible refine ⟨2, _, _, _, _, get2, rfl, rfl, ?_, ?_, ?_, ?_⟩) | (with_reducible refine ⟨3, _, _, _, _, get3, rfl, rfl, ?_, ?_, ?_, ?_⟩) | (with_reducible refine ⟨4, _, _, _, _, get4, rfl, rfl, ?_, ?_, ?_, ?_⟩) | (with_reducible refine ⟨5, _, _, _, _, get5, rfl, rfl, ?_, ?_, ?_, ?_⟩) | (with_reducible refine ⟨6, _, _, _, _, get6, rfl, rfl, ?_, ?_, ?_, ?_⟩)); (kernel_rfl); (simp [Value.cells]); (rfl); (clear st; intro w st))); (try simp only [nsl, Value.cells, unB] at st); (try clear hc); have hc := st.facts; (try simp only [nfl, nft, Nat.reduceAdd] at hc))
        (try simp only [Exit.inBlock, Exit.then])
        refine bodyPost_cell rfl rfl (st.blk (i := 2) get2) Tryz.underlying26 rfl (by kernel_rfl) rfl ?_
        have st2 := st.keep [0, 1, 5] (by decide) (by simp)
        exact rfGot (.mk 2 0 ([], []) va j vc gs) rfl HS.out HC2.out HT.out HL.out HRI.out (by simpa [pick, S] using st2)
set_option maxRecDepth 100000 in
set_option maxHeartbeats 8000000 in
theorem rany_c0 {f : Nat} {one : List Tok → PRes} (hsh : Short one) (ho : Rone rb 27 f one) : Rone rb 18 f (joinP false tOr 3 one) := by
  intro fr al w0 w a n c bad t ht hf hc st
  have HO := Lib.hid ho
  have HSH := Lib.hid hsh
  have HT := Lib.hid ht
  have HF := Lib.hid hf
  have HC := Lib.hid hc
  obtain ⟨res, hres⟩ : ∃ r, joinP false tOr 3 one t = r := ⟨_, rfl⟩
  have HJ := Lib.hid hres
  rw [hres]
  have HTL : Hid (t.length ≤ t.length) := Lib.hid (Nat.le_refl _)
  obtain ⟨tl, htl⟩ : ∃ tl, t.length = tl := ⟨_, rfl⟩
  have HTLE := Lib.hid htl
  rw [htl]
  clear hres ho hsh ht hf hc htl
  (try simp only [nsl, Value.cells, unB] at st)
  (try clear hc); have hc := st.facts; (try simp only [nfl, nft, Nat.reduceAdd] at hc)
  go_enter Tryz.func18, Tryz.ntmps18
  go_wp2_with ((first
        | ((with_reducible refine wl_alloc ?_ (fun K hK => ?_)); rfl; refine owp_alloc (o := ⟨some 2, _, _, _, _, _⟩) rfl st ?_; apply Exists.intro; apply Exists.intro; refine ⟨?_, ?_⟩; (focus (first | (go_simp; done) | (go_simp; rfl))); (clear st; intro b2 w hb st; clear hb))
        | ((with_reducible refine wl_buildSlice ?_ (fun K hK => ?_)); rfl; refine owp_buildSlice (o := ⟨some 6, _, _, _, _, _⟩) rfl st ?_; apply Exists.intro; apply Exists.intro; apply Exists.intro; apply Exists.intro; refine ⟨?_, ?_⟩; (focus (go_simp; (first | done | exact ⟨⟨rfl, rfl⟩, rfl⟩ | rfl))); (clear st; intro b6 w hb st; clear hb))
        | ((with_reducible refine wl_buildSlice ?_ (fun K hK => ?_)); rfl; refine owp_buildSlice (o := ⟨some 12, _, _, _, _, _⟩) rfl st ?_; apply Exists.intro; apply Exists.intro; apply Exists.intro; apply Exists.intro; refine ⟨?_, ?_⟩; (focus (go_simp; (first | done | exact ⟨⟨rfl, rfl⟩, rfl⟩ | rfl))); (clear st; intro b12 w hb st; clear hb))
        | ((with_reducible refine wl_store ?_ (fun K hK => ?_)); rfl; refine owp_store rfl st ?_; apply Exists.intro; apply Exists.intro; refine ⟨?_, ?_, ?_⟩; (focus (go_simp; try rfl)); (focus (go_simp; try rfl)); (first | (with_reducible refine ⟨0, _, _, _, _, get0, rfl, rfl, ?_, ?_, ?_, ?_⟩) | (with_reducible refine ⟨1, _, _, _, _, get1, rfl, rfl, ?_, ?_, ?_, ?_⟩) | (with_reducible refine ⟨2, _, _, _, _, get2, rfl, rfl, ?_, ?_, ?_, ?_⟩) | (with_reducible refine ⟨3, _, _, _, _, get3, rfl, rfl, ?_, ?_, ?_, ?_⟩) | (with_reducible refine ⟨4, _, _, _, _, get4, rfl, rfl, ?_, ?_, ?_, ?_⟩) | (with_reducible refine ⟨5, _, _, _, _, get5, rfl, rfl, ?_, ?_, ?_, ?_⟩) | (with_reducible refine ⟨6, _, _, _, _, get6, rfl, rfl, ?_, ?_, ?_, ?_⟩)); (kernel_rfl); (simp [Value.cells]); (rfl); (clear st; intro w st))); (try simp only [nsl, Value.cells, unB] at st); (try clear hc); have hc := st.facts; (try simp only [nfl, nft, Nat.reduceAdd] at hc))
  obtain ⟨fr', al', st', back⟩ := st.sub [0, 1] (by decide) (by simp)
  (try simp only [nsl, Value.cells, unB] at st')
  refine (HO.out _ _ _ _ _ _ _ _ _ HT.out HF.out HC.out st').mono ?_
  clear st'
  rintro en w ⟨g, bad1, a1, n1, c1, t1, rfl, hc1, ht1, hl1, hr1, st'⟩
  have HC1 := Lib.hid hc1
  have HT1 := Lib.hid ht1
  have HL1 : Hid (t1.length ≤ tl) := Lib.hid (by have := HTLE.out; omega)
  have HF1 : Hid (bad1 = false → t1.length < f) := Lib.hid (fun h => by subst h; have := HF.out hr1.ok.1; omega)
  have HLI : Hid (LIs bad res bad1 ((moreP false tOr one t1.length [g.strip] t1).map fun q => (joined 3 q.1, q.2))) := Lib.hid (by
    unfold LIs
    split
    · rename_i h
      subst h
      rcases hr1.no with q | q
      · exact .inl q
      · exact .inr (by rw [← HJ.out]; exact joinP_none q)
    · rename_i h
      have hb : bad1 = false := by simpa using h
      subst hb
      obtain ⟨q1, q2⟩ := hr1.ok
      exact ⟨q1, by rw [← HJ.out, joinP_some q2]⟩)
  have htl := ht1.1
  clear hc1 ht1 hl1 hr1 HJ HT HF HC HTL
  replace st := back _ _ (by simp) st'
  clear back st'
  (try simp only [nsl, Value.cells, unB] at st)
  (try clear hc); have hc := st.facts; (try simp only [nfl, nft, Nat.reduceAdd] at hc)
  replace st := st.noFms
  simp only [List.cons_append, List.nil_append] at st
  replace st := st.fmsMore (i := 4) (j := 3) get4 get3
  have st9 := st.keep [0, 1, 2, 5] (by decide) (by simp)
  simp only [pick, List.map_cons, List.map_nil, List.getElem?_cons_zero, List.getElem?_cons_succ, Option.getD_some, List.cons_append, List.nil_append] at st9
  clear st
  have st := st9
  clear st9
  have HGS : Hid ([g].map Fm.strip = [g.strip]) := Lib.hid rfl
  obtain ⟨gx, hgx⟩ : ∃ x, g = x := ⟨_, rfl⟩
  obtain ⟨op', k', ⟨o', d'⟩, a', n', c', kids'⟩ := g
  have HCE : Hid (cellsL [gx] = [.int .i64 op', .int .i64 k', .string ⟨o'.toArray⟩, .string ⟨d'.toArray⟩, .slice a' n' c']) := Lib.hid (by rw [← hgx]; rfl)
  have HV : Hid (fmV gx = .agg #[.int .i64 op', .int .i64 k', .string ⟨o'.toArray⟩, .string ⟨d'.toArray⟩, .slice a' n' c']) := Lib.hid (by rw [← hgx]; rfl)
  rw [hgx] at HGS HLI st ⊢
  rw [HV.out]
  clear hgx
  (try simp only [nsl, Value.cells, unB] at st)
  (try clear hc); have hc := st.facts; (try simp only [nfl, nft, Nat.reduceAdd] at hc)
  go_wp2_with (first
      | ((with_reducible refine wl_buildSlice ?_ (fun K hK => ?_)); (rfl); (refine owp_buildRow (o := ⟨some 6, _, _, _, _, _⟩) rfl st 26 5 ?_; refine ⟨1, #[.int .i64 op', .int .i64 k', .string ⟨o'.toArray⟩, .string ⟨d'.toArray⟩, .slice a' n' c'], ?_, by simp, by simp [maxLen], ?_⟩; (focus (go_simp; (first | done | rfl))); (clear st; intro b6 w hb st; clear hb)); (try simp only [nsl, Value.cells, unB] at st); (try clear hc); have hc := st.facts; (try simp only [nfl, nft, Nat.reduceAdd] at hc))
      | ((first
        | ((with_reducible refine wl_alloc ?_ (fun K hK => ?_)); rfl; refine owp_alloc (o := ⟨some 2, _, _, _, _, _⟩) rfl st ?_; apply Exists.intro; apply Exists.intro; refine ⟨?_, ?_⟩; (focus (first | (go_simp; done) | (go_simp; rfl))); (clear st; intro b2 w hb st; clear hb))
        | ((with_reducible refine wl_buildSlice ?_ (fun K hK => ?_)); rfl; refine owp_buildSlice (o := ⟨some 6, _, _, _, _, _⟩) rfl st ?_; apply Exists.intro; apply Exists.intro; apply Exists.intro; apply Exists.intro; refine ⟨?_, ?_⟩; (focus (go_simp; (first | done | exact ⟨⟨rfl, rfl⟩, rfl⟩ | rfl))); (clear st; intro b6 w hb st; clear hb))
        | ((with_reducible refine wl_buildSlice ?_ (fun K hK => ?_)); rfl; refine owp_buildSlice (o := ⟨some 12, _, _, _, _, _⟩) rfl st ?_; apply Exists.intro; apply Exists.intro; apply Exists.intro; apply Exists.intro; refine ⟨?_, ?_⟩; (focus (go_simp; (first | done | exact ⟨⟨rfl, rfl⟩, rfl⟩ | rfl))); (clear st; intro b12 w hb st; clear hb))
        | ((with_reducible refine wl_store ?_ (fun K hK => ?_)); rfl; refine owp_store rfl st ?_; apply Exists.intro; apply Exists.intro; refine ⟨?_, ?_, ?_⟩; (focus (go_simp; try rfl)); (focus (go_simp; try rfl)); (first | (with_reducible refine ⟨0, _, _, _, _, get0, rfl, rfl, ?_, ?_, ?_, ?_⟩) | (with_reducible refine ⟨1, _, _, _, _, get1, rfl, rfl, ?_, ?_, ?_, ?_⟩) | (with_reducible refine ⟨2, _, _, _, _, get2, rfl, rfl, ?_, ?_, ?_, ?_⟩) | (with_reducible refine ⟨3, _, _, _, _, get3, rfl, rfl, ?_, ?_, ?_, ?_⟩) | (with_reducible refine ⟨4, _, _, _, _, get4, rfl, rfl, ?_, ?_, ?_, ?_⟩) | (with_reducible refine ⟨5, _, _, _, _, get5, rfl, rfl, ?_, ?_, ?_, ?_⟩) | (with_reducible refine ⟨6, _, _, _, _, get6, rfl, rfl, ?_, ?_, ?_, ?_⟩)); (kernel_rfl); (simp [Value.cells]); (rfl); (clear st; intro w st))); (try simp only [nsl, Value.cells, unB] at st); (try clear hc); have hc := st.facts; (try simp only [nfl, nft, Nat.reduceAdd] at hc)))
  obtain ⟨m, hn⟩ : ∃ n, t1.length = n := ⟨_, rfl⟩
  rw [hn] at HLI
  have HN := Lib.hid hn
  rw [hn] at htl
  clear hn
  go_loopg [3] m (fun k v wr => ∃ (q j : Nat) (gs : List Fm) (bad' : Bool) (t' : List Tok) (a' : Option Addr) (n' c' : Nat) (va : Option Addr) (vc : Nat), q = k ∧ k ≤ m ∧ v = .slice va j vc ∧ (1 ≤ j ∧ j + k ≤ 1000010) ∧ Hid (j = gs.length) ∧ Hid (n' ≤ c' ∧ c' ≤ maxLen) ∧ Hid (TokL t') ∧ Hid (t'.length ≤ k) ∧ Hid (t'.length ≤ tl) ∧ Hid (bad' = false → t'.length < f) ∧ Hid (LIs bad res bad' ((moreP false tOr one k (gs.map Fm.strip) t').map fun q => (joined 3 q.1, q.2))) ∧ Own fr al w0 [blkI rb [.slice a' n' c', .bool bad'], flI a' n' t', blkI b2 [.int .i64 0, .int .i64 0, .string ⟨#[]⟩, .string ⟨#[]⟩, .slice none 0 0], fmsI gs, rowI 26 5 (.slice va j vc) j (cellsL gs)] wr)
  case atStart => exact ⟨m, 1, [gx], bad1, t1, a1, n1, c1, _, _, rfl, by omega, rfl, ⟨by omega, by omega⟩, Lib.hid rfl, HC1, HT1, Lib.hid (by have := HN.out; omega), HL1, HF1, Lib.hid (by rw [HGS.out]; exact HLI.out), by rw [HCE.out]; simpa using st⟩
  case round =>
    clear HC1 HT1 HL1 HF1 HLI HGS HN HCE HV
    obtain ⟨k, j, gs, bad1, t', a1, n1, c1, va, vc, rfl, hkn, rfl, hj, HJ, HC, HT, HK, HL, HF, HLI, st'⟩ := hrel
    clear st hc
    have st := st'
    clear st'
    (try simp only [nsl, Value.cells, unB] at st)
    (try clear hc); have hc := st.facts; (try simp only [nfl, nft, Nat.reduceAdd] at hc)
    go_wp2_with ((first
          | ((with_reducible refine wl_alloc ?_ (fun K hK => ?_)); rfl; refine owp_alloc (o := ⟨some 2, _, _, _, _, _⟩) rfl st ?_; apply Exists.intro; apply Exists.intro; refine ⟨?_, ?_⟩; (focus (first | (go_simp; done) | (go_simp; rfl))); (clear st; intro b2 w hb st; clear hb))
          | ((with_reducible refine wl_buildSlice ?_ (fun K hK => ?_)); rfl; refine owp_buildSlice (o := ⟨some 6, _, _, _, _, _⟩) rfl st ?_; apply Exists.intro; apply Exists.intro; apply Exists.intro; apply Exists.intro; refine ⟨?_, ?_⟩; (focus (go_simp; (first | done | exact ⟨⟨rfl, rfl⟩, rfl⟩ | rfl))); (clear st; intro b6 w hb st; clear hb))
          | ((with_reducible refine wl_buildSlice ?_ (fun K hK => ?_)); rfl; refine owp_buildSlice (o := ⟨some 12, _, _, _, _, _⟩) rfl st ?_; apply Exists.intro; apply Exists.intro; apply Exists.intro; apply Exists.intro; refine ⟨?_, ?_⟩; (focus (go_simp; (first | done | exact ⟨⟨rfl, rfl⟩, rfl⟩ | rfl))); (clear st; intro b12 w hb st; clear hb))
          | ((with_reducible refine wl_store ?_ (fun K hK => ?_)); rfl; refine owp_store rfl st ?_; apply Exists.intro; apply Exists.intro; refine ⟨?_, ?_, ?_⟩; (focus (go_simp; try rfl)); (focus (go_simp; try rfl)); (first | (with_reducible refine ⟨0, _, _, _, _, get0, rfl, rfl, ?_, ?_, ?_, ?_⟩) | (with_reducible refine ⟨1, _, _, _, _, get1, rfl, rfl, ?_, ?_, ?_, ?_⟩) | (with_reducible refine ⟨2, _, _, _, _, get2, rfl, rfl, ?_, ?_, ?_, ?_⟩) | (with_reducible refine ⟨3, _, _, _, _, get3, rfl, rfl, ?_, ?_, ?_, ?_⟩) | (with_reducible refine ⟨4, _, _, _, _, get4, rfl, rfl, ?_, ?_, ?_, ?_⟩) | (with_reducible refine ⟨5, _, _, _, _, get5, rfl, rfl, ?_, ?_, ?_, ?_⟩) | (with_reducible refine ⟨6, _, _, _, _, get6, rfl, rfl, ?_, ?_, ?_, ?_⟩)); (kernel_rfl); (simp [Value.cells]); (rfl); (clear st; intro w st))); (try simp only [nsl, Value.cells, unB] at st); (try clear hc); have hc := st.facts; (try simp only [nfl, nft, Nat.reduceAdd] at hc))
    obtain ⟨fr', al', st', back⟩ := st.sub [0, 1] (by decide) (by simp)
    (try simp only [nsl, Value.cells, unB] at st')
    refine (rhas_c (t := t') tOr (by decide) HC.out st').mono ?_
    clear st'
    intro en w hg
    unfold hasR at hg
    by_cases hq : bad1 = false ∧ nxT t' = tOr
    · rw [if_pos hq] at hg
      obtain ⟨a2, n2, c2, rfl, hc2, st'⟩ := hg
      obtain ⟨rfl, hq⟩ := hq
      obtain ⟨q, rfl⟩ : ∃ q, k = q + 1 := by
        obtain ⟨l, hl⟩ := nxT_pos (by decide) hq
        have := HK.out
        rw [hl, List.length_cons] at this
        exact ⟨k - 1, by omega⟩
      have HC2 := Lib.hid hc2
      have HT2 := Lib.hid HT.out.tail
      have HL2 : Hid (t'.tail.length ≤ q ∧ t'.tail.length < f ∧ t'.tail.length ≤ tl) := Lib.hid (by
        obtain ⟨l, hl⟩ := nxT_pos (by decide) hq
        have h1 := HK.out
        have h2 := HF.out rfl
        have h3 := HL.out
        rw [hl] at h1 h2 h3 ⊢
        simp only [List.length_cons, List.tail_cons] at h1 h2 h3 ⊢
        omega)
      have HM : Hid (bad = false ∧ ∀ x t3, one t'.tail = some (x, t3) → (moreP false tOr one q (gs.map Fm.strip ++ [x]) t3).map (fun q => (joined 3 q.1, q.2)) = res) := Lib.hid ⟨HLI.out.ok.1, fun x t3 h => by rw [← HLI.out.ok.2, moreP_some hq q _ (stF t') h]⟩
      have HM0 : Hid (one t'.tail = none → res = none) := Lib.hid (fun h => by rw [← HLI.out.ok.2, moreP_none2 hq q _ (stF t') h]; rfl)
      clear hq hc2 HC HT HK HF HLI HL
      replace st := back _ _ (by simp) st'
      clear back st'
      (try simp only [nsl, Value.cells, unB] at st)
      (try clear hc); have hc := st.facts; (try simp only [nfl, nft, Nat.reduceAdd] at hc)
      go_wp2_with ((first
            | ((with_reducible refine wl_alloc ?_ (fun K hK => ?_)); rfl; refine owp_alloc (o := ⟨some 2, _, _, _, _, _⟩) rfl st ?_; apply Exists.intro; apply Exists.intro; refine ⟨?_, ?_⟩; (focus (first | (go_simp; done) | (go_simp; rfl))); (clear st; intro b2 w hb st; clear hb))
            | ((with_reducible refine wl_buildSlice ?_ (fun K hK => ?_)); rfl; refine owp_buildSlice (o := ⟨some 6, _, _, _, _, _⟩) rfl st ?_; apply Exists.intro; apply Exists.intro; apply Exists.intro; apply Exists.intro; refine ⟨?_, ?_⟩; (focus (go_simp; (first | done | exact ⟨⟨rfl, rfl⟩, rfl⟩ | rfl))); (clear st; intro b6 w hb st; clear hb))
            | ((with_reducible refine wl_buildSlice ?_ (fun K hK => ?_)); rfl; refine owp_buildSlice (o := ⟨some 12, _, _, _, _, _⟩) rfl st ?_; apply Exists.intro; apply Exists.intro; apply Exists.intro; apply Exists.intro; refine ⟨?_, ?_⟩; (focus (go_simp; (first | done | exact ⟨⟨rfl, rfl⟩, rfl⟩ | rfl))); (clear st; intro b12 w hb st; clear hb))
            | ((with_reducible refine wl_store ?_ (fun K hK => ?_)); rfl; refine owp_store rfl st ?_; apply Exists.intro; apply Exists.intro; refine ⟨?_, ?_, ?_⟩; (focus (go_simp; try rfl)); (focus (go_simp; try rfl)); (first | (with_reducible refine ⟨0, _, _, _, _, get0, rfl, rfl, ?_, ?_, ?_, ?_⟩) | (with_reducible refine ⟨1, _, _, _, _, get1, rfl, rfl, ?_, ?_, ?_, ?_⟩) | (with_reducible refine ⟨2, _, _, _, _, get2, rfl, rfl, ?_, ?_, ?_, ?_⟩) | (with_reducible refine ⟨3, _, _, _, _, get3, rfl, rfl, ?_, ?_, ?_, ?_⟩) | (with_reducible refine ⟨4, _, _, _, _, get4, rfl, rfl, ?_, ?_, ?_, ?_⟩) | (with_reducible refine ⟨5, _, _, _, _, get5, rfl, rfl, ?_, ?_, ?_, ?_⟩) | (with_reducible refine ⟨6, _, _, _, _, get6, rfl, rfl, ?_, ?_, ?_, ?_⟩)); (kernel_rfl); (simp [Value.cells]); (rfl); (clear st; intro w st))); (try simp only [nsl, Value.cells, unB] at st); (try clear hc); have hc := st.facts; (try simp only [nfl, nft, Nat.reduceAdd] at hc))
      obtain ⟨fr', al', st', back⟩ := st.sub [0, 1] (by decide) (by simp)
      (try simp only [nsl, Value.cells, unB] at st')
      refine (HO.out _ _ _ _ _ _ _ _ _ HT2.out (fun _ => HL2.out.2.1) HC2.out st').mono ?_
      clear st'
      rintro en w ⟨g, bad3, a3, n3, c3, t3, rfl, hc3, ht3, hl3, hr3, st'⟩
      have HC3 := Lib.hid hc3
      have HT3 := Lib.hid ht3
      have HK3 : Hid (t3.length ≤ q) := Lib.hid (by have := HL2.out; omega)
      have HL3 : Hid (t3.length ≤ tl) := Lib.hid (by have := HL2.out; omega)
      have HF3 : Hid (bad3 = false → t3.length < f) := Lib.hid (fun _ => by have := HL2.out; omega)
      have HLI3 : Hid (LIs bad res bad3 ((moreP false tOr one q ((gs ++ [g]).map Fm.strip) t3).map fun q => (joined 3 q.1, q.2))) := Lib.hid (by
        unfold LIs
        split
        · rename_i h
          subst h
          rcases hr3.no with q | q
          · cases q
          · exact .inr (HM0.out q)
        · rename_i h
          have hb : bad3 = false := by simpa using h
          subst hb
          exact ⟨HM.out.1, by rw [List.map_append]; exact HM.out.2 _ _ hr3.ok.2⟩)
      have HJ3 : Hid (j + 1 = (gs ++ [g]).length) := Lib.hid (by rw [List.length_append, ← HJ.out]; rfl)
      clear hc3 ht3 hl3 hr3 HM HM0 HL2 HT2 HC2 HJ
      replace st := back _ _ (by simp) st'
      clear back st'
      (try simp only [nsl, Value.cells, unB] at st)
      (try clear hc); have hc := st.facts; (try simp only [nfl, nft, Nat.reduceAdd] at hc)
      replace st := st.fmsMore (i := 3) (j := 5) get3 get5
      have st9 := st.keep [0, 1, 2, 6, 4] (by decide) (by simp)
      simp only [pick, List.map_cons, List.map_nil, List.getElem?_cons_zero, List.getElem?_cons_succ, Option.getD_some, List.cons_append, List.nil_append] at st9
      clear st
      have st := st9
      clear st9
      obtain ⟨op', k', ⟨o', d'⟩, a', n', c', kids'⟩ := g
      unfold fmV S
      simp only
      (try simp only [nsl, Value.cells, unB] at st)
      (try clear hc); have hc := st.facts; (try simp only [nfl, nft, Nat.reduceAdd] at hc)
      go_wp2_with (first
          | ((with_reducible refine wl_append ?_ (fun K hK => ?_)); (rfl); (obtain ⟨inf, hinf, hz0, hz1, hz2⟩ := fmInfo); (refine owp_append rfl st 4 get4 Tryz.underlying24 hinf hz0 hz1 hz2 rfl (by decide) rfl rfl ((st.blk (i := 5) get5).flat rfl) (by first | exact cellsL_all _ | simp [Value.oneCell']) (by simp only [maxLen]; omega) (by omega) ?_); (clear hinf hz0 hz1 hz2 inf); (clear st; intro v' w st); (obtain ⟨va', vc', rfl⟩ := own_slice (st.row (i := 4) get4)); (try simp only [nsl, Value.cells, unB] at st); (try simp only [Nat.zero_add] at st); (try clear hc); have hc := st.facts; (try simp only [nfl, nft, Nat.reduceAdd] at hc))
          | ((first
            | ((with_reducible refine wl_alloc ?_ (fun K hK => ?_)); rfl; refine owp_alloc (o := ⟨some 2, _, _, _, _, _⟩) rfl st ?_; apply Exists.intro; apply Exists.intro; refine ⟨?_, ?_⟩; (focus (first | (go_simp; done) | (go_simp; rfl))); (clear st; intro b2 w hb st; clear hb))
            | ((with_reducible refine wl_buildSlice ?_ (fun K hK => ?_)); rfl; refine owp_buildSlice (o := ⟨some 6, _, _, _, _, _⟩) rfl st ?_; apply Exists.intro; apply Exists.intro; apply Exists.intro; apply Exists.intro; refine ⟨?_, ?_⟩; (focus (go_simp; (first | done | exact ⟨⟨rfl, rfl⟩, rfl⟩ | rfl))); (clear st; intro b6 w hb st; clear hb))
            | ((with_reducible refine wl_buildSlice ?_ (fun K hK => ?_)); rfl; refine owp_buildSlice (o := ⟨some 12, _, _, _, _, _⟩) rfl st ?_; apply Exists.intro; apply Exists.intro; apply Exists.intro; apply Exists.intro; refine ⟨?_, ?_⟩; (focus (go_simp; (first | done | exact ⟨⟨rfl, rfl⟩, rfl⟩ | rfl))); (clear st; intro b12 w hb st; clear hb))
            | ((with_reducible refine wl_store ?_ (fun K hK => ?_)); rfl; refine owp_store rfl st ?_; apply Exists.intro; apply Exists.intro; refine ⟨?_, ?_, ?_⟩; (focus (go_simp; try rfl)); (focus (go_simp; try rfl)); (first | (with_reducible refine ⟨0, _, _, _, _, get0, rfl, rfl, ?_, ?_, ?_, ?_⟩) | (with_reducible refine ⟨1, _, _, _, _, get1, rfl, rfl, ?_, ?_, ?_, ?_⟩) | (with_reducible refine ⟨2, _, _, _, _, get2, rfl, rfl, ?_, ?_, ?_, ?_⟩) | (with_reducible refine ⟨3, _, _, _, _, get3, rfl, rfl, ?_, ?_, ?_, ?_⟩) | (with_reducible refine ⟨4, _, _, _, _, get4, rfl, rfl, ?_, ?_, ?_, ?_⟩) | (with_reducible refine ⟨5, _, _, _, _, get5, rfl, rfl, ?_, ?_, ?_, ?_⟩) | (with_reducible refine ⟨6, _, _, _, _, get6, rfl, rfl, ?_, ?_, ?_, ?_⟩)); (kernel_rfl); (simp [Value.cells]); (rfl); (clear st; intro w st))); (try simp only [nsl, Value.cells, unB] at st); (try clear hc); have hc := st.facts; (try simp only [nfl, nft, Nat.reduceAdd] at hc)))
      have st' := st.keep [0, 1, 2, 3, 4] (by decide) (by simp)
      go_roundg q
      case measure => omega
      case rel =>
        refine ⟨q, j + 1, gs ++ [.mk op' k' (o', d') a' n' c' kids'], bad3, t3, a3, n3, c3, va', vc', rfl, by omega, rfl, ⟨by omega, by omega⟩, HJ3, HC3, HT3, HK3, HL3, HF3, HLI3, ?_⟩
        rw [cellsL_append, cellsL_one']
        simpa [pick, Flt.cells, fmC, S] using st'
    · rw [if_neg hq] at hg
      obtain ⟨a2, n2, c2, rfl, hc2, st'⟩ := hg
      have HC2 := Lib.hid hc2
      have HRI : Hid (RIs bad res bad1 (joined 3 (gs.map Fm.strip)) t') := Lib.hid (by
        unfold RIs
        split
        · rename_i h; subst h; exact HLI.out.no
        · rename_i h
          have hb : bad1 = false := by simpa using h
          subst hb
          have hn : nxT t' ≠ tOr := fun h => hq ⟨rfl, h⟩
          exact ⟨HLI.out.ok.1, by rw [← HLI.out.ok.2, moreP_end hn]; rfl⟩)
      clear hq hc2 HC HLI HF HK
      replace st := back _ _ (by simp) st'
      clear back st'
      (try simp only [nsl, Value.cells, unB] at st)
      (try clear hc); have hc := st.facts; (try simp only [nfl, nft, Nat.reduceAdd] at hc)
      by_cases h1 : j = 1
      · subst h1
        obtain ⟨x, rfl⟩ : ∃ x, gs = [x] := List.length_eq_one_iff.1 HJ.out.symm
        obtain ⟨g, cap', hv, hcap, _⟩ := st.rowAt (i := 4) get4 (by omega)
        injection hv with hv1 hv2 hv3
        subst hv1 hv3
        have HS : Hid (RIs bad res bad1 x.strip t') := HRI
        obtain ⟨op', k', ⟨o, d⟩, fa, fn, fc, kids⟩ := x
        have hU := fm_cells' (zs := [Fm.mk op' k' (o, d) fa fn fc kids]) (j := 0) rfl
        have r0 := st.rowC (i := 4) get4 _ _ hU.1
        have r1 := st.rowC (i := 4) get4 _ _ hU.2.1
        have r2 := st.rowC (i := 4) get4 _ _ hU.2.2.1
        have r3 := st.rowC (i := 4) get4 _ _ hU.2.2.2.1
        have r4 := st.rowC (i := 4) get4 _ _ hU.2.2.2.2
        simp only [Nat.zero_mul, Nat.zero_add] at r0 r1 r2 r3 r4
        clear hU hcap
        (try simp only [nsl, Value.cells, unB] at st)
        (try clear hc); have hc := st.facts; (try simp only [nfl, nft, Nat.reduceAdd] at hc)
        go_wp2_with ((first
              | ((with_reducible refine wl_alloc ?_ (fun K hK => ?_)); rfl; refine owp_alloc (o := ⟨some 2, _, _, _, _, _⟩) rfl st ?_; apply Exists.intro; apply Exists.intro; refine ⟨?_, ?_⟩; (focus (first | (go_simp; done) | (go_simp; rfl))); (clear st; intro b2 w hb st; clear hb))
              | ((with_reducible refine wl_buildSlice ?_ (fun K hK => ?_)); rfl; refine owp_buildSlice (o := ⟨some 6, _, _, _, _, _⟩) rfl st ?_; apply Exists.intro; apply Exists.intro; apply Exists.intro; apply Exists.intro; refine ⟨?_, ?_⟩; (focus (go_simp; (first | done | exact ⟨⟨rfl, rfl⟩, rfl⟩ | rfl))); (clear st; intro b6 w hb st; clear hb))
              | ((with_reducible refine wl_buildSlice ?_ (fun K hK => ?_)); rfl; refine owp_buildSlice (o := ⟨some 12, _, _, _, _, _⟩) rfl st ?_; apply Exists.intro; apply Exists.intro; apply Exists.intro; apply Exists.intro; refine ⟨?_, ?_⟩; (focus (go_simp; (first | done | exact ⟨⟨rfl, rfl⟩, rfl⟩ | rfl))); (clear st; intro b12 w hb st; clear hb))
              | ((with_reducible refine wl_store ?_ (fun K hK => ?_)); rfl; refine owp_store rfl st ?_; apply Exists.intro; apply Exists.intro; refine ⟨?_, ?_, ?_⟩; (focus (go_simp; try rfl)); (focus (go_simp; try rfl)); (first | (with_reducible refine ⟨0, _, _, _, _, get0, rfl, rfl, ?_, ?_, ?_, ?_⟩) | (with_reducible refine ⟨1, _, _, _, _, get1, rfl, rfl, ?_, ?_, ?_, ?_⟩) | (with_reducible refine ⟨2, _, _, _, _, get2, rfl, rfl, ?_, ?_, ?_, ?_⟩) | (with_reducible refine ⟨3, _, _, _, _, get3, rfl, rfl, ?_, ?_, ?_, ?_⟩) | (with_reducible refine ⟨4, _, _, _, _, get4, rfl, rfl, ?_, ?_, ?_, ?_⟩) | (with_reducible refine ⟨5, _, _, _, _, get5, rfl, rfl, ?_, ?_, ?_, ?_⟩) | (with_reducible refine ⟨6, _, _, _, _, get6, rfl, rfl, ?_, ?_, ?_, ?_⟩)); (kernel_rfl); (simp [Value.cells]); (rfl); (clear st; intro w st))); (try simp only [nsl, Value.cells, unB] at st); (try clear hc); have hc := st.facts; (try simp only [nfl, nft, Nat.reduceAdd] at hc))
        (try simp only [Exit.inBlock, Exit.then])
        refine bodyPost_cell rfl rfl (st.blk (i := 2) get2) Tryz.underlying26 rfl (by kernel_rfl) rfl ?_
        have st2 := (st.fmOf (i := 3) get3 (x := .mk op' k' (o, d) fa fn fc kids) (by simp)).keep [0, 1, 5] (by decide) (by simp)
        exact rfGot (.mk op' k' (o, d) fa fn fc kids) rfl rfl HC2.out HT.out HL.out HS.out (by simpa [pick, S] using st2)
      · have h1b : ((j : Int) == 1) = false := by simp; omega
        have h1i : ¬ (j : Int) = 1 := by omega
        obtain ⟨hcap, _⟩ := rowFl' (α := Fm) st (i := 4) get4
        have HCAP := Lib.hid hcap
        clear hcap
        replace st := st.rowToFl (α := Fm) (i := 4) get4
        simp only [List.set] at st
        replace st := st.mkFm (i := 4) (j := 3) get4 get3 3 0 ([], []) vc HCAP.out
        simp only [List.cons_append, List.nil_append] at st
        have HS : Hid ((Fm.mk 3 0 ([], []) va j vc gs).strip = joined 3 (gs.map Fm.strip)) := Lib.hid (by
          rw [strip_mk, joined_many]
          rw [List.length_map, ← HJ.out]; exact h1)
        (try simp only [nsl, Value.cells, unB] at st)
        (try clear hc); have hc := st.facts; (try simp only [nfl, nft, Nat.reduceAdd] at hc)
        go_wp2_with ((first
              | ((with_reducible refine wl_alloc ?_ (fun K hK => ?_)); rfl; refine owp_alloc (o := ⟨some 2, _, _, _, _, _⟩) rfl st ?_; apply Exists.intro; apply Exists.intro; refine ⟨?_, ?_⟩; (focus (first | (go_simp; done) | (go_simp; rfl))); (clear st; intro b2 w hb st; clear hb))
              | ((with_reducible refine wl_buildSlice ?_ (fun K hK => ?_)); rfl; refine owp_buildSlice (o := ⟨some 6, _, _, _, _, _⟩) rfl st ?_; apply Exists.intro; apply Exists.intro; apply Exists.intro; apply Exists.intro; refine ⟨?_, ?_⟩; (focus (go_simp; (first | done | exact ⟨⟨rfl, rfl⟩, rfl⟩ | rfl))); (clear st; intro b6 w hb st; clear hb))
              | ((with_reducible refine wl_buildSlice ?_ (fun K hK => ?_)); rfl; refine owp_buildSlice (o := ⟨some 12, _, _, _, _, _⟩) rfl st ?_; apply Exists.intro; apply Exists.intro; apply Exists.intro; apply Exists.intro; refine ⟨?_, ?_⟩; (focus (go_simp; (first | done | exact ⟨⟨rfl, rfl⟩, rfl⟩ | rfl))); (clear st; intro b12 w hb st; clear hb))
              | ((with_reducible refine wl_store ?_ (fun K hK => ?_)); rfl; refine owp_store rfl st ?_; apply Exists.intro; apply Exists.intro; refine ⟨?_, ?_, ?_⟩; (focus (go_simp; try rfl)); (focus (go_simp; try rfl)); (first | (with_reducible refine ⟨0, _, _, _, _, get0, rfl, rfl, ?_, ?_, ?_, ?_⟩) | (with_reducible refine ⟨1, _, _, _, _, get1, rfl, rfl, ?_, ?_, ?_, ?_⟩) | (with_reducible refine ⟨2, _, _, _, _, get2, rfl, rfl, ?_, ?_, ?_, ?_⟩) | (with_reducible refine ⟨3, _, _, _, _, get3, rfl, rfl, ?_, ?_, ?_, ?_⟩) | (with_reducible refine ⟨4, _, _, _, _, get4, rfl, rfl, ?_, ?_, ?_, ?_⟩) | (with_reducible refine ⟨5, _, _, _, _, get5, rfl, rfl, ?_, ?_, ?_, ?_⟩) | (with_reducible refine ⟨6, _, _, _, _, get6, rfl, rfl, ?_, ?_, ?_, ?_⟩)); (kernel_rfl); (simp [Value.cells]); (rfl); (clear st; intro w st))); (try simp only [nsl, Value.cells, unB] at st); (try clear hc); have hc := st.facts; (try simp only [nfl, nft, Nat.reduceAdd] at hc))
        (try simp only [Exit.inBlock, Exit.then])
        refine bodyPost_cell rfl rfl (st.blk (i := 2) get2) Tryz.underlying26 rfl (by kernel_rfl) rfl ?_
        have st2 := st.keep [0, 1, 5] (by decide) (by simp)
        exact rfGot (.mk 3 0 ([], []) va j vc gs) rfl HS.out HC2.out HT.out HL.out HRI.out (by simpa [pick, S] using st2)
theorem rany_c {f : Nat} {one : List Tok → PRes} (hsh : Short one) (ho : Rone rb 41 f one) : Rone rb 18 f (anyP false one) := rany_c0 (joinP_short hsh) (rboth_c hsh ho)
end
end Go.Proofs.YtnhilgciddcahaaGreatDoor

namespace Go.Proofs.YtnhilgciddcahaaGreatDoor
set_option linter.unusedSimpArgs false
set_option linter.unusedVariables false
open Go Go.RowKit
section
variable {fr al : Nat → Prop} {w0 w W : World} {rb : Nat}
def RlGot (fr al : Nat → Prop) (w0 : World) (rb : Nat) (bad : Bool) (o : Option (List Fo × List Tok)) (k : Nat) (e : Ending) (w' : World) : Prop :=
  ∃ va n vc gs bad' a' n' c' t', e = .returned (.slice va n vc) ∧ (n ≤ vc ∧ vc ≤ maxLen) ∧ (n' ≤ c' ∧ c' ≤ maxLen) ∧ TokL t' ∧ t'.length ≤ k ∧ RIs bad o bad' (gs.map Fm.strip) t' ∧ Own fr al w0 [blkI rb [.slice a' n' c', .bool bad'], flI a' n' t', flI va n gs, fmsI gs] w'
theorem takeF_no {w : Tok} {t : List Tok} (h : nxT t ≠ w) : takeP false w t = none := by unfold takeP; rw [if_neg h]
theorem takeF_ok {w : Tok} {t : List Tok} (h : nxT t = w) : takeP false w t = some t.tail := by unfold takeP; rw [if_pos h, stF]
set_option maxRecDepth 100000 in
set_option maxHeartbeats 8000000 in
theorem rlist_c {f : Nat} {one : List Tok → PRes} (hsh : Short (anyP false one)) (ho : Rone rb 18 f (anyP false one)) {a : Option Addr} {n c : Nat} {bad : Bool} {t : List Tok} (ht : TokL t) (hf : bad = false → t.length < f) (hc : n ≤ c ∧ c ≤ maxLen) (st : Own fr al w0 [blkI rb [.slice a n c, .bool bad], flI a n t] w) :
    Calls Tryz.prog 56 #[.pointer (some ⟨rb, 0, none⟩)] w (RlGot fr al w0 rb bad (listP false one t) t.length) := by
  have HO := Lib.hid ho
  have HSH := Lib.hid hsh
  have HT := Lib.hid ht
  have HF := Lib.hid hf
  have HC := Lib.hid hc
  obtain ⟨res, hres⟩ : ∃ r, listP false one t = r := ⟨_, rfl⟩
  have HJ := Lib.hid hres
  rw [hres]
  obtain ⟨tl, htl⟩ : ∃ tl, t.length = tl := ⟨_, rfl⟩
  have HTLE := Lib.hid htl
  rw [htl]
  clear hres ho hsh ht hf hc htl
  (try simp only [nsl, Value.cells, unB] at st)
  (try clear hc); have hc := st.facts; (try simp only [nfl, nft, Nat.reduceAdd] at hc)
  go_enter Tryz.func56, Tryz.ntmps56
  go_wp2_with ((first
        | ((with_reducible refine wl_buildSlice ?_ (fun K hK => ?_)); rfl; refine owp_buildSlice (o := ⟨some 17, _, _, _, _, _⟩) rfl st ?_; apply Exists.intro; apply Exists.intro; apply Exists.intro; apply Exists.intro; refine ⟨?_, ?_⟩; (focus (go_simp; (first | done | exact ⟨⟨rfl, rfl⟩, rfl⟩ | rfl))); (clear st; intro b17 w hb st; clear hb))
        | ((with_reducible refine wl_buildSlice ?_ (fun K hK => ?_)); rfl; refine owp_buildSlice (o := ⟨some 24, _, _, _, _, _⟩) rfl st ?_; apply Exists.intro; apply Exists.intro; apply Exists.intro; apply Exists.intro; refine ⟨?_, ?_⟩; (focus (go_simp; (first | done | exact ⟨⟨rfl, rfl⟩, rfl⟩ | rfl))); (clear st; intro b24 w hb st; clear hb))); (try simp only [nsl, Value.cells, unB] at st); (try clear hc); have hc := st.facts; (try simp only [nfl, nft, Nat.reduceAdd] at hc))
  obtain ⟨fr', al', st', back⟩ := st.sub [0, 1] (by decide) (by simp)
  (try simp only [nsl, Value.cells, unB] at st')
  refine (rmust_c (t := t) tOpen (by decide) HC.out st').mono ?_
  clear st'
  intro en w hg
  unfold mustR at hg
  by_cases h0 : bad = false ∧ nxT t = tOpen
  case neg =>
    rw [if_neg h0] at hg
    obtain ⟨a2, n2, c2, rfl, hc2, st'⟩ := hg
    have HC2 := Lib.hid hc2
    have HR : Hid (RIs bad res true ([] : List Fo) t) := Lib.hid (by
      show bad = true ∨ res = none
      cases bad with
      | true => exact .inl rfl
      | false => exact .inr (by rw [← HJ.out]; exact listP_0 (takeF_no fun h => h0 ⟨rfl, h⟩)))
    clear h0 hc2
    replace st := back _ _ (by simp) st'
    clear back st'
    (try simp only [nsl, Value.cells, unB] at st)
    (try clear hc); have hc := st.facts; (try simp only [nfl, nft, Nat.reduceAdd] at hc)
    go_wp2_with ((first
          | ((with_reducible refine wl_buildSlice ?_ (fun K hK => ?_)); rfl; refine owp_buildSlice (o := ⟨some 17, _, _, _, _, _⟩) rfl st ?_; apply Exists.intro; apply Exists.intro; apply Exists.intro; apply Exists.intro; refine ⟨?_, ?_⟩; (focus (go_simp; (first | done | exact ⟨⟨rfl, rfl⟩, rfl⟩ | rfl))); (clear st; intro b17 w hb st; clear hb))
          | ((with_reducible refine wl_buildSlice ?_ (fun K hK => ?_)); rfl; refine owp_buildSlice (o := ⟨some 24, _, _, _, _, _⟩) rfl st ?_; apply Exists.intro; apply Exists.intro; apply Exists.intro; apply Exists.intro; refine ⟨?_, ?_⟩; (focus (go_simp; (first | done | exact ⟨⟨rfl, rfl⟩, rfl⟩ | rfl))); (clear st; intro b24 w hb st; clear hb))); (try simp only [nsl, Value.cells, unB] at st); (try clear hc); have hc := st.facts; (try simp only [nfl, nft, Nat.reduceAdd] at hc))
    go_ret
    refine ⟨none, 0, 0, [], true, a2, n2, c2, t, rfl, ⟨Nat.le_refl _, by simp [maxLen]⟩, HC2.out, HT.out, by have := HTLE.out; omega, HR.out, ?_⟩
    have st2 := st.nilFm.noFms
    simpa [pick] using st2
  case pos =>
    rw [if_pos h0] at hg
    obtain ⟨a2, n2, c2, rfl, hc2, st'⟩ := hg
    obtain ⟨rfl, h0⟩ := h0
    have HC2 := Lib.hid hc2
    have HT2 := Lib.hid HT.out.tail
    have HL2 : Hid (t.tail.length < f ∧ t.tail.length ≤ tl) := Lib.hid (by have h1 := HF.out rfl; have h2 := HTLE.out; simp; omega)
    have HTK := Lib.hid (takeF_ok h0)
    generalize t.tail = t1 at *
    clear h0 hc2 HF HT HC HTLE
    replace st := back _ _ (by simp) st'
    clear back st'
    (try simp only [nsl, Value.cells, unB] at st)
    (try clear hc); have hc := st.facts; (try simp only [nfl, nft, Nat.reduceAdd] at hc)
    go_wp2_with ((first
          | ((with_reducible refine wl_buildSlice ?_ (fun K hK => ?_)); rfl; refine owp_buildSlice (o := ⟨some 17, _, _, _, _, _⟩) rfl st ?_; apply Exists.intro; apply Exists.intro; apply Exists.intro; apply Exists.intro; refine ⟨?_, ?_⟩; (focus (go_simp; (first | done | exact ⟨⟨rfl, rfl⟩, rfl⟩ | rfl))); (clear st; intro b17 w hb st; clear hb))
          | ((with_reducible refine wl_buildSlice ?_ (fun K hK => ?_)); rfl; refine owp_buildSlice (o := ⟨some 24, _, _, _, _, _⟩) rfl st ?_; apply Exists.intro; apply Exists.intro; apply Exists.intro; apply Exists.intro; refine ⟨?_, ?_⟩; (focus (go_simp; (first | done | exact ⟨⟨rfl, rfl⟩, rfl⟩ | rfl))); (clear st; intro b24 w hb st; clear hb))); (try simp only [nsl, Value.cells, unB] at st); (try clear hc); have hc := st.facts; (try simp only [nfl, nft, Nat.reduceAdd] at hc))
    obtain ⟨fr', al', st', back⟩ := st.sub [0, 1] (by decide) (by simp)
    (try simp only [nsl, Value.cells, unB] at st')
    refine (rhas_c (t := t1) tShut (by decide) HC2.out st').mono ?_
    clear st'
    intro en w hg
    unfold hasR at hg
    by_cases hq : nxT t1 = tShut
    · rw [if_pos ⟨rfl, hq⟩] at hg
      obtain ⟨a3, n3, c3, rfl, hc3, st'⟩ := hg
      have HC3 := Lib.hid hc3
      have HR : Hid (RIs false res false ([] : List Fo) t1.tail) := Lib.hid (by
        refine ⟨rfl, ?_⟩
        rw [← HJ.out, listP_1 HTK.out hq, stF]; rfl)
      clear hq hc3
      replace st := back _ _ (by simp) st'
      clear back st'
      (try simp only [nsl, Value.cells, unB] at st)
      (try clear hc); have hc := st.facts; (try simp only [nfl, nft, Nat.reduceAdd] at hc)
      go_wp2_with ((first
            | ((with_reducible refine wl_buildSlice ?_ (fun K hK => ?_)); rfl; refine owp_buildSlice (o := ⟨some 17, _, _, _, _, _⟩) rfl st ?_; apply Exists.intro; apply Exists.intro; apply Exists.intro; apply Exists.intro; refine ⟨?_, ?_⟩; (focus (go_simp; (first | done | exact ⟨⟨rfl, rfl⟩, rfl⟩ | rfl))); (clear st; intro b17 w hb st; clear hb))
            | ((with_reducible refine wl_buildSlice ?_ (fun K hK => ?_)); rfl; refine owp_buildSlice (o := ⟨some 24, _, _, _, _, _⟩) rfl st ?_; apply Exists.intro; apply Exists.intro; apply Exists.intro; apply Exists.intro; refine ⟨?_, ?_⟩; (focus (go_simp; (first | done | exact ⟨⟨rfl, rfl⟩, rfl⟩ | rfl))); (clear st; intro b24 w hb st; clear hb))); (try simp only [nsl, Value.cells, unB] at st); (try clear hc); have hc := st.facts; (try simp only [nfl, nft, Nat.reduceAdd] at hc))
      go_ret
      refine ⟨none, 0, 0, [], false, a3, n3, c3, t1.tail, rfl, ⟨Nat.le_refl _, by simp [maxLen]⟩, HC3.out, HT2.out.tail, by have := HL2.out; simp; omega, HR.out, ?_⟩
      have st2 := st.nilFm.noFms
      simpa [pick] using st2
    · rw [if_neg (fun h => hq h.2)] at hg
      obtain ⟨a3, n3, c3, rfl, hc3, st'⟩ := hg
      have HC3 := Lib.hid hc3
      replace HJ := Lib.hid ((listP_2 (one := one) HTK.out hq).symm.trans HJ.out)
      clear hq hc3 HTK HC2
      replace st := back _ _ (by simp) st'
      clear back st'
      (try simp only [nsl, Value.cells, unB] at st)
      (try clear hc); have hc := st.facts; (try simp only [nfl, nft, Nat.reduceAdd] at hc)
      go_wp2_with ((first
            | ((with_reducible refine wl_buildSlice ?_ (fun K hK => ?_)); rfl; refine owp_buildSlice (o := ⟨some 17, _, _, _, _, _⟩) rfl st ?_; apply Exists.intro; apply Exists.intro; apply Exists.intro; apply Exists.intro; refine ⟨?_, ?_⟩; (focus (go_simp; (first | done | exact ⟨⟨rfl, rfl⟩, rfl⟩ | rfl))); (clear st; intro b17 w hb st; clear hb))
            | ((with_reducible refine wl_buildSlice ?_ (fun K hK => ?_)); rfl; refine owp_buildSlice (o := ⟨some 24, _, _, _, _, _⟩) rfl st ?_; apply Exists.intro; apply Exists.intro; apply Exists.intro; apply Exists.intro; refine ⟨?_, ?_⟩; (focus (go_simp; (first | done | exact ⟨⟨rfl, rfl⟩, rfl⟩ | rfl))); (clear st; intro b24 w hb st; clear hb))); (try simp only [nsl, Value.cells, unB] at st); (try clear hc); have hc := st.facts; (try simp only [nfl, nft, Nat.reduceAdd] at hc))
      obtain ⟨fr', al', st', back⟩ := st.sub [0, 1] (by decide) (by simp)
      (try simp only [nsl, Value.cells, unB] at st')
      refine (HO.out _ _ _ _ _ _ _ _ _ HT2.out (fun _ => HL2.out.1) HC3.out st').mono ?_
      clear st'
      rintro en w ⟨g, bad1, a1, n1, c1, t2, rfl, hc1, ht1, hl1, hr1, st'⟩
      have HC1 := Lib.hid hc1
      have HT1 := Lib.hid ht1
      have HL1 : Hid (t2.length ≤ tl) := Lib.hid (by have := HL2.out; omega)
      have HF1 : Hid (bad1 = false → t2.length < f) := Lib.hid (fun h => by have := HL2.out; omega)
      have HLI : Hid (LIs false res bad1 ((moreP false tComma (anyP false one) t2.length [g.strip] t2).bind (lsEnd false))) := Lib.hid (by
        unfold LIs
        split
        · rename_i h
          subst h
          rcases hr1.no with q | q
          · cases q
          · exact .inr (by rw [← HJ.out, q]; rfl)
        · rename_i h
          have hb : bad1 = false := by simpa using h
          subst hb
          exact ⟨rfl, by rw [← HJ.out, hr1.ok.2]; rfl⟩)
      have htl := ht1.1
      clear hc1 ht1 hl1 hr1 HJ HC3 HL2 HT2
      replace st := back _ _ (by simp) st'
      clear back st'
      (try simp only [nsl, Value.cells, unB] at st)
      (try clear hc); have hc := st.facts; (try simp only [nfl, nft, Nat.reduceAdd] at hc)
      replace st := st.noFms
      simp only [List.cons_append, List.nil_append] at st
      replace st := st.fmsMore (i := 3) (j := 2) get3 get2
      have st9 := st.keep [0, 1, 4] (by decide) (by simp)
      simp only [pick, List.map_cons, List.map_nil, List.getElem?_cons_zero, List.getElem?_cons_succ, Option.getD_some, List.cons_append, List.nil_append] at st9
      clear st
      have st := st9
      clear st9
      have HGS : Hid ([g].map Fm.strip = [g.strip]) := Lib.hid rfl
      obtain ⟨gx, hgx⟩ : ∃ x, g = x := ⟨_, rfl⟩
      obtain ⟨op', k', ⟨o', d'⟩, a', n', c', kids'⟩ := g
      have HCE : Hid (cellsL [gx] = [.int .i64 op', .int .i64 k', .string ⟨o'.toArray⟩, .string ⟨d'.toArray⟩, .slice a' n' c']) := Lib.hid (by rw [← hgx]; rfl)
      have HV : Hid (fmV gx = .agg #[.int .i64 op', .int .i64 k', .string ⟨o'.toArray⟩, .string ⟨d'.toArray⟩, .slice a' n' c']) := Lib.hid (by rw [← hgx]; rfl)
      rw [hgx] at HGS HLI st ⊢
      rw [HV.out]
      clear hgx
      replace st := st.row_nil 26 5
      simp only [List.cons_append, List.nil_append] at st
      (try simp only [nsl, Value.cells, unB] at st)
      (try clear hc); have hc := st.facts; (try simp only [nfl, nft, Nat.reduceAdd] at hc)
      go_wp2_with (first
          | ((with_reducible refine wl_append ?_ (fun K hK => ?_)); (rfl); (obtain ⟨inf, hinf, hz0, hz1, hz2⟩ := fmInfo); (refine owp_append rfl st 3 get3 Tryz.underlying24 hinf hz0 hz1 hz2 rfl (by decide) rfl rfl ((st.blk (i := 4) get4).flat rfl) (by first | exact cellsL_all _ | simp [Value.oneCell']) (by simp only [maxLen]; omega) (by omega) ?_); (clear hinf hz0 hz1 hz2 inf); (clear st; intro v' w st); (obtain ⟨va', vc', rfl⟩ := own_slice (st.row (i := 3) get3)); (try simp only [nsl, Value.cells, unB] at st); (try simp only [Nat.zero_add] at st); (try clear hc); have hc := st.facts; (try simp only [nfl, nft, Nat.reduceAdd] at hc))
          | ((first
            | ((with_reducible refine wl_buildSlice ?_ (fun K hK => ?_)); rfl; refine owp_buildSlice (o := ⟨some 17, _, _, _, _, _⟩) rfl st ?_; apply Exists.intro; apply Exists.intro; apply Exists.intro; apply Exists.intro; refine ⟨?_, ?_⟩; (focus (go_simp; (first | done | exact ⟨⟨rfl, rfl⟩, rfl⟩ | rfl))); (clear st; intro b17 w hb st; clear hb))
            | ((with_reducible refine wl_buildSlice ?_ (fun K hK => ?_)); rfl; refine owp_buildSlice (o := ⟨some 24, _, _, _, _, _⟩) rfl st ?_; apply Exists.intro; apply Exists.intro; apply Exists.intro; apply Exists.intro; refine ⟨?_, ?_⟩; (focus (go_simp; (first | done | exact ⟨⟨rfl, rfl⟩, rfl⟩ | rfl))); (clear st; intro b24 w hb st; clear hb))); (try simp only [nsl, Value.cells, unB] at st); (try clear hc); have hc := st.facts; (try simp only [nfl, nft, Nat.reduceAdd] at hc)))
      have st9 := st.keep [0, 1, 2, 3] (by decide) (by simp)
      simp only [pick, List.map_cons, List.map_nil, List.getElem?_cons_zero, List.getElem?_cons_succ, Option.getD_some, List.cons_append, List.nil_append] at st9
      clear st
      have st := st9
      clear st9
      obtain ⟨m, hn⟩ : ∃ n, t2.length = n := ⟨_, rfl⟩
      rw [hn] at HLI
      have HN := Lib.hid hn
      rw [hn] at htl
      clear hn
      go_loopg [3] m (fun k v wr => ∃ (q j : Nat) (gs : List Fm) (bad' : Bool) (t' : List Tok) (a' : Option Addr) (n' c' : Nat) (va : Option Addr) (vc : Nat), q = k ∧ k ≤ m ∧ v = .slice va j vc ∧ (1 ≤ j ∧ j + k ≤ 1000010) ∧ Hid (j = gs.length) ∧ Hid (n' ≤ c' ∧ c' ≤ maxLen) ∧ Hid (TokL t') ∧ Hid (t'.length ≤ k) ∧ Hid (t'.length ≤ tl) ∧ Hid (bad' = false → t'.length < f) ∧ Hid (LIs false res bad' ((moreP false tComma (anyP false one) k (gs.map Fm.strip) t').bind (lsEnd false))) ∧ Own fr al w0 [blkI rb [.slice a' n' c', .bool bad'], flI a' n' t', fmsI gs, rowI 26 5 (.slice va j vc) j (cellsL gs)] wr)
      case atStart => exact ⟨m, 1, [gx], bad1, t2, a1, n1, c1, _, _, rfl, by omega, rfl, ⟨by omega, by omega⟩, Lib.hid rfl, HC1, HT1, Lib.hid (by have := HN.out; omega), HL1, HF1, Lib.hid (by rw [HGS.out]; exact HLI.out), by rw [HCE.out]; simpa using st⟩
      case round =>
        clear HC1 HT1 HL1 HF1 HLI HGS HN HCE HV
        obtain ⟨k, j, gs, bad1, t', a1, n1, c1, va, vc, rfl, hkn, rfl, hj, HJ, HC, HT, HK, HL, HF, HLI, st'⟩ := hrel
        clear st hc
        have st := st'
        clear st'
        (try simp only [nsl, Value.cells, unB] at st)
        (try clear hc); have hc := st.facts; (try simp only [nfl, nft, Nat.reduceAdd] at hc)
        go_wp2_with ((first
              | ((with_reducible refine wl_buildSlice ?_ (fun K hK => ?_)); rfl; refine owp_buildSlice (o := ⟨some 17, _, _, _, _, _⟩) rfl st ?_; apply Exists.intro; apply Exists.intro; apply Exists.intro; apply Exists.intro; refine ⟨?_, ?_⟩; (focus (go_simp; (first | done | exact ⟨⟨rfl, rfl⟩, rfl⟩ | rfl))); (clear st; intro b17 w hb st; clear hb))
              | ((with_reducible refine wl_buildSlice ?_ (fun K hK => ?_)); rfl; refine owp_buildSlice (o := ⟨some 24, _, _, _, _, _⟩) rfl st ?_; apply Exists.intro; apply Exists.intro; apply Exists.intro; apply Exists.intro; refine ⟨?_, ?_⟩; (focus (go_simp; (first | done | exact ⟨⟨rfl, rfl⟩, rfl⟩ | rfl))); (clear st; intro b24 w hb st; clear hb))); (try simp only [nsl, Value.cells, unB] at st); (try clear hc); have hc := st.facts; (try simp only [nfl, nft, Nat.reduceAdd] at hc))
        obtain ⟨fr', al', st', back⟩ := st.sub [0, 1] (by decide) (by simp)
        (try simp only [nsl, Value.cells, unB] at st')
        refine (rhas_c (t := t') tComma (by decide) HC.out st').mono ?_
        clear st'
        intro en w hg
        unfold hasR at hg
        by_cases hq : bad1 = false ∧ nxT t' = tComma
        · rw [if_pos hq] at hg
          obtain ⟨a2, n2, c2, rfl, hc2, st'⟩ := hg
          obtain ⟨rfl, hq⟩ := hq
          obtain ⟨q, rfl⟩ : ∃ q, k = q + 1 := by
            obtain ⟨l, hl⟩ := nxT_pos (by decide) hq
            have := HK.out
            rw [hl, List.length_cons] at this
            exact ⟨k - 1, by omega⟩
          have HC2 := Lib.hid hc2
          have HT2 := Lib.hid HT.out.tail
          have HL2 : Hid (t'.tail.length ≤ q ∧ t'.tail.length < f ∧ t'.tail.length ≤ tl) := Lib.hid (by
            obtain ⟨l, hl⟩ := nxT_pos (by decide) hq
            have h1 := HK.out
            have h2 := HF.out rfl
            have h3 := HL.out
            rw [hl] at h1 h2 h3 ⊢
            simp only [List.length_cons, List.tail_cons] at h1 h2 h3 ⊢
            omega)
          have HM : Hid (∀ x t3, anyP false one t'.tail = some (x, t3) → (moreP false tComma (anyP false one) q (gs.map Fm.strip ++ [x]) t3).bind (lsEnd false) = res) := Lib.hid (fun x t3 h => by rw [← HLI.out.ok.2, moreP_some hq q _ (stF t') h])
          have HM0 : Hid (anyP false one t'.tail = none → res = none) := Lib.hid (fun h => by rw [← HLI.out.ok.2, moreP_none2 hq q _ (stF t') h]; rfl)
          clear hq hc2 HC HT HK HF HLI HL
          replace st := back _ _ (by simp) st'
          clear back st'
          (try simp only [nsl, Value.cells, unB] at st)
          (try clear hc); have hc := st.facts; (try simp only [nfl, nft, Nat.reduceAdd] at hc)
          go_wp2_with ((first
                | ((with_reducible refine wl_buildSlice ?_ (fun K hK => ?_)); rfl; refine owp_buildSlice (o := ⟨some 17, _, _, _, _, _⟩) rfl st ?_; apply Exists.intro; apply Exists.intro; apply Exists.intro; apply Exists.intro; refine ⟨?_, ?_⟩; (focus (go_simp; (first | done | exact ⟨⟨rfl, rfl⟩, rfl⟩ | rfl))); (clear st; intro b17 w hb st; clear hb))
                | ((with_reducible refine wl_buildSlice ?_ (fun K hK => ?_)); rfl; refine owp_buildSlice (o := ⟨some 24, _, _, _, _, _⟩) rfl st ?_; apply Exists.intro; apply Exists.intro; apply Exists.intro; apply Exists.intro; refine ⟨?_, ?_⟩; (focus (go_simp; (first | done | exact ⟨⟨rfl, rfl⟩, rfl⟩ | rfl))); (clear st; intro b24 w hb st; clear hb))); (try simp only [nsl, Value.cells, unB] at st); (try clear hc); have hc := st.facts; (try simp only [nfl, nft, Nat.reduceAdd] at hc))
          obtain ⟨fr', al', st', back⟩ := st.sub [0, 1] (by decide) (by simp)
          (try simp only [nsl, Value.cells, unB] at st')
          refine (HO.out _ _ _ _ _ _ _ _ _ HT2.out (fun _ => HL2.out.2.1) HC2.out st').mono ?_
          clear st'
          rintro en w ⟨g, bad3, a3, n3, c3, t3, rfl, hc3, ht3, hl3, hr3, st'⟩
          have HC3 := Lib.hid hc3
          have HT3 := Lib.hid ht3
          have HK3 : Hid (t3.length ≤ q) := Lib.hid (by have := HL2.out; omega)
          have HL3 : Hid (t3.length ≤ tl) := Lib.hid (by have := HL2.out; omega)
          have HF3 : Hid (bad3 = false → t3.length < f) := Lib.hid (fun _ => by have := HL2.out; omega)
          have HLI3 : Hid (LIs false res bad3 ((moreP false tComma (anyP false one) q ((gs ++ [g]).map Fm.strip) t3).bind (lsEnd false))) := Lib.hid (by
            unfold LIs
            split
            · rename_i h
              subst h
              rcases hr3.no with q | q
              · cases q
              · exact .inr (HM0.out q)
            · rename_i h
              have hb : bad3 = false := by simpa using h
              subst hb
              exact ⟨rfl, by rw [List.map_append]; exact HM.out _ _ hr3.ok.2⟩)
          have HJ3 : Hid (j + 1 = (gs ++ [g]).length) := Lib.hid (by rw [List.length_append, ← HJ.out]; rfl)
          clear hc3 ht3 hl3 hr3 HM HM0 HL2 HT2 HC2 HJ
          replace st := back _ _ (by simp) st'
          clear back st'
          (try simp only [nsl, Value.cells, unB] at st)
          (try clear hc); have hc := st.facts; (try simp only [nfl, nft, Nat.reduceAdd] at hc)
          replace st := st.fmsMore (i := 2) (j := 4) get2 get4
          have st9 := st.keep [0, 1, 5, 3] (by decide) (by simp)
          simp only [pick, List.map_cons, List.map_nil, List.getElem?_cons_zero, List.getElem?_cons_succ, Option.getD_some, List.cons_append, List.nil_append] at st9
          clear st
          have st := st9
          clear st9
          obtain ⟨op', k', ⟨o', d'⟩, a', n', c', kids'⟩ := g
          unfold fmV S
          simp only
          (try simp only [nsl, Value.cells, unB] at st)
          (try clear hc); have hc := st.facts; (try simp only [nfl, nft, Nat.reduceAdd] at hc)
          go_wp2_with (first
              | ((with_reducible refine wl_append ?_ (fun K hK => ?_)); (rfl); (obtain ⟨inf, hinf, hz0, hz1, hz2⟩ := fmInfo); (refine owp_append rfl st 3 get3 Tryz.underlying24 hinf hz0 hz1 hz2 rfl (by decide) rfl rfl ((st.blk (i := 4) get4).flat rfl) (by first | exact cellsL_all _ | simp [Value.oneCell']) (by simp only [maxLen]; omega) (by omega) ?_); (clear hinf hz0 hz1 hz2 inf); (clear st; intro v' w st); (obtain ⟨va', vc', rfl⟩ := own_slice (st.row (i := 3) get3)); (try simp only [nsl, Value.cells, unB] at st); (try simp only [Nat.zero_add] at st); (try clear hc); have hc := st.facts; (try simp only [nfl, nft, Nat.reduceAdd] at hc))
              | ((first
                | ((with_reducible refine wl_buildSlice ?_ (fun K hK => ?_)); rfl; refine owp_buildSlice (o := ⟨some 17, _, _, _, _, _⟩) rfl st ?_; apply Exists.intro; apply Exists.intro; apply Exists.intro; apply Exists.intro; refine ⟨?_, ?_⟩; (focus (go_simp; (first | done | exact ⟨⟨rfl, rfl⟩, rfl⟩ | rfl))); (clear st; intro b17 w hb st; clear hb))
                | ((with_reducible refine wl_buildSlice ?_ (fun K hK => ?_)); rfl; refine owp_buildSlice (o := ⟨some 24, _, _, _, _, _⟩) rfl st ?_; apply Exists.intro; apply Exists.intro; apply Exists.intro; apply Exists.intro; refine ⟨?_, ?_⟩; (focus (go_simp; (first | done | exact ⟨⟨rfl, rfl⟩, rfl⟩ | rfl))); (clear st; intro b24 w hb st; clear hb))); (try simp only [nsl, Value.cells, unB] at st); (try clear hc); have hc := st.facts; (try simp only [nfl, nft, Nat.reduceAdd] at hc)))
          have st' := st.keep [0, 1, 2, 3] (by decide) (by simp)
          go_roundg q
          case measure => omega
          case rel =>
            refine ⟨q, j + 1, gs ++ [.mk op' k' (o', d') a' n' c' kids'], bad3, t3, a3, n3, c3, va', vc', rfl, by omega, rfl, ⟨by omega, by omega⟩, HJ3, HC3, HT3, HK3, HL3, HF3, HLI3, ?_⟩
            rw [cellsL_append, cellsL_one']
            simpa [pick, Flt.cells, fmC, S] using st'
        · rw [if_neg hq] at hg
          obtain ⟨a2, n2, c2, rfl, hc2, st'⟩ := hg
          have HC2 := Lib.hid hc2
          have HLE : Hid (LIs false res bad1 (lsEnd false (gs.map Fm.strip, t'))) := Lib.hid (by
            unfold LIs
            split
            · rename_i h; subst h; exact HLI.out.no
            · rename_i h
              have hb : bad1 = false := by simpa using h
              subst hb
              have hn : nxT t' ≠ tComma := fun h => hq ⟨rfl, h⟩
              exact ⟨rfl, by rw [← HLI.out.ok.2, moreP_end hn]; rfl⟩)
          clear hq hc2 HC HLI HF HK
          replace st := back _ _ (by simp) st'
          clear back st'
          (try simp only [nsl, Value.cells, unB] at st)
          (try clear hc); have hc := st.facts; (try simp only [nfl, nft, Nat.reduceAdd] at hc)
          go_wp2_with ((first
                | ((with_reducible refine wl_buildSlice ?_ (fun K hK => ?_)); rfl; refine owp_buildSlice (o := ⟨some 17, _, _, _, _, _⟩) rfl st ?_; apply Exists.intro; apply Exists.intro; apply Exists.intro; apply Exists.intro; refine ⟨?_, ?_⟩; (focus (go_simp; (first | done | exact ⟨⟨rfl, rfl⟩, rfl⟩ | rfl))); (clear st; intro b17 w hb st; clear hb))
                | ((with_reducible refine wl_buildSlice ?_ (fun K hK => ?_)); rfl; refine owp_buildSlice (o := ⟨some 24, _, _, _, _, _⟩) rfl st ?_; apply Exists.intro; apply Exists.intro; apply Exists.intro; apply Exists.intro; refine ⟨?_, ?_⟩; (focus (go_simp; (first | done | exact ⟨⟨rfl, rfl⟩, rfl⟩ | rfl))); (clear st; intro b24 w hb st; clear hb))); (try simp only [nsl, Value.cells, unB] at st); (try clear hc); have hc := st.facts; (try simp only [nfl, nft, Nat.reduceAdd] at hc))
          obtain ⟨fr', al', st', back⟩ := st.sub [0, 1] (by decide) (by simp)
          (try simp only [nsl, Value.cells, unB] at st')
          refine (rmust_c (t := t') tShut (by decide) HC2.out st').mono ?_
          clear st'
          intro en w hg
          unfold mustR at hg
          by_cases hq : bad1 = false ∧ nxT t' = tShut
          · rw [if_pos hq] at hg
            obtain ⟨rfl, hq⟩ := hq
            obtain ⟨a3, n3, c3, rfl, hc3, st'⟩ := hg
            have HC3 := Lib.hid hc3
            have HR : Hid (RIs false res false (gs.map Fm.strip) t'.tail) := Lib.hid ⟨rfl, by rw [← HLE.out.ok.2]; unfold lsEnd; rw [takeF_ok hq]; rfl⟩
            clear hq hc3
            replace st := back _ _ (by simp) st'
            clear back st'
            (try simp only [nsl, Value.cells, unB] at st)
            (try clear hc); have hc := st.facts; (try simp only [nfl, nft, Nat.reduceAdd] at hc)
            go_wp2_with ((first
                  | ((with_reducible refine wl_buildSlice ?_ (fun K hK => ?_)); rfl; refine owp_buildSlice (o := ⟨some 17, _, _, _, _, _⟩) rfl st ?_; apply Exists.intro; apply Exists.intro; apply Exists.intro; apply Exists.intro; refine ⟨?_, ?_⟩; (focus (go_simp; (first | done | exact ⟨⟨rfl, rfl⟩, rfl⟩ | rfl))); (clear st; intro b17 w hb st; clear hb))
                  | ((with_reducible refine wl_buildSlice ?_ (fun K hK => ?_)); rfl; refine owp_buildSlice (o := ⟨some 24, _, _, _, _, _⟩) rfl st ?_; apply Exists.intro; apply Exists.intro; apply Exists.intro; apply Exists.intro; refine ⟨?_, ?_⟩; (focus (go_simp; (first | done | exact ⟨⟨rfl, rfl⟩, rfl⟩ | rfl))); (clear st; intro b24 w hb st; clear hb))); (try simp only [nsl, Value.cells, unB] at st); (try clear hc); have hc := st.facts; (try simp only [nfl, nft, Nat.reduceAdd] at hc))
            go_ret
            obtain ⟨hcap, _⟩ := rowFl' (α := Fm) st (i := 3) get3
            refine ⟨va, j, vc, gs, false, a3, n3, c3, t'.tail, rfl, hcap, HC3.out, HT.out.tail, by have := HL.out; simp; omega, HR.out, ?_⟩
            have st2 := (st.rowToFl (α := Fm) (i := 3) get3).keep [0, 1, 3, 2] (by decide) (by simp)
            simpa [pick, S] using st2
          · rw [if_neg hq] at hg
            obtain ⟨a3, n3, c3, rfl, hc3, st'⟩ := hg
            have HC3 := Lib.hid hc3
            have HR : Hid (RIs false res true (gs.map Fm.strip) t') := Lib.hid (by
              show false = true ∨ res = none
              cases bad1 with
              | true => exact HLE.out.no
              | false => exact .inr (by rw [← HLE.out.ok.2]; unfold lsEnd; rw [takeF_no (fun h => hq ⟨rfl, h⟩)]; rfl))
            clear hq hc3
            replace st := back _ _ (by simp) st'
            clear back st'
            (try simp only [nsl, Value.cells, unB] at st)
            (try clear hc); have hc := st.facts; (try simp only [nfl, nft, Nat.reduceAdd] at hc)
            go_wp2_with ((first
                  | ((with_reducible refine wl_buildSlice ?_ (fun K hK => ?_)); rfl; refine owp_buildSlice (o := ⟨some 17, _, _, _, _, _⟩) rfl st ?_; apply Exists.intro; apply Exists.intro; apply Exists.intro; apply Exists.intro; refine ⟨?_, ?_⟩; (focus (go_simp; (first | done | exact ⟨⟨rfl, rfl⟩, rfl⟩ | rfl))); (clear st; intro b17 w hb st; clear hb))
                  | ((with_reducible refine wl_buildSlice ?_ (fun K hK => ?_)); rfl; refine owp_buildSlice (o := ⟨some 24, _, _, _, _, _⟩) rfl st ?_; apply Exists.intro; apply Exists.intro; apply Exists.intro; apply Exists.intro; refine ⟨?_, ?_⟩; (focus (go_simp; (first | done | exact ⟨⟨rfl, rfl⟩, rfl⟩ | rfl))); (clear st; intro b24 w hb st; clear hb))); (try simp only [nsl, Value.cells, unB] at st); (try clear hc); have hc := st.facts; (try simp only [nfl, nft, Nat.reduceAdd] at hc))
            go_ret
            obtain ⟨hcap, _⟩ := rowFl' (α := Fm) st (i := 3) get3
            refine ⟨va, j, vc, gs, true, a3, n3, c3, t', rfl, hcap, HC3.out, HT.out, HL.out, HR.out, ?_⟩
            have st2 := (st.rowToFl (α := Fm) (i := 3) get3).keep [0, 1, 3, 2] (by decide) (by simp)
            simpa [pick, S] using st2
end
end Go.Proofs.YtnhilgciddcahaaGreatDoor

namespace Go.Proofs.YtnhilgciddcahaaGreatDoor
set_option linter.unusedSimpArgs false
set_option linter.unusedVariables false
open Go Go.RowKit
section
variable {fr al : Nat → Prop} {w0 w W : World} {L : List It} {rb : Nat} {one : List Tok → PRes}
theorem Own.flTailIf (st : Own fr al w0 L w) {i b off n c : Nat} {x : Tok} {xs : List Tok} (hi : L[i]? = some (flI (some ⟨b, off, none⟩) (n + 1) (x :: xs))) (hc : n + 1 ≤ c) : Own fr al w0 (L ++ [flI (if c = 1 then some ⟨b, off, none⟩ else some ⟨b, off + 1, none⟩) n xs]) w := by
  split
  · obtain rfl : n = 0 := by omega
    have hl := (st.flAt hi).1
    obtain rfl : xs = [] := List.eq_nil_of_length_eq_zero (by rw [List.length_cons] at hl; omega)
    exact st.flNone _
  · exact st.flTail hi
theorem oneF_open (l : List Tok) : oneB false one (tOpen :: l) = (anyP false one l).bind fun p => (takeP false tShut p.2).map fun t2 => (p.1, t2) := by rw [oneB_open rfl, stF]; rfl
theorem oneF_all (l : List Tok) : oneB false one (tAll :: l) = (listP false one l).map fun q => (.mk 2 0 ([], []) q.1, q.2) := by rw [oneB_all (by show tAll ≠ tOpen; decide) rfl, stF]; rfl
theorem oneF_some (l : List Tok) : oneB false one (tSome :: l) = (listP false one l).map fun q => (.mk 3 0 ([], []) q.1, q.2) := by rw [oneB_some (by show tSome ≠ tOpen; decide) (by show tSome ≠ tAll; decide) rfl, stF]; rfl
theorem oneF_at (l : List Tok) : oneB false one (tAt :: l) = (digP (nxT l)).bind fun k => (listP false one l.tail).map fun q => (.mk 4 (k : Int) ([], []) q.1, q.2) := by
  rw [oneB_at (by show tAt ≠ tOpen; decide) (by show tAt ≠ tAll; decide) (by show tAt ≠ tSome; decide) rfl, stF]
  simp only [Option.bind_some, List.tail_cons, stF]
theorem oneF_role {x : Tok} (h0 : x ≠ tOpen) (h1 : x ≠ tAll) (h2 : x ≠ tSome) (h3 : x ≠ tAt) (l : List Tok) : oneB false one (x :: l) = (roleP x).map fun r => (.mk 1 0 r [], l) := by
  rw [oneB_role (t := x :: l) h0 h1 h2 h3, stF]
  show (roleP x).bind _ = _
  cases roleP x <;> rfl
theorem oneF_nil : oneB false one [] = none := by rw [oneB_role (by decide) (by decide) (by decide) (by decide), show nxT [] = [] from rfl, roleP_nil]; rfl
theorem RIs.bad {α : Type} {o : Option (α × List Tok)} {b : Bool} {f : α} {t' : List Tok} (h : RIs true o b f t') : b = true := by
  cases b with
  | true => rfl
  | false => cases h.ok.1
theorem RIs.map {α β : Type} {bad bad' : Bool} {o : Option (α × List Tok)} {f : α} {t' : List Tok} (h : RIs bad o bad' f t') (φ : α → β) : RIs bad (o.map fun q => (φ q.1, q.2)) bad' (φ f) t' := by
  cases bad' with
  | true =>
    rcases h.no with q | q
    · exact .inl q
    · exact .inr (by rw [q]; rfl)
  | false => exact ⟨h.ok.1, by rw [h.ok.2]; rfl⟩
def dgB (c : UInt8) : Bool := decide (48 ≤ c) && decide (c ≤ 57)
theorem dgB_nat (c : UInt8) : dgB c = decide (48 ≤ c.toNat ∧ c.toNat ≤ 57) := by
  have := all_u8 (p := fun c => dgB c == decide (48 ≤ c.toNat ∧ c.toNat ≤ 57)) (by decide +kernel) c
  simpa using this
theorem digV_snoc (k : Tok) (d : UInt8) : digV (k ++ [d]) = 10 * digV k + (d.toNat - 48) := by unfold digV; rw [List.foldl_append]; rfl
theorem digV_le {k : Tok} (h : k.length ≤ 2) : k.all dgB = true → digV k ≤ 99 := by
  match k, h with
  | [], _ => intro _; decide
  | [a], _ => intro ha; rw [List.all_cons, dgB_nat] at ha; simp at ha; simp [digV]; omega
  | [a, b], _ => intro ha; rw [List.all_cons, List.all_cons, dgB_nat, dgB_nat] at ha; simp at ha; simp [digV]; omega
  | a :: b :: c :: r, h => simp at h
theorem dig_step {k : Tok} {d : UInt8} {nv : Int} (hk : k.length ≤ 2) (ha : k.all dgB = true) (hd : 48 ≤ d.toNat ∧ d.toNat ≤ 57) (hn : nv = (digV k : Int)) : wrap64 (wrap64 (wrap64 (10 * nv) + (d.toNat : Int)) - 48) = (digV (k ++ [d]) : Int) := by
  have h := digV_le hk ha
  rw [digV_snoc, hn, IntWalk.wrap64_in (10 * (digV k : Int)) ⟨by omega, by omega⟩, IntWalk.wrap64_in (10 * (digV k : Int) + (d.toNat : Int)) ⟨by omega, by omega⟩, IntWalk.wrap64_in _ ⟨by omega, by omega⟩]
  omega
theorem digOk_eq (k : Tok) : digOk k = (k.all dgB && decide (k ≠ []) && decide (k.length ≤ 2) && !(decide (k.length = 2) && decide (k.head? = some 48))) := rfl
theorem digOk_c {d0 : UInt8} {y2 : Tok} {j : Nat} (h : (d0 :: y2).length = j) (hj : ¬ 2 < j) : digOk (d0 :: y2) = ((d0 :: y2).all dgB && !(decide (j = 2) && decide (d0 = 48))) := by
  subst h
  rw [digOk_eq, decide_eq_true (p := d0 :: y2 ≠ []) (by simp), decide_eq_true (p := (d0 :: y2).length ≤ 2) (by omega)]
  simp
theorem digP_no {k : Tok} (h : digOk k = false) : digP k = none := by unfold digP; rw [if_neg (by rw [h]; decide)]
theorem digP_yes {k : Tok} (h : digOk k = true) : digP k = some (digV k) := by unfold digP; rw [if_pos h]
set_option maxRecDepth 100000 in
set_option maxHeartbeats 4000000 in
theorem rone_bad {o : PRes} {a : Option Addr} {n c : Nat} {bad : Bool} {t : List Tok} (ht : TokL t) (hc : n ≤ c ∧ c ≤ maxLen) (hb : bad = true ∨ (t = [] ∧ o = none)) (st : Own fr al w0 [blkI rb [.slice a n c, .bool bad], flI a n t] w) :
    Calls Tryz.prog 41 #[.pointer (some ⟨rb, 0, none⟩)] w (RfGot fr al w0 rb bad o t.length) := by
  have HT := Lib.hid ht
  have HC := Lib.hid hc
  have HB : Hid (RIs bad o true (Fo.mk 0 0 ([], []) []) t) := Lib.hid (by
    rcases hb with h | ⟨_, h⟩
    · exact .inl h
    · exact .inr h)
  have HN := Lib.hid (st.flAt (i := 1) get1).1
  clear ht hc
  cases bad with
  | true =>
    clear hb
    (try simp only [nsl, Value.cells, unB] at st)
    (try clear hc); have hc := st.facts; (try simp only [nfl, nft, Nat.reduceAdd] at hc)
    go_enter Tryz.func41, Tryz.ntmps41
    go_wp2_with ((first
          | ((with_reducible refine wl_alloc ?_ (fun K hK => ?_)); rfl; refine owp_alloc (o := ⟨some 2, _, _, _, _, _⟩) rfl st ?_; apply Exists.intro; apply Exists.intro; refine ⟨?_, ?_⟩; (focus (first | (go_simp; done) | (go_simp; rfl))); (clear st; intro b2 w hb st; clear hb))
          | ((with_reducible refine wl_store ?_ (fun K hK => ?_)); rfl; refine owp_store rfl st ?_; apply Exists.intro; apply Exists.intro; refine ⟨?_, ?_, ?_⟩; (focus (go_simp; try rfl)); (focus (go_simp; try rfl)); (first | (with_reducible refine ⟨0, _, _, _, _, get0, rfl, rfl, ?_, ?_, ?_, ?_⟩) | (with_reducible refine ⟨1, _, _, _, _, get1, rfl, rfl, ?_, ?_, ?_, ?_⟩) | (with_reducible refine ⟨2, _, _, _, _, get2, rfl, rfl, ?_, ?_, ?_, ?_⟩) | (with_reducible refine ⟨3, _, _, _, _, get3, rfl, rfl, ?_, ?_, ?_, ?_⟩) | (with_reducible refine ⟨4, _, _, _, _, get4, rfl, rfl, ?_, ?_, ?_, ?_⟩) | (with_reducible refine ⟨5, _, _, _, _, get5, rfl, rfl, ?_, ?_, ?_, ?_⟩)); (kernel_rfl); (simp [Value.cells]); (rfl); (clear st; intro w st))
          | ((with_reducible refine wl_alloc ?_ (fun K hK => ?_)); rfl; refine owp_alloc (o := ⟨some 4, _, _, _, _, _⟩) rfl st ?_; apply Exists.intro; apply Exists.intro; refine ⟨?_, ?_⟩; (focus (first | (go_simp; done) | (go_simp; rfl))); (clear st; intro b4 w hb st; clear hb))
          | ((with_reducible refine wl_alloc ?_ (fun K hK => ?_)); rfl; refine owp_alloc (o := ⟨some 8, _, _, _, _, _⟩) rfl st ?_; apply Exists.intro; apply Exists.intro; refine ⟨?_, ?_⟩; (focus (first | (go_simp; done) | (go_simp; rfl))); (clear st; intro b8 w hb st; clear hb))); (try simp only [nsl, Value.cells, unB] at st); (try clear hc); have hc := st.facts; (try simp only [nfl, nft, Nat.reduceAdd] at hc))
    (try simp only [Exit.inBlock, Exit.then])
    refine bodyPost_cell rfl rfl (st.blk (i := 2) get2) Tryz.underlying26 rfl (by kernel_rfl) rfl ?_
    have st2 := st.keep [0, 1] (by decide) (by simp)
    simp only [pick, List.map_cons, List.map_nil, List.getElem?_cons_zero, List.getElem?_cons_succ, Option.getD_some] at st2
    have st3 := Own.noFms (Own.nilFm st2)
    simp only [List.cons_append, List.nil_append] at st3
    have st4 := (st3.mkFm (i := 2) (j := 3) get2 get3 0 0 ([], []) 0 ⟨Nat.le_refl _, by simp [maxLen]⟩).keep [0, 1, 4] (by decide) (by simp)
    exact rfGot (.mk 0 0 ([], []) none 0 0 []) rfl (by rw [strip_mk]; rfl) HC.out HT.out (Nat.le_refl _) HB.out (by simpa [pick, S] using st4)
  | false =>
    have ht0 : t = [] := by
      rcases hb with h | h
      · cases h
      · exact h.1
    subst ht0
    obtain rfl : n = 0 := HN.out
    clear hb
    (try simp only [nsl, Value.cells, unB] at st)
    (try clear hc); have hc := st.facts; (try simp only [nfl, nft, Nat.reduceAdd] at hc)
    go_enter Tryz.func41, Tryz.ntmps41
    go_wp2_with ((first
          | ((with_reducible refine wl_alloc ?_ (fun K hK => ?_)); rfl; refine owp_alloc (o := ⟨some 2, _, _, _, _, _⟩) rfl st ?_; apply Exists.intro; apply Exists.intro; refine ⟨?_, ?_⟩; (focus (first | (go_simp; done) | (go_simp; rfl))); (clear st; intro b2 w hb st; clear hb))
          | ((with_reducible refine wl_store ?_ (fun K hK => ?_)); rfl; refine owp_store rfl st ?_; apply Exists.intro; apply Exists.intro; refine ⟨?_, ?_, ?_⟩; (focus (go_simp; try rfl)); (focus (go_simp; try rfl)); (first | (with_reducible refine ⟨0, _, _, _, _, get0, rfl, rfl, ?_, ?_, ?_, ?_⟩) | (with_reducible refine ⟨1, _, _, _, _, get1, rfl, rfl, ?_, ?_, ?_, ?_⟩) | (with_reducible refine ⟨2, _, _, _, _, get2, rfl, rfl, ?_, ?_, ?_, ?_⟩) | (with_reducible refine ⟨3, _, _, _, _, get3, rfl, rfl, ?_, ?_, ?_, ?_⟩) | (with_reducible refine ⟨4, _, _, _, _, get4, rfl, rfl, ?_, ?_, ?_, ?_⟩) | (with_reducible refine ⟨5, _, _, _, _, get5, rfl, rfl, ?_, ?_, ?_, ?_⟩)); (kernel_rfl); (simp [Value.cells]); (rfl); (clear st; intro w st))
          | ((with_reducible refine wl_alloc ?_ (fun K hK => ?_)); rfl; refine owp_alloc (o := ⟨some 4, _, _, _, _, _⟩) rfl st ?_; apply Exists.intro; apply Exists.intro; refine ⟨?_, ?_⟩; (focus (first | (go_simp; done) | (go_simp; rfl))); (clear st; intro b4 w hb st; clear hb))
          | ((with_reducible refine wl_alloc ?_ (fun K hK => ?_)); rfl; refine owp_alloc (o := ⟨some 8, _, _, _, _, _⟩) rfl st ?_; apply Exists.intro; apply Exists.intro; refine ⟨?_, ?_⟩; (focus (first | (go_simp; done) | (go_simp; rfl))); (clear st; intro b8 w hb st; clear hb))); (try simp only [nsl, Value.cells, unB] at st); (try clear hc); have hc := st.facts; (try simp only [nfl, nft, Nat.reduceAdd] at hc))
    (try simp only [Exit.inBlock, Exit.then])
    refine bodyPost_cell rfl rfl (st.blk (i := 2) get2) Tryz.underlying26 rfl (by kernel_rfl) rfl ?_
    have st2 := st.keep [0, 1] (by decide) (by simp)
    simp only [pick, List.map_cons, List.map_nil, List.getElem?_cons_zero, List.getElem?_cons_succ, Option.getD_some] at st2
    have st3 := Own.noFms (Own.nilFm st2)
    simp only [List.cons_append, List.nil_append] at st3
    have st4 := (st3.mkFm (i := 2) (j := 3) get2 get3 0 0 ([], []) 0 ⟨Nat.le_refl _, by simp [maxLen]⟩).keep [0, 1, 4] (by decide) (by simp)
    exact rfGot (.mk 0 0 ([], []) none 0 0 []) rfl (by rw [strip_mk]; rfl) HC.out HT.out (Nat.le_refl _) HB.out (by simpa [pick, S] using st4)
end
end Go.Proofs.YtnhilgciddcahaaGreatDoor

namespace Go.Proofs.YtnhilgciddcahaaGreatDoor
set_option linter.unusedSimpArgs false
set_option linter.unusedVariables false
open Go Go.RowKit
section
variable {fr al : Nat → Prop} {w0 w : World} {L : List It}
theorem Own.flToEl {α : Type} [Flt α] (st : Own fr al w0 L w) {i n b off : Nat} {xs : List α} (l : List (Nat × Value)) (hi : L[i]? = some (flI (some ⟨b, off, none⟩) n xs)) (hn : 0 < n) (hl : ∀ p ∈ l, ∃ q, p.1 = off + q ∧ (cellsL xs)[q]? = some p.2) : Own fr al w0 (L ++ [elI b l]) w :=
  st.share hi fun e s h1 => ⟨h1.2 hn _ rfl, fun p hp => by
    obtain ⟨q, hq, hv⟩ := hl p hp
    have hf := h1.1.flat
    obtain ⟨ad, had, hc⟩ := hf.2 (by have := (List.getElem?_eq_some_iff.1 hv).1; omega)
    cases had
    have := hc q p.2 hv
    rw [addr_add] at this
    rw [hq]; exact this⟩
theorem Fl.at {α : Type} [Flt α] {a : Option Addr} {n : Nat} {xs : List α} (h : Fl w a n xs) (h0 : 0 < n) : ∃ b off, a = some ⟨b, off, none⟩ := by
  obtain ⟨b, off, h, _⟩ := h.2 h0
  exact ⟨b, off, h⟩
end
end Go.Proofs.YtnhilgciddcahaaGreatDoor

namespace Go.Proofs.YtnhilgciddcahaaGreatDoor
set_option linter.unusedSimpArgs false
set_option linter.unusedVariables false
open Go Go.RowKit
section
variable {fr al : Nat → Prop} {w0 w W : World} {rb : Nat}
set_option maxRecDepth 100000 in
set_option maxHeartbeats 8000000 in
theorem rone_step {f : Nat} {one : List Tok → PRes} (hsh : Short one) (hi : Rone rb 41 f one) : Rone rb 41 (f + 1) (oneB false one) := by
  intro fr al w0 w a n c bad t ht hf hc st
  cases bad with
  | true => exact rone_bad ht hc (.inl rfl) st
  | false =>
  cases t with
  | nil => exact rone_bad ht hc (.inr ⟨rfl, oneF_nil⟩) st
  | cons x l =>
  have HA := Lib.hid (rany_c hsh hi)
  have HL := Lib.hid (fun (fr al : Nat → Prop) (w0 w : World) (a : Option Addr) (n c : Nat) (bad : Bool) (t : List Tok) ht hf hc (st : Own fr al w0 [blkI rb [.slice a n c, .bool bad], flI a n t] w) => rlist_c (fr := fr) (al := al) (w0 := w0) (w := w) (t := t) (bad := bad) (anyP_short hsh) (rany_c hsh hi) ht hf hc st)
  have HTL := Lib.hid ht.tail
  have HXL : Hid (x.length ≤ 100000) := Lib.hid (ht.2 x (by simp))
  have HLF : Hid (l.length < f) := Lib.hid (by have := hf rfl; rw [List.length_cons] at this; omega)
  have HC := Lib.hid hc
  have HN := Lib.hid (st.flAt (i := 1) get1).1
  obtain ⟨res, hres⟩ : ∃ r, oneB false one (x :: l) = r := ⟨_, rfl⟩
  have HJ := Lib.hid hres
  rw [hres]
  simp only [List.tail_cons] at HTL
  obtain ⟨m, rfl⟩ : ∃ m, n = m + 1 := ⟨l.length, HN.out⟩
  have HM : Hid (m = l.length) := Lib.hid (by have := HN.out; rw [List.length_cons] at this; omega)
  obtain ⟨tl, htl⟩ : ∃ tl, (x :: l).length = tl := ⟨_, rfl⟩
  rw [show (x :: l).length = m + 1 from HN.out.symm]
  obtain ⟨b, off, rfl⟩ := (st.flAt (i := 1) get1).at (by omega)
  replace st := st.flTailIf (i := 1) get1 hc.1
  simp only [List.cons_append, List.nil_append] at st
  replace st := st.flToEl (i := 1) [(off, .string ⟨x.toArray⟩)] get1 (by omega) (fun p hp => ⟨0, by rw [List.mem_singleton.1 hp]; rfl, by rw [List.mem_singleton.1 hp]; rfl⟩)
  simp only [List.cons_append, List.nil_append] at st
  have st9 := st.keep [0, 2, 3] (by decide) (by simp)
  simp only [pick, List.map_cons, List.map_nil, List.getElem?_cons_zero, List.getElem?_cons_succ, Option.getD_some, List.cons_append, List.nil_append] at st9
  clear st
  have st := st9
  clear st9
  obtain ⟨a1, hif⟩ : ∃ a1, (if c = 1 then some (⟨b, off, none⟩ : Addr) else some ⟨b, off + 1, none⟩) = a1 := ⟨_, rfl⟩
  rw [hif] at st
  have hm0 : ((m : Int) + 1 == 0) = false := beq_eq_false_iff_ne.2 (by omega)
  obtain ⟨c1, hc1⟩ : ∃ c1, c - 1 = c1 := ⟨_, rfl⟩
  have HC1 : Hid (m ≤ c1 ∧ c1 ≤ maxLen) := Lib.hid (by omega)
  have hcb := hc.1
  clear hres hsh hi ht hf hc htl HN
  (try simp only [nsl, Value.cells, unB] at st)
  (try clear hc); have hc := st.facts; (try simp only [nfl, nft, elI, elF, Nat.reduceAdd] at hc)
  by_cases h1 : x = tOpen
  · subst h1
    replace HJ := Lib.hid ((oneF_open (one := one) l).symm.trans HJ.out)
    unfold tOpen at st
    (try simp only [nsl, Value.cells, unB] at st)
    (try clear hc); have hc := st.facts; (try simp only [nfl, nft, elI, elF, Nat.reduceAdd] at hc)
    go_enter Tryz.func41, Tryz.ntmps41
    go_wp2_with ((first
          | ((with_reducible refine wl_alloc ?_ (fun K hK => ?_)); rfl; refine owp_alloc (o := ⟨some 2, _, _, _, _, _⟩) rfl st ?_; apply Exists.intro; apply Exists.intro; refine ⟨?_, ?_⟩; (focus (first | (go_simp; done) | (go_simp; rfl))); (clear st; intro b2 w hb st; clear hb))
          | ((with_reducible refine wl_store ?_ (fun K hK => ?_)); rfl; refine owp_store rfl st ?_; apply Exists.intro; apply Exists.intro; refine ⟨?_, ?_, ?_⟩; (focus (go_simp; try rfl)); (focus (go_simp; try rfl)); (first | (with_reducible refine ⟨0, _, _, _, _, get0, rfl, rfl, ?_, ?_, ?_, ?_⟩) | (with_reducible refine ⟨1, _, _, _, _, get1, rfl, rfl, ?_, ?_, ?_, ?_⟩) | (with_reducible refine ⟨2, _, _, _, _, get2, rfl, rfl, ?_, ?_, ?_, ?_⟩) | (with_reducible refine ⟨3, _, _, _, _, get3, rfl, rfl, ?_, ?_, ?_, ?_⟩) | (with_reducible refine ⟨4, _, _, _, _, get4, rfl, rfl, ?_, ?_, ?_, ?_⟩) | (with_reducible refine ⟨5, _, _, _, _, get5, rfl, rfl, ?_, ?_, ?_, ?_⟩) | (with_reducible refine ⟨6, _, _, _, _, get6, rfl, rfl, ?_, ?_, ?_, ?_⟩)); (kernel_rfl); (simp [Value.cells]); (rfl); (clear st; intro w st))
          | ((with_reducible refine wl_alloc ?_ (fun K hK => ?_)); rfl; refine owp_alloc (o := ⟨some 4, _, _, _, _, _⟩) rfl st ?_; apply Exists.intro; apply Exists.intro; refine ⟨?_, ?_⟩; (focus (first | (go_simp; done) | (go_simp; rfl))); (clear st; intro b4 w hb st; clear hb))
          | ((with_reducible refine wl_alloc ?_ (fun K hK => ?_)); rfl; refine owp_alloc (o := ⟨some 8, _, _, _, _, _⟩) rfl st ?_; apply Exists.intro; apply Exists.intro; refine ⟨?_, ?_⟩; (focus (first | (go_simp; done) | (go_simp; rfl))); (clear st; intro b8 w hb st; clear hb))); (try simp only [nsl, Value.cells, unB] at st); (try clear hc); have hc := st.facts; (try simp only [nfl, nft, elI, elF, Nat.reduceAdd] at hc))
    obtain ⟨fr', al', st', back⟩ := st.sub [0, 1] (by decide) (by simp)
    (try simp only [nsl, Value.cells, unB] at st')
    refine (HA.out _ _ _ _ _ _ _ _ _ HTL.out (fun _ => HLF.out) HC1.out st').mono ?_
    clear st'
    rintro en w ⟨g, bad1, a2, n2, c2, t2, rfl, hc2, ht2, hl2, hr2, st'⟩
    have HC2 := Lib.hid hc2
    have HT2 := Lib.hid ht2
    have HLE : Hid (t2.length ≤ m + 1) := Lib.hid (by have := HM.out; omega)
    have HR2 := Lib.hid hr2
    clear hc2 ht2 hl2 hr2
    replace st := back _ _ (by simp) st'
    clear back st'
    (try simp only [nsl, Value.cells, unB] at st)
    (try clear hc); have hc := st.facts; (try simp only [nfl, nft, elI, elF, Nat.reduceAdd] at hc)
    obtain ⟨gx, hgx⟩ : ∃ x, g = x := ⟨_, rfl⟩
    obtain ⟨op', k', ⟨o', d'⟩, a', n', c', kids'⟩ := g
    have HV : Hid (fmV gx = .agg #[.int .i64 op', .int .i64 k', .string ⟨o'.toArray⟩, .string ⟨d'.toArray⟩, .slice a' n' c']) := Lib.hid (by rw [← hgx]; rfl)
    rw [hgx] at HR2 st ⊢
    rw [HV.out]
    clear hgx
    (try simp only [nsl, Value.cells, unB] at st)
    (try clear hc); have hc := st.facts; (try simp only [nfl, nft, elI, elF, Nat.reduceAdd] at hc)
    go_wp2_with ((first
          | ((with_reducible refine wl_alloc ?_ (fun K hK => ?_)); rfl; refine owp_alloc (o := ⟨some 2, _, _, _, _, _⟩) rfl st ?_; apply Exists.intro; apply Exists.intro; refine ⟨?_, ?_⟩; (focus (first | (go_simp; done) | (go_simp; rfl))); (clear st; intro b2 w hb st; clear hb))
          | ((with_reducible refine wl_store ?_ (fun K hK => ?_)); rfl; refine owp_store rfl st ?_; apply Exists.intro; apply Exists.intro; refine ⟨?_, ?_, ?_⟩; (focus (go_simp; try rfl)); (focus (go_simp; try rfl)); (first | (with_reducible refine ⟨0, _, _, _, _, get0, rfl, rfl, ?_, ?_, ?_, ?_⟩) | (with_reducible refine ⟨1, _, _, _, _, get1, rfl, rfl, ?_, ?_, ?_, ?_⟩) | (with_reducible refine ⟨2, _, _, _, _, get2, rfl, rfl, ?_, ?_, ?_, ?_⟩) | (with_reducible refine ⟨3, _, _, _, _, get3, rfl, rfl, ?_, ?_, ?_, ?_⟩) | (with_reducible refine ⟨4, _, _, _, _, get4, rfl, rfl, ?_, ?_, ?_, ?_⟩) | (with_reducible refine ⟨5, _, _, _, _, get5, rfl, rfl, ?_, ?_, ?_, ?_⟩) | (with_reducible refine ⟨6, _, _, _, _, get6, rfl, rfl, ?_, ?_, ?_, ?_⟩)); (kernel_rfl); (simp [Value.cells]); (rfl); (clear st; intro w st))
          | ((with_reducible refine wl_alloc ?_ (fun K hK => ?_)); rfl; refine owp_alloc (o := ⟨some 4, _, _, _, _, _⟩) rfl st ?_; apply Exists.intro; apply Exists.intro; refine ⟨?_, ?_⟩; (focus (first | (go_simp; done) | (go_simp; rfl))); (clear st; intro b4 w hb st; clear hb))
          | ((with_reducible refine wl_alloc ?_ (fun K hK => ?_)); rfl; refine owp_alloc (o := ⟨some 8, _, _, _, _, _⟩) rfl st ?_; apply Exists.intro; apply Exists.intro; refine ⟨?_, ?_⟩; (focus (first | (go_simp; done) | (go_simp; rfl))); (clear st; intro b8 w hb st; clear hb))); (try simp only [nsl, Value.cells, unB] at st); (try clear hc); have hc := st.facts; (try simp only [nfl, nft, elI, elF, Nat.reduceAdd] at hc))
    obtain ⟨fr', al', st', back⟩ := st.sub [0, 1] (by decide) (by simp)
    (try simp only [nsl, Value.cells, unB] at st')
    refine (rmust_c (t := t2) tShut (by decide) HC2.out st').mono ?_
    clear st'
    intro en w hg
    unfold mustR at hg
    by_cases hq : bad1 = false ∧ nxT t2 = tShut
    · rw [if_pos hq] at hg
      obtain ⟨rfl, hq⟩ := hq
      obtain ⟨a3, n3, c3, rfl, hc3, st'⟩ := hg
      have HC3 := Lib.hid hc3
      have HRI : Hid (RIs false res false gx.strip t2.tail) := Lib.hid ⟨rfl, by rw [← HJ.out, HR2.out.ok.2, Option.bind_some]; simp only; rw [takeF_ok hq]; rfl⟩
      clear hc3 hq HR2
      replace st := back _ _ (by simp) st'
      clear back st'
      (try simp only [nsl, Value.cells, unB] at st)
      (try clear hc); have hc := st.facts; (try simp only [nfl, nft, elI, elF, Nat.reduceAdd] at hc)
      go_wp2_with ((first
            | ((with_reducible refine wl_alloc ?_ (fun K hK => ?_)); rfl; refine owp_alloc (o := ⟨some 2, _, _, _, _, _⟩) rfl st ?_; apply Exists.intro; apply Exists.intro; refine ⟨?_, ?_⟩; (focus (first | (go_simp; done) | (go_simp; rfl))); (clear st; intro b2 w hb st; clear hb))
            | ((with_reducible refine wl_store ?_ (fun K hK => ?_)); rfl; refine owp_store rfl st ?_; apply Exists.intro; apply Exists.intro; refine ⟨?_, ?_, ?_⟩; (focus (go_simp; try rfl)); (focus (go_simp; try rfl)); (first | (with_reducible refine ⟨0, _, _, _, _, get0, rfl, rfl, ?_, ?_, ?_, ?_⟩) | (with_reducible refine ⟨1, _, _, _, _, get1, rfl, rfl, ?_, ?_, ?_, ?_⟩) | (with_reducible refine ⟨2, _, _, _, _, get2, rfl, rfl, ?_, ?_, ?_, ?_⟩) | (with_reducible refine ⟨3, _, _, _, _, get3, rfl, rfl, ?_, ?_, ?_, ?_⟩) | (with_reducible refine ⟨4, _, _, _, _, get4, rfl, rfl, ?_, ?_, ?_, ?_⟩) | (with_reducible refine ⟨5, _, _, _, _, get5, rfl, rfl, ?_, ?_, ?_, ?_⟩) | (with_reducible refine ⟨6, _, _, _, _, get6, rfl, rfl, ?_, ?_, ?_, ?_⟩)); (kernel_rfl); (simp [Value.cells]); (rfl); (clear st; intro w st))
            | ((with_reducible refine wl_alloc ?_ (fun K hK => ?_)); rfl; refine owp_alloc (o := ⟨some 4, _, _, _, _, _⟩) rfl st ?_; apply Exists.intro; apply Exists.intro; refine ⟨?_, ?_⟩; (focus (first | (go_simp; done) | (go_simp; rfl))); (clear st; intro b4 w hb st; clear hb))
            | ((with_reducible refine wl_alloc ?_ (fun K hK => ?_)); rfl; refine owp_alloc (o := ⟨some 8, _, _, _, _, _⟩) rfl st ?_; apply Exists.intro; apply Exists.intro; refine ⟨?_, ?_⟩; (focus (first | (go_simp; done) | (go_simp; rfl))); (clear st; intro b8 w hb st; clear hb))); (try simp only [nsl, Value.cells, unB] at st); (try clear hc); have hc := st.facts; (try simp only [nfl, nft, elI, elF, Nat.reduceAdd] at hc))
      (try simp only [Exit.inBlock, Exit.then])
      refine bodyPost_cell rfl rfl (st.blk (i := 3) get3) Tryz.underlying26 rfl (by kernel_rfl) rfl ?_
      have st2 := st.keep [0, 1, 4] (by decide) (by simp)
      exact rfGot gx (by rw [HV.out] <;> rfl) rfl HC3.out HT2.out.tail (by have := HLE.out; simp; omega) HRI.out (by simpa [pick, S] using st2)
    · rw [if_neg hq] at hg
      obtain ⟨a3, n3, c3, rfl, hc3, st'⟩ := hg
      have HC3 := Lib.hid hc3
      have HRI : Hid (RIs false res true gx.strip t2) := Lib.hid (.inr (by
        rw [← HJ.out]
        cases bad1 with
        | true =>
          rcases HR2.out.no with q | q
          · cases q
          · rw [q]; rfl
        | false => rw [HR2.out.ok.2, Option.bind_some]; simp only; rw [takeF_no (fun h => hq ⟨rfl, h⟩)]; rfl))
      clear hc3 hq HR2
      replace st := back _ _ (by simp) st'
      clear back st'
      (try simp only [nsl, Value.cells, unB] at st)
      (try clear hc); have hc := st.facts; (try simp only [nfl, nft, elI, elF, Nat.reduceAdd] at hc)
      go_wp2_with ((first
            | ((with_reducible refine wl_alloc ?_ (fun K hK => ?_)); rfl; refine owp_alloc (o := ⟨some 2, _, _, _, _, _⟩) rfl st ?_; apply Exists.intro; apply Exists.intro; refine ⟨?_, ?_⟩; (focus (first | (go_simp; done) | (go_simp; rfl))); (clear st; intro b2 w hb st; clear hb))
            | ((with_reducible refine wl_store ?_ (fun K hK => ?_)); rfl; refine owp_store rfl st ?_; apply Exists.intro; apply Exists.intro; refine ⟨?_, ?_, ?_⟩; (focus (go_simp; try rfl)); (focus (go_simp; try rfl)); (first | (with_reducible refine ⟨0, _, _, _, _, get0, rfl, rfl, ?_, ?_, ?_, ?_⟩) | (with_reducible refine ⟨1, _, _, _, _, get1, rfl, rfl, ?_, ?_, ?_, ?_⟩) | (with_reducible refine ⟨2, _, _, _, _, get2, rfl, rfl, ?_, ?_, ?_, ?_⟩) | (with_reducible refine ⟨3, _, _, _, _, get3, rfl, rfl, ?_, ?_, ?_, ?_⟩) | (with_reducible refine ⟨4, _, _, _, _, get4, rfl, rfl, ?_, ?_, ?_, ?_⟩) | (with_reducible refine ⟨5, _, _, _, _, get5, rfl, rfl, ?_, ?_, ?_, ?_⟩) | (with_reducible refine ⟨6, _, _, _, _, get6, rfl, rfl, ?_, ?_, ?_, ?_⟩)); (kernel_rfl); (simp [Value.cells]); (rfl); (clear st; intro w st))
            | ((with_reducible refine wl_alloc ?_ (fun K hK => ?_)); rfl; refine owp_alloc (o := ⟨some 4, _, _, _, _, _⟩) rfl st ?_; apply Exists.intro; apply Exists.intro; refine ⟨?_, ?_⟩; (focus (first | (go_simp; done) | (go_simp; rfl))); (clear st; intro b4 w hb st; clear hb))
            | ((with_reducible refine wl_alloc ?_ (fun K hK => ?_)); rfl; refine owp_alloc (o := ⟨some 8, _, _, _, _, _⟩) rfl st ?_; apply Exists.intro; apply Exists.intro; refine ⟨?_, ?_⟩; (focus (first | (go_simp; done) | (go_simp; rfl))); (clear st; intro b8 w hb st; clear hb))); (try simp only [nsl, Value.cells, unB] at st); (try clear hc); have hc := st.facts; (try simp only [nfl, nft, elI, elF, Nat.reduceAdd] at hc))
      (try simp only [Exit.inBlock, Exit.then])
      refine bodyPost_cell rfl rfl (st.blk (i := 3) get3) Tryz.underlying26 rfl (by kernel_rfl) rfl ?_
      have st2 := st.keep [0, 1, 4] (by decide) (by simp)
      exact rfGot gx (by rw [HV.out] <;> rfl) rfl HC3.out HT2.out HLE.out HRI.out (by simpa [pick, S] using st2)
  · have h1b : (x == [40]) = false := beq_eq_false_iff_ne.2 h1
    by_cases h2 : x = tAll
    · subst h2
      replace HJ := Lib.hid ((oneF_all (one := one) l).symm.trans HJ.out)
      unfold tAll at st
      clear h1 h1b
      (try simp only [nsl, Value.cells, unB] at st)
      (try clear hc); have hc := st.facts; (try simp only [nfl, nft, elI, elF, Nat.reduceAdd] at hc)
      go_enter Tryz.func41, Tryz.ntmps41
      go_wp2_with ((first
            | ((with_reducible refine wl_alloc ?_ (fun K hK => ?_)); rfl; refine owp_alloc (o := ⟨some 2, _, _, _, _, _⟩) rfl st ?_; apply Exists.intro; apply Exists.intro; refine ⟨?_, ?_⟩; (focus (first | (go_simp; done) | (go_simp; rfl))); (clear st; intro b2 w hb st; clear hb))
            | ((with_reducible refine wl_store ?_ (fun K hK => ?_)); rfl; refine owp_store rfl st ?_; apply Exists.intro; apply Exists.intro; refine ⟨?_, ?_, ?_⟩; (focus (go_simp; try rfl)); (focus (go_simp; try rfl)); (first | (with_reducible refine ⟨0, _, _, _, _, get0, rfl, rfl, ?_, ?_, ?_, ?_⟩) | (with_reducible refine ⟨1, _, _, _, _, get1, rfl, rfl, ?_, ?_, ?_, ?_⟩) | (with_reducible refine ⟨2, _, _, _, _, get2, rfl, rfl, ?_, ?_, ?_, ?_⟩) | (with_reducible refine ⟨3, _, _, _, _, get3, rfl, rfl, ?_, ?_, ?_, ?_⟩) | (with_reducible refine ⟨4, _, _, _, _, get4, rfl, rfl, ?_, ?_, ?_, ?_⟩) | (with_reducible refine ⟨5, _, _, _, _, get5, rfl, rfl, ?_, ?_, ?_, ?_⟩) | (with_reducible refine ⟨6, _, _, _, _, get6, rfl, rfl, ?_, ?_, ?_, ?_⟩)); (kernel_rfl); (simp [Value.cells]); (rfl); (clear st; intro w st))
            | ((with_reducible refine wl_alloc ?_ (fun K hK => ?_)); rfl; refine owp_alloc (o := ⟨some 4, _, _, _, _, _⟩) rfl st ?_; apply Exists.intro; apply Exists.intro; refine ⟨?_, ?_⟩; (focus (first | (go_simp; done) | (go_simp; rfl))); (clear st; intro b4 w hb st; clear hb))
            | ((with_reducible refine wl_alloc ?_ (fun K hK => ?_)); rfl; refine owp_alloc (o := ⟨some 8, _, _, _, _, _⟩) rfl st ?_; apply Exists.intro; apply Exists.intro; refine ⟨?_, ?_⟩; (focus (first | (go_simp; done) | (go_simp; rfl))); (clear st; intro b8 w hb st; clear hb))); (try simp only [nsl, Value.cells, unB] at st); (try clear hc); have hc := st.facts; (try simp only [nfl, nft, elI, elF, Nat.reduceAdd] at hc))
      obtain ⟨fr', al', st', back⟩ := st.sub [0, 1] (by decide) (by simp)
      (try simp only [nsl, Value.cells, unB] at st')
      refine (HL.out _ _ _ _ _ _ _ _ _ HTL.out (fun _ => HLF.out) HC1.out st').mono ?_
      clear st'
      rintro en w ⟨va, q, vc, gs, bad1, a1, n1, c1, t2, rfl, hcap, hc1, ht1, hl1, hr1, st'⟩
      have HCAP := Lib.hid hcap
      have HC1 := Lib.hid hc1
      have HT1 := Lib.hid ht1
      have HLE : Hid (t2.length ≤ m + 1) := Lib.hid (by have := HM.out; omega)
      have HRI : Hid (RIs false res bad1 (Fo.mk 2 0 ([], []) (gs.map Fm.strip)) t2) := Lib.hid (by rw [← HJ.out]; exact hr1.map _)
      clear hcap hc1 ht1 hl1 hr1
      replace st := back _ _ (by simp) st'
      clear back st'
      (try simp only [nsl, Value.cells, unB] at st)
      (try clear hc); have hc := st.facts; (try simp only [nfl, nft, elI, elF, Nat.reduceAdd] at hc)
      go_wp2_with ((first
            | ((with_reducible refine wl_alloc ?_ (fun K hK => ?_)); rfl; refine owp_alloc (o := ⟨some 2, _, _, _, _, _⟩) rfl st ?_; apply Exists.intro; apply Exists.intro; refine ⟨?_, ?_⟩; (focus (first | (go_simp; done) | (go_simp; rfl))); (clear st; intro b2 w hb st; clear hb))
            | ((with_reducible refine wl_store ?_ (fun K hK => ?_)); rfl; refine owp_store rfl st ?_; apply Exists.intro; apply Exists.intro; refine ⟨?_, ?_, ?_⟩; (focus (go_simp; try rfl)); (focus (go_simp; try rfl)); (first | (with_reducible refine ⟨0, _, _, _, _, get0, rfl, rfl, ?_, ?_, ?_, ?_⟩) | (with_reducible refine ⟨1, _, _, _, _, get1, rfl, rfl, ?_, ?_, ?_, ?_⟩) | (with_reducible refine ⟨2, _, _, _, _, get2, rfl, rfl, ?_, ?_, ?_, ?_⟩) | (with_reducible refine ⟨3, _, _, _, _, get3, rfl, rfl, ?_, ?_, ?_, ?_⟩) | (with_reducible refine ⟨4, _, _, _, _, get4, rfl, rfl, ?_, ?_, ?_, ?_⟩) | (with_reducible refine ⟨5, _, _, _, _, get5, rfl, rfl, ?_, ?_, ?_, ?_⟩) | (with_reducible refine ⟨6, _, _, _, _, get6, rfl, rfl, ?_, ?_, ?_, ?_⟩)); (kernel_rfl); (simp [Value.cells]); (rfl); (clear st; intro w st))
            | ((with_reducible refine wl_alloc ?_ (fun K hK => ?_)); rfl; refine owp_alloc (o := ⟨some 4, _, _, _, _, _⟩) rfl st ?_; apply Exists.intro; apply Exists.intro; refine ⟨?_, ?_⟩; (focus (first | (go_simp; done) | (go_simp; rfl))); (clear st; intro b4 w hb st; clear hb))
            | ((with_reducible refine wl_alloc ?_ (fun K hK => ?_)); rfl; refine owp_alloc (o := ⟨some 8, _, _, _, _, _⟩) rfl st ?_; apply Exists.intro; apply Exists.intro; refine ⟨?_, ?_⟩; (focus (first | (go_simp; done) | (go_simp; rfl))); (clear st; intro b8 w hb st; clear hb))); (try simp only [nsl, Value.cells, unB] at st); (try clear hc); have hc := st.facts; (try simp only [nfl, nft, elI, elF, Nat.reduceAdd] at hc))
      (try simp only [Exit.inBlock, Exit.then])
      refine bodyPost_cell rfl rfl (st.blk (i := 3) get3) Tryz.underlying26 rfl (by kernel_rfl) rfl ?_
      have st2 := (st.mkFm (i := 4) (j := 5) get4 get5 2 0 ([], []) vc HCAP.out).keep [0, 1, 6] (by decide) (by simp)
      exact rfGot (.mk 2 0 ([], []) va q vc gs) rfl (by rw [strip_mk]) HC1.out HT1.out HLE.out HRI.out (by simpa [pick, S] using st2)
    · have h2b : (x == [97, 108, 108]) = false := beq_eq_false_iff_ne.2 h2
      by_cases h3 : x = tSome
      · subst h3
        replace HJ := Lib.hid ((oneF_some (one := one) l).symm.trans HJ.out)
        unfold tSome at st
        clear h1 h1b h2 h2b
        (try simp only [nsl, Value.cells, unB] at st)
        (try clear hc); have hc := st.facts; (try simp only [nfl, nft, elI, elF, Nat.reduceAdd] at hc)
        go_enter Tryz.func41, Tryz.ntmps41
        go_wp2_with ((first
              | ((with_reducible refine wl_alloc ?_ (fun K hK => ?_)); rfl; refine owp_alloc (o := ⟨some 2, _, _, _, _, _⟩) rfl st ?_; apply Exists.intro; apply Exists.intro; refine ⟨?_, ?_⟩; (focus (first | (go_simp; done) | (go_simp; rfl))); (clear st; intro b2 w hb st; clear hb))
              | ((with_reducible refine wl_store ?_ (fun K hK => ?_)); rfl; refine owp_store rfl st ?_; apply Exists.intro; apply Exists.intro; refine ⟨?_, ?_, ?_⟩; (focus (go_simp; try rfl)); (focus (go_simp; try rfl)); (first | (with_reducible refine ⟨0, _, _, _, _, get0, rfl, rfl, ?_, ?_, ?_, ?_⟩) | (with_reducible refine ⟨1, _, _, _, _, get1, rfl, rfl, ?_, ?_, ?_, ?_⟩) | (with_reducible refine ⟨2, _, _, _, _, get2, rfl, rfl, ?_, ?_, ?_, ?_⟩) | (with_reducible refine ⟨3, _, _, _, _, get3, rfl, rfl, ?_, ?_, ?_, ?_⟩) | (with_reducible refine ⟨4, _, _, _, _, get4, rfl, rfl, ?_, ?_, ?_, ?_⟩) | (with_reducible refine ⟨5, _, _, _, _, get5, rfl, rfl, ?_, ?_, ?_, ?_⟩) | (with_reducible refine ⟨6, _, _, _, _, get6, rfl, rfl, ?_, ?_, ?_, ?_⟩)); (kernel_rfl); (simp [Value.cells]); (rfl); (clear st; intro w st))
              | ((with_reducible refine wl_alloc ?_ (fun K hK => ?_)); rfl; refine owp_alloc (o := ⟨some 4, _, _, _, _, _⟩) rfl st ?_; apply Exists.intro; apply Exists.intro; refine ⟨?_, ?_⟩; (focus (first | (go_simp; done) | (go_simp; rfl))); (clear st; intro b4 w hb st; clear hb))
              | ((with_reducible refine wl_alloc ?_ (fun K hK => ?_)); rfl; refine owp_alloc (o := ⟨some 8, _, _, _, _, _⟩) rfl st ?_; apply Exists.intro; apply Exists.intro; refine ⟨?_, ?_⟩; (focus (first | (go_simp; done) | (go_simp; rfl))); (clear st; intro b8 w hb st; clear hb))); (try simp only [nsl, Value.cells, unB] at st); (try clear hc); have hc := st.facts; (try simp only [nfl, nft, elI, elF, Nat.reduceAdd] at hc))
        obtain ⟨fr', al', st', back⟩ := st.sub [0, 1] (by decide) (by simp)
        (try simp only [nsl, Value.cells, unB] at st')
        refine (HL.out _ _ _ _ _ _ _ _ _ HTL.out (fun _ => HLF.out) HC1.out st').mono ?_
        clear st'
        rintro en w ⟨va, q, vc, gs, bad1, a1, n1, c1, t2, rfl, hcap, hc1, ht1, hl1, hr1, st'⟩
        have HCAP := Lib.hid hcap
        have HC1 := Lib.hid hc1
        have HT1 := Lib.hid ht1
        have HLE : Hid (t2.length ≤ m + 1) := Lib.hid (by have := HM.out; omega)
        have HRI : Hid (RIs false res bad1 (Fo.mk 3 0 ([], []) (gs.map Fm.strip)) t2) := Lib.hid (by rw [← HJ.out]; exact hr1.map _)
        clear hcap hc1 ht1 hl1 hr1
        replace st := back _ _ (by simp) st'
        clear back st'
        (try simp only [nsl, Value.cells, unB] at st)
        (try clear hc); have hc := st.facts; (try simp only [nfl, nft, elI, elF, Nat.reduceAdd] at hc)
        go_wp2_with ((first
              | ((with_reducible refine wl_alloc ?_ (fun K hK => ?_)); rfl; refine owp_alloc (o := ⟨some 2, _, _, _, _, _⟩) rfl st ?_; apply Exists.intro; apply Exists.intro; refine ⟨?_, ?_⟩; (focus (first | (go_simp; done) | (go_simp; rfl))); (clear st; intro b2 w hb st; clear hb))
              | ((with_reducible refine wl_store ?_ (fun K hK => ?_)); rfl; refine owp_store rfl st ?_; apply Exists.intro; apply Exists.intro; refine ⟨?_, ?_, ?_⟩; (focus (go_simp; try rfl)); (focus (go_simp; try rfl)); (first | (with_reducible refine ⟨0, _, _, _, _, get0, rfl, rfl, ?_, ?_, ?_, ?_⟩) | (with_reducible refine ⟨1, _, _, _, _, get1, rfl, rfl, ?_, ?_, ?_, ?_⟩) | (with_reducible refine ⟨2, _, _, _, _, get2, rfl, rfl, ?_, ?_, ?_, ?_⟩) | (with_reducible refine ⟨3, _, _, _, _, get3, rfl, rfl, ?_, ?_, ?_, ?_⟩) | (with_reducible refine ⟨4, _, _, _, _, get4, rfl, rfl, ?_, ?_, ?_, ?_⟩) | (with_reducible refine ⟨5, _, _, _, _, get5, rfl, rfl, ?_, ?_, ?_, ?_⟩) | (with_reducible refine ⟨6, _, _, _, _, get6, rfl, rfl, ?_, ?_, ?_, ?_⟩)); (kernel_rfl); (simp [Value.cells]); (rfl); (clear st; intro w st))
              | ((with_reducible refine wl_alloc ?_ (fun K hK => ?_)); rfl; refine owp_alloc (o := ⟨some 4, _, _, _, _, _⟩) rfl st ?_; apply Exists.intro; apply Exists.intro; refine ⟨?_, ?_⟩; (focus (first | (go_simp; done) | (go_simp; rfl))); (clear st; intro b4 w hb st; clear hb))
              | ((with_reducible refine wl_alloc ?_ (fun K hK => ?_)); rfl; refine owp_alloc (o := ⟨some 8, _, _, _, _, _⟩) rfl st ?_; apply Exists.intro; apply Exists.intro; refine ⟨?_, ?_⟩; (focus (first | (go_simp; done) | (go_simp; rfl))); (clear st; intro b8 w hb st; clear hb))); (try simp only [nsl, Value.cells, unB] at st); (try clear hc); have hc := st.facts; (try simp only [nfl, nft, elI, elF, Nat.reduceAdd] at hc))
        (try simp only [Exit.inBlock, Exit.then])
        refine bodyPost_cell rfl rfl (st.blk (i := 3) get3) Tryz.underlying26 rfl (by kernel_rfl) rfl ?_
        have st2 := (st.mkFm (i := 4) (j := 5) get4 get5 3 0 ([], []) vc HCAP.out).keep [0, 1, 6] (by decide) (by simp)
        exact rfGot (.mk 3 0 ([], []) va q vc gs) rfl (by rw [strip_mk]) HC1.out HT1.out HLE.out HRI.out (by simpa [pick, S] using st2)
      · have h3b : (x == [115, 111, 109, 101]) = false := beq_eq_false_iff_ne.2 h3
        by_cases h4 : x = tAt
        · subst h4
          replace HJ := Lib.hid ((oneF_at (one := one) l).symm.trans HJ.out)
          unfold tAt at st
          clear h1 h1b h2 h2b h3 h3b
          cases l with
          | nil =>
            obtain rfl : m = 0 := HM.out
            have HRN : Hid (res = none) := Lib.hid (by rw [← HJ.out]; show (digP []).bind _ = none; rw [show digP [] = none from by decide +kernel]; rfl)
            clear HJ
            (try simp only [nsl, Value.cells, unB] at st)
            (try clear hc); have hc := st.facts; (try simp only [nfl, nft, elI, elF, Nat.reduceAdd] at hc)
            go_enter Tryz.func41, Tryz.ntmps41
            go_wp2_with ((first
                  | ((with_reducible refine wl_alloc ?_ (fun K hK => ?_)); rfl; refine owp_alloc (o := ⟨some 2, _, _, _, _, _⟩) rfl st ?_; apply Exists.intro; apply Exists.intro; refine ⟨?_, ?_⟩; (focus (first | (go_simp; done) | (go_simp; rfl))); (clear st; intro b2 w hb st; clear hb))
                  | ((with_reducible refine wl_store ?_ (fun K hK => ?_)); rfl; refine owp_store rfl st ?_; apply Exists.intro; apply Exists.intro; refine ⟨?_, ?_, ?_⟩; (focus (go_simp; try rfl)); (focus (go_simp; try rfl)); (first | (with_reducible refine ⟨0, _, _, _, _, get0, rfl, rfl, ?_, ?_, ?_, ?_⟩) | (with_reducible refine ⟨1, _, _, _, _, get1, rfl, rfl, ?_, ?_, ?_, ?_⟩) | (with_reducible refine ⟨2, _, _, _, _, get2, rfl, rfl, ?_, ?_, ?_, ?_⟩) | (with_reducible refine ⟨3, _, _, _, _, get3, rfl, rfl, ?_, ?_, ?_, ?_⟩) | (with_reducible refine ⟨4, _, _, _, _, get4, rfl, rfl, ?_, ?_, ?_, ?_⟩) | (with_reducible refine ⟨5, _, _, _, _, get5, rfl, rfl, ?_, ?_, ?_, ?_⟩) | (with_reducible refine ⟨6, _, _, _, _, get6, rfl, rfl, ?_, ?_, ?_, ?_⟩)); (kernel_rfl); (simp [Value.cells]); (rfl); (clear st; intro w st))
                  | ((with_reducible refine wl_alloc ?_ (fun K hK => ?_)); rfl; refine owp_alloc (o := ⟨some 4, _, _, _, _, _⟩) rfl st ?_; apply Exists.intro; apply Exists.intro; refine ⟨?_, ?_⟩; (focus (first | (go_simp; done) | (go_simp; rfl))); (clear st; intro b4 w hb st; clear hb))
                  | ((with_reducible refine wl_alloc ?_ (fun K hK => ?_)); rfl; refine owp_alloc (o := ⟨some 8, _, _, _, _, _⟩) rfl st ?_; apply Exists.intro; apply Exists.intro; refine ⟨?_, ?_⟩; (focus (first | (go_simp; done) | (go_simp; rfl))); (clear st; intro b8 w hb st; clear hb))); (try simp only [nsl, Value.cells, unB] at st); (try clear hc); have hc := st.facts; (try simp only [nfl, nft, elI, elF, Nat.reduceAdd] at hc))
            go_loopg [6, 7] 0 (fun k nn ii wr => nn = .int .i64 0 ∧ ii = .int .i64 0 ∧ Own fr al w0 [blkI rb [.slice a1 0 c1, .bool false], flI a1 0 ([] : List Tok), blkI b2 [.int .i64 0, .int .i64 0, .string ⟨#[]⟩, .string ⟨#[]⟩, .slice none 0 0]] wr)
            case atStart => exact ⟨rfl, rfl, by simpa [pick] using st.keep [0, 1, 3] (by decide) (by simp)⟩
            case round =>
              obtain ⟨rfl, rfl, st'⟩ := hrel
              clear st hc
              have st := st'
              clear st'
              (try simp only [nsl, Value.cells, unB] at st)
              (try clear hc); have hc := st.facts; (try simp only [nfl, nft, elI, elF, Nat.reduceAdd] at hc)
              go_wp2_with ((first
                    | ((with_reducible refine wl_alloc ?_ (fun K hK => ?_)); rfl; refine owp_alloc (o := ⟨some 2, _, _, _, _, _⟩) rfl st ?_; apply Exists.intro; apply Exists.intro; refine ⟨?_, ?_⟩; (focus (first | (go_simp; done) | (go_simp; rfl))); (clear st; intro b2 w hb st; clear hb))
                    | ((with_reducible refine wl_store ?_ (fun K hK => ?_)); rfl; refine owp_store rfl st ?_; apply Exists.intro; apply Exists.intro; refine ⟨?_, ?_, ?_⟩; (focus (go_simp; try rfl)); (focus (go_simp; try rfl)); (first | (with_reducible refine ⟨0, _, _, _, _, get0, rfl, rfl, ?_, ?_, ?_, ?_⟩) | (with_reducible refine ⟨1, _, _, _, _, get1, rfl, rfl, ?_, ?_, ?_, ?_⟩) | (with_reducible refine ⟨2, _, _, _, _, get2, rfl, rfl, ?_, ?_, ?_, ?_⟩) | (with_reducible refine ⟨3, _, _, _, _, get3, rfl, rfl, ?_, ?_, ?_, ?_⟩) | (with_reducible refine ⟨4, _, _, _, _, get4, rfl, rfl, ?_, ?_, ?_, ?_⟩) | (with_reducible refine ⟨5, _, _, _, _, get5, rfl, rfl, ?_, ?_, ?_, ?_⟩) | (with_reducible refine ⟨6, _, _, _, _, get6, rfl, rfl, ?_, ?_, ?_, ?_⟩)); (kernel_rfl); (simp [Value.cells]); (rfl); (clear st; intro w st))
                    | ((with_reducible refine wl_alloc ?_ (fun K hK => ?_)); rfl; refine owp_alloc (o := ⟨some 4, _, _, _, _, _⟩) rfl st ?_; apply Exists.intro; apply Exists.intro; refine ⟨?_, ?_⟩; (focus (first | (go_simp; done) | (go_simp; rfl))); (clear st; intro b4 w hb st; clear hb))
                    | ((with_reducible refine wl_alloc ?_ (fun K hK => ?_)); rfl; refine owp_alloc (o := ⟨some 8, _, _, _, _, _⟩) rfl st ?_; apply Exists.intro; apply Exists.intro; refine ⟨?_, ?_⟩; (focus (first | (go_simp; done) | (go_simp; rfl))); (clear st; intro b8 w hb st; clear hb))); (try simp only [nsl, Value.cells, unB] at st); (try clear hc); have hc := st.facts; (try simp only [nfl, nft, elI, elF, Nat.reduceAdd] at hc))
              obtain ⟨fr', al', st', back⟩ := st.sub [0, 1] (by decide) (by simp)
              (try simp only [nsl, Value.cells, unB] at st')
              refine (HL.out _ _ _ _ _ _ _ _ _ HTL.out (fun h => by cases h) HC1.out st').mono ?_
              clear st'
              rintro en w ⟨va, q, vc, gs, bad1, a1, n1, c1, t2, rfl, hcap, hc1, ht1, hl1, hr1, st'⟩
              have HCAP := Lib.hid hcap
              have HC1 := Lib.hid hc1
              have HT1 := Lib.hid ht1
              have HLE : Hid (t2.length ≤ 0 + 1) := Lib.hid (by have := HM.out; omega)
              have HRI : Hid (RIs false res bad1 (Fo.mk 4 0 ([], []) (gs.map Fm.strip)) t2) := Lib.hid (by have := hr1.bad; subst this; exact .inr HRN.out)
              clear hcap hc1 ht1 hl1 hr1
              replace st := back _ _ (by simp) st'
              clear back st'
              (try simp only [nsl, Value.cells, unB] at st)
              (try clear hc); have hc := st.facts; (try simp only [nfl, nft, elI, elF, Nat.reduceAdd] at hc)
              go_wp2_with ((first
                    | ((with_reducible refine wl_alloc ?_ (fun K hK => ?_)); rfl; refine owp_alloc (o := ⟨some 2, _, _, _, _, _⟩) rfl st ?_; apply Exists.intro; apply Exists.intro; refine ⟨?_, ?_⟩; (focus (first | (go_simp; done) | (go_simp; rfl))); (clear st; intro b2 w hb st; clear hb))
                    | ((with_reducible refine wl_store ?_ (fun K hK => ?_)); rfl; refine owp_store rfl st ?_; apply Exists.intro; apply Exists.intro; refine ⟨?_, ?_, ?_⟩; (focus (go_simp; try rfl)); (focus (go_simp; try rfl)); (first | (with_reducible refine ⟨0, _, _, _, _, get0, rfl, rfl, ?_, ?_, ?_, ?_⟩) | (with_reducible refine ⟨1, _, _, _, _, get1, rfl, rfl, ?_, ?_, ?_, ?_⟩) | (with_reducible refine ⟨2, _, _, _, _, get2, rfl, rfl, ?_, ?_, ?_, ?_⟩) | (with_reducible refine ⟨3, _, _, _, _, get3, rfl, rfl, ?_, ?_, ?_, ?_⟩) | (with_reducible refine ⟨4, _, _, _, _, get4, rfl, rfl, ?_, ?_, ?_, ?_⟩) | (with_reducible refine ⟨5, _, _, _, _, get5, rfl, rfl, ?_, ?_, ?_, ?_⟩) | (with_reducible refine ⟨6, _, _, _, _, get6, rfl, rfl, ?_, ?_, ?_, ?_⟩)); (kernel_rfl); (simp [Value.cells]); (rfl); (clear st; intro w st))
                    | ((with_reducible refine wl_alloc ?_ (fun K hK => ?_)); rfl; refine owp_alloc (o := ⟨some 4, _, _, _, _, _⟩) rfl st ?_; apply Exists.intro; apply Exists.intro; refine ⟨?_, ?_⟩; (focus (first | (go_simp; done) | (go_simp; rfl))); (clear st; intro b4 w hb st; clear hb))
                    | ((with_reducible refine wl_alloc ?_ (fun K hK => ?_)); rfl; refine owp_alloc (o := ⟨some 8, _, _, _, _, _⟩) rfl st ?_; apply Exists.intro; apply Exists.intro; refine ⟨?_, ?_⟩; (focus (first | (go_simp; done) | (go_simp; rfl))); (clear st; intro b8 w hb st; clear hb))); (try simp only [nsl, Value.cells, unB] at st); (try clear hc); have hc := st.facts; (try simp only [nfl, nft, elI, elF, Nat.reduceAdd] at hc))
              (try simp only [Exit.inBlock, Exit.then])
              refine bodyPost_cell rfl rfl (st.blk (i := 2) get2) Tryz.underlying26 rfl (by kernel_rfl) rfl ?_
              have st2 := (st.mkFm (i := 3) (j := 4) get3 get4 4 0 ([], []) vc HCAP.out).keep [0, 1, 5] (by decide) (by simp)
              exact rfGot (.mk 4 0 ([], []) va q vc gs) rfl (by rw [strip_mk]) HC1.out HT1.out HLE.out HRI.out (by simpa [pick, S] using st2)
          | cons y l =>
            obtain ⟨m2, rfl⟩ : ∃ q, m = q + 1 := ⟨l.length, HM.out⟩
            have HM2 : Hid (m2 = l.length) := Lib.hid (by have := HM.out; rw [List.length_cons] at this; omega)
            obtain ⟨b1, off1, rfl⟩ := (st.flAt (i := 1) get1).at (by omega)
            replace st := st.flTailIf (i := 1) get1 HC1.out.1
            simp only [List.cons_append, List.nil_append] at st
            replace st := st.flToEl (i := 1) [(off1, .string ⟨y.toArray⟩)] get1 (by omega) (fun p hp => ⟨0, by rw [List.mem_singleton.1 hp]; rfl, by rw [List.mem_singleton.1 hp]; rfl⟩)
            simp only [List.cons_append, List.nil_append] at st
            have st9 := st.keep [0, 3, 2, 4] (by decide) (by simp)
            simp only [pick, List.map_cons, List.map_nil, List.getElem?_cons_zero, List.getElem?_cons_succ, Option.getD_some, List.cons_append, List.nil_append] at st9
            clear st
            have st := st9
            clear st9
            obtain ⟨a2, hif2⟩ : ∃ a2, (if c1 = 1 then some (⟨b1, off1, none⟩ : Addr) else some ⟨b1, off1 + 1, none⟩) = a2 := ⟨_, rfl⟩
            rw [hif2] at st
            obtain ⟨c2, hc2⟩ : ∃ c2, c1 - 1 = c2 := ⟨_, rfl⟩
            have HC2 : Hid (m2 ≤ c2 ∧ c2 ≤ maxLen) := Lib.hid (by have := HC1.out; omega)
            have hcb1 := HC1.out.1
            have HYL : Hid (y.length ≤ 100000) := Lib.hid (HTL.out.2 y (by simp))
            have HTL2 : Hid (TokL l) := Lib.hid HTL.out.tail
            have HLF2 : Hid (l.length < f) := Lib.hid (by have := HLF.out; rw [List.length_cons] at this; omega)
            replace HJ := Lib.hid (show ((digP y).bind fun k => (listP false one l).map fun q => (Fo.mk 4 (k : Int) ([], []) q.1, q.2)) = res from HJ.out)
            obtain ⟨ky, hky⟩ : ∃ n, y.length = n := ⟨_, rfl⟩
            have hsz : (⟨y.toArray⟩ : ByteArray).size = ky := by rw [ba_size]; exact hky
            have HKY := Lib.hid hky
            have hkl : ky ≤ 100000 := by have := HYL.out; omega
            clear hky HTL HLF HM HYL
            (try simp only [nsl, Value.cells, unB] at st)
            (try clear hc); have hc := st.facts; (try simp only [nfl, nft, elI, elF, Nat.reduceAdd] at hc)
            go_enter Tryz.func41, Tryz.ntmps41
            go_wp2_with ((first
                  | ((with_reducible refine wl_alloc ?_ (fun K hK => ?_)); rfl; refine owp_alloc (o := ⟨some 2, _, _, _, _, _⟩) rfl st ?_; apply Exists.intro; apply Exists.intro; refine ⟨?_, ?_⟩; (focus (first | (go_simp; done) | (go_simp; rfl))); (clear st; intro b2 w hb st; clear hb))
                  | ((with_reducible refine wl_store ?_ (fun K hK => ?_)); rfl; refine owp_store rfl st ?_; apply Exists.intro; apply Exists.intro; refine ⟨?_, ?_, ?_⟩; (focus (go_simp; try rfl)); (focus (go_simp; try rfl)); (first | (with_reducible refine ⟨0, _, _, _, _, get0, rfl, rfl, ?_, ?_, ?_, ?_⟩) | (with_reducible refine ⟨1, _, _, _, _, get1, rfl, rfl, ?_, ?_, ?_, ?_⟩) | (with_reducible refine ⟨2, _, _, _, _, get2, rfl, rfl, ?_, ?_, ?_, ?_⟩) | (with_reducible refine ⟨3, _, _, _, _, get3, rfl, rfl, ?_, ?_, ?_, ?_⟩) | (with_reducible refine ⟨4, _, _, _, _, get4, rfl, rfl, ?_, ?_, ?_, ?_⟩) | (with_reducible refine ⟨5, _, _, _, _, get5, rfl, rfl, ?_, ?_, ?_, ?_⟩) | (with_reducible refine ⟨6, _, _, _, _, get6, rfl, rfl, ?_, ?_, ?_, ?_⟩)); (kernel_rfl); (simp [Value.cells]); (rfl); (clear st; intro w st))
                  | ((with_reducible refine wl_alloc ?_ (fun K hK => ?_)); rfl; refine owp_alloc (o := ⟨some 4, _, _, _, _, _⟩) rfl st ?_; apply Exists.intro; apply Exists.intro; refine ⟨?_, ?_⟩; (focus (first | (go_simp; done) | (go_simp; rfl))); (clear st; intro b4 w hb st; clear hb))
                  | ((with_reducible refine wl_alloc ?_ (fun K hK => ?_)); rfl; refine owp_alloc (o := ⟨some 8, _, _, _, _, _⟩) rfl st ?_; apply Exists.intro; apply Exists.intro; refine ⟨?_, ?_⟩; (focus (first | (go_simp; done) | (go_simp; rfl))); (clear st; intro b8 w hb st; clear hb))); (try simp only [nsl, Value.cells, unB] at st); (try clear hc); have hc := st.facts; (try simp only [nfl, nft, elI, elF, Nat.reduceAdd] at hc))
            go_loopg [6, 7] ky (fun k nn ii wr => ∃ (j : Nat) (nv : Int) (bd : Bool), j ≤ ky ∧ k = ky - j ∧ nn = .int .i64 nv ∧ ii = .int .i64 (j : Int) ∧ Hid (bd = !((y.take j).all dgB)) ∧ Hid (ky ≤ 2 → bd = false → nv = (digV (y.take j) : Int)) ∧ Own fr al w0 [blkI rb [.slice a2 m2 c2, .bool bd], flI a2 m2 l, blkI b2 [.int .i64 0, .int .i64 0, .string ⟨#[]⟩, .string ⟨#[]⟩, .slice none 0 0]] wr)
            case atStart => exact ⟨0, 0, false, by omega, by omega, rfl, rfl, Lib.hid (by simp), Lib.hid (fun _ _ => by simp [digV]), by simpa [pick] using st.keep [0, 1, 4] (by decide) (by simp)⟩
            case round =>
              obtain ⟨j, nv, bd, hj, rfl, rfl, rfl, HB, HV, st'⟩ := hrel
              clear st hc
              have st := st'
              clear st'
              by_cases hjn : j < ky
              · have hjs : j < y.length := by have := HKY.out; omega
                obtain ⟨d, hdj⟩ : ∃ d, y[j] = d := ⟨_, rfl⟩
                have hgy : ∀ h, (⟨y.toArray⟩ : ByteArray)[j]'h = d := fun h => (ba_get _ _ h).trans hdj
                have hts : y.take (j + 1) = y.take j ++ [d] := by rw [← hdj]; exact (List.take_append_getElem hjs).symm
                have HTS := Lib.hid hts
                have hw1 : IntKind.i64.wrap ((j : Int) + 1) = (j : Int) + 1 := IntWalk.i64_in _ ⟨by omega, by omega⟩
                have HDN := Lib.hid (dgB_nat d)
                have hdl := d.toNat_lt
                have hwd : IntKind.i64.wrap (d.toNat : Int) = (d.toNat : Int) := IntWalk.i64_in _ ⟨by omega, by omega⟩
                clear hjs hdj hts
                by_cases hd : dgB d = true
                · have hdd : 48 ≤ d.toNat ∧ d.toNat ≤ 57 := by have := HDN.out; rw [hd] at this; exact of_decide_eq_true this.symm
                  have hd1 : ¬ (d.toNat : Int) < 48 := by omega
                  have hd2 : ¬ (57 : Int) < (d.toNat : Int) := by omega
                  have HB2 : Hid (bd = !((y.take (j + 1)).all dgB)) := Lib.hid (by rw [HTS.out, List.all_append, HB.out]; simp [hd])
                  clear hd
                  (try simp only [nsl, Value.cells, unB] at st)
                  (try clear hc); have hc := st.facts; (try simp only [nfl, nft, elI, elF, Nat.reduceAdd] at hc)
                  go_wp2_with ((first
                        | ((with_reducible refine wl_alloc ?_ (fun K hK => ?_)); rfl; refine owp_alloc (o := ⟨some 2, _, _, _, _, _⟩) rfl st ?_; apply Exists.intro; apply Exists.intro; refine ⟨?_, ?_⟩; (focus (first | (go_simp; done) | (go_simp; rfl))); (clear st; intro b2 w hb st; clear hb))
                        | ((with_reducible refine wl_store ?_ (fun K hK => ?_)); rfl; refine owp_store rfl st ?_; apply Exists.intro; apply Exists.intro; refine ⟨?_, ?_, ?_⟩; (focus (go_simp; try rfl)); (focus (go_simp; try rfl)); (first | (with_reducible refine ⟨0, _, _, _, _, get0, rfl, rfl, ?_, ?_, ?_, ?_⟩) | (with_reducible refine ⟨1, _, _, _, _, get1, rfl, rfl, ?_, ?_, ?_, ?_⟩) | (with_reducible refine ⟨2, _, _, _, _, get2, rfl, rfl, ?_, ?_, ?_, ?_⟩) | (with_reducible refine ⟨3, _, _, _, _, get3, rfl, rfl, ?_, ?_, ?_, ?_⟩) | (with_reducible refine ⟨4, _, _, _, _, get4, rfl, rfl, ?_, ?_, ?_, ?_⟩) | (with_reducible refine ⟨5, _, _, _, _, get5, rfl, rfl, ?_, ?_, ?_, ?_⟩) | (with_reducible refine ⟨6, _, _, _, _, get6, rfl, rfl, ?_, ?_, ?_, ?_⟩)); (kernel_rfl); (simp [Value.cells]); (rfl); (clear st; intro w st))
                        | ((with_reducible refine wl_alloc ?_ (fun K hK => ?_)); rfl; refine owp_alloc (o := ⟨some 4, _, _, _, _, _⟩) rfl st ?_; apply Exists.intro; apply Exists.intro; refine ⟨?_, ?_⟩; (focus (first | (go_simp; done) | (go_simp; rfl))); (clear st; intro b4 w hb st; clear hb))
                        | ((with_reducible refine wl_alloc ?_ (fun K hK => ?_)); rfl; refine owp_alloc (o := ⟨some 8, _, _, _, _, _⟩) rfl st ?_; apply Exists.intro; apply Exists.intro; refine ⟨?_, ?_⟩; (focus (first | (go_simp; done) | (go_simp; rfl))); (clear st; intro b8 w hb st; clear hb))); (try simp only [nsl, Value.cells, unB] at st); (try clear hc); have hc := st.facts; (try simp only [nfl, nft, elI, elF, Nat.reduceAdd] at hc))
                  have HV2 : Hid (ky ≤ 2 → bd = false → wrap64 (wrap64 (wrap64 (10 * nv) + (d.toNat : Int)) - 48) = (digV (y.take (j + 1)) : Int)) := Lib.hid (fun h hb => by
                    rw [HTS.out]
                    exact dig_step (by rw [List.length_take]; omega) (by have := HB.out; rw [hb] at this; simpa using this.symm) hdd (HV.out h hb))
                  go_roundg (ky - (j + 1))
                  case measure => omega
                  case rel => exact ⟨j + 1, _, bd, by omega, by omega, rfl, by go_num, HB2, HV2, st⟩
                · have hdd : ¬ (48 ≤ d.toNat ∧ d.toNat ≤ 57) := by have := HDN.out; rw [Bool.not_eq_true] at hd; rw [hd] at this; exact of_decide_eq_false this.symm
                  have HB2 : Hid (true = !((y.take (j + 1)).all dgB)) := Lib.hid (by rw [HTS.out, List.all_append]; simp [hd])
                  by_cases hlow : d.toNat < 48
                  · have hd1 : (d.toNat : Int) < 48 := by omega
                    clear hd
                    (try simp only [nsl, Value.cells, unB] at st)
                    (try clear hc); have hc := st.facts; (try simp only [nfl, nft, elI, elF, Nat.reduceAdd] at hc)
                    go_wp2_with ((first
                          | ((with_reducible refine wl_alloc ?_ (fun K hK => ?_)); rfl; refine owp_alloc (o := ⟨some 2, _, _, _, _, _⟩) rfl st ?_; apply Exists.intro; apply Exists.intro; refine ⟨?_, ?_⟩; (focus (first | (go_simp; done) | (go_simp; rfl))); (clear st; intro b2 w hb st; clear hb))
                          | ((with_reducible refine wl_store ?_ (fun K hK => ?_)); rfl; refine owp_store rfl st ?_; apply Exists.intro; apply Exists.intro; refine ⟨?_, ?_, ?_⟩; (focus (go_simp; try rfl)); (focus (go_simp; try rfl)); (first | (with_reducible refine ⟨0, _, _, _, _, get0, rfl, rfl, ?_, ?_, ?_, ?_⟩) | (with_reducible refine ⟨1, _, _, _, _, get1, rfl, rfl, ?_, ?_, ?_, ?_⟩) | (with_reducible refine ⟨2, _, _, _, _, get2, rfl, rfl, ?_, ?_, ?_, ?_⟩) | (with_reducible refine ⟨3, _, _, _, _, get3, rfl, rfl, ?_, ?_, ?_, ?_⟩) | (with_reducible refine ⟨4, _, _, _, _, get4, rfl, rfl, ?_, ?_, ?_, ?_⟩) | (with_reducible refine ⟨5, _, _, _, _, get5, rfl, rfl, ?_, ?_, ?_, ?_⟩) | (with_reducible refine ⟨6, _, _, _, _, get6, rfl, rfl, ?_, ?_, ?_, ?_⟩)); (kernel_rfl); (simp [Value.cells]); (rfl); (clear st; intro w st))
                          | ((with_reducible refine wl_alloc ?_ (fun K hK => ?_)); rfl; refine owp_alloc (o := ⟨some 4, _, _, _, _, _⟩) rfl st ?_; apply Exists.intro; apply Exists.intro; refine ⟨?_, ?_⟩; (focus (first | (go_simp; done) | (go_simp; rfl))); (clear st; intro b4 w hb st; clear hb))
                          | ((with_reducible refine wl_alloc ?_ (fun K hK => ?_)); rfl; refine owp_alloc (o := ⟨some 8, _, _, _, _, _⟩) rfl st ?_; apply Exists.intro; apply Exists.intro; refine ⟨?_, ?_⟩; (focus (first | (go_simp; done) | (go_simp; rfl))); (clear st; intro b8 w hb st; clear hb))); (try simp only [nsl, Value.cells, unB] at st); (try clear hc); have hc := st.facts; (try simp only [nfl, nft, elI, elF, Nat.reduceAdd] at hc))
                    go_roundg (ky - (j + 1))
                    case measure => omega
                    case rel => exact ⟨j + 1, _, true, by omega, by omega, rfl, by go_num, HB2, Lib.hid (fun _ h => by cases h), st⟩
                  · have hd1 : ¬ (d.toNat : Int) < 48 := by omega
                    have hd2 : (57 : Int) < (d.toNat : Int) := by omega
                    clear hd
                    (try simp only [nsl, Value.cells, unB] at st)
                    (try clear hc); have hc := st.facts; (try simp only [nfl, nft, elI, elF, Nat.reduceAdd] at hc)
                    go_wp2_with ((first
                          | ((with_reducible refine wl_alloc ?_ (fun K hK => ?_)); rfl; refine owp_alloc (o := ⟨some 2, _, _, _, _, _⟩) rfl st ?_; apply Exists.intro; apply Exists.intro; refine ⟨?_, ?_⟩; (focus (first | (go_simp; done) | (go_simp; rfl))); (clear st; intro b2 w hb st; clear hb))
                          | ((with_reducible refine wl_store ?_ (fun K hK => ?_)); rfl; refine owp_store rfl st ?_; apply Exists.intro; apply Exists.intro; refine ⟨?_, ?_, ?_⟩; (focus (go_simp; try rfl)); (focus (go_simp; try rfl)); (first | (with_reducible refine ⟨0, _, _, _, _, get0, rfl, rfl, ?_, ?_, ?_, ?_⟩) | (with_reducible refine ⟨1, _, _, _, _, get1, rfl, rfl, ?_, ?_, ?_, ?_⟩) | (with_reducible refine ⟨2, _, _, _, _, get2, rfl, rfl, ?_, ?_, ?_, ?_⟩) | (with_reducible refine ⟨3, _, _, _, _, get3, rfl, rfl, ?_, ?_, ?_, ?_⟩) | (with_reducible refine ⟨4, _, _, _, _, get4, rfl, rfl, ?_, ?_, ?_, ?_⟩) | (with_reducible refine ⟨5, _, _, _, _, get5, rfl, rfl, ?_, ?_, ?_, ?_⟩) | (with_reducible refine ⟨6, _, _, _, _, get6, rfl, rfl, ?_, ?_, ?_, ?_⟩)); (kernel_rfl); (simp [Value.cells]); (rfl); (clear st; intro w st))
                          | ((with_reducible refine wl_alloc ?_ (fun K hK => ?_)); rfl; refine owp_alloc (o := ⟨some 4, _, _, _, _, _⟩) rfl st ?_; apply Exists.intro; apply Exists.intro; refine ⟨?_, ?_⟩; (focus (first | (go_simp; done) | (go_simp; rfl))); (clear st; intro b4 w hb st; clear hb))
                          | ((with_reducible refine wl_alloc ?_ (fun K hK => ?_)); rfl; refine owp_alloc (o := ⟨some 8, _, _, _, _, _⟩) rfl st ?_; apply Exists.intro; apply Exists.intro; refine ⟨?_, ?_⟩; (focus (first | (go_simp; done) | (go_simp; rfl))); (clear st; intro b8 w hb st; clear hb))); (try simp only [nsl, Value.cells, unB] at st); (try clear hc); have hc := st.facts; (try simp only [nfl, nft, elI, elF, Nat.reduceAdd] at hc))
                    go_roundg (ky - (j + 1))
                    case measure => omega
                    case rel => exact ⟨j + 1, _, true, by omega, by omega, rfl, by go_num, HB2, Lib.hid (fun _ h => by cases h), st⟩
              · obtain rfl : j = ky := by omega
                have HALL : Hid (bd = !(y.all dgB)) := Lib.hid (by rw [HB.out, List.take_of_length_le (by have := HKY.out; omega)])
                have HNV : Hid (j ≤ 2 → bd = false → nv = (digV y : Int)) := Lib.hid (by have := HV.out; rwa [List.take_of_length_le (by have := HKY.out; omega)] at this)
                clear HB HV
                by_cases hy : y = []
                · have hyb : (y == []) = true := by rw [hy]; rfl
                  have HRN : Hid (res = none) := Lib.hid (by rw [← HJ.out, digP_no (by rw [hy]; decide)]; rfl)
                  clear HJ hy
                  (try simp only [nsl, Value.cells, unB] at st)
                  (try clear hc); have hc := st.facts; (try simp only [nfl, nft, elI, elF, Nat.reduceAdd] at hc)
                  go_wp2_with ((first
                        | ((with_reducible refine wl_alloc ?_ (fun K hK => ?_)); rfl; refine owp_alloc (o := ⟨some 2, _, _, _, _, _⟩) rfl st ?_; apply Exists.intro; apply Exists.intro; refine ⟨?_, ?_⟩; (focus (first | (go_simp; done) | (go_simp; rfl))); (clear st; intro b2 w hb st; clear hb))
                        | ((with_reducible refine wl_store ?_ (fun K hK => ?_)); rfl; refine owp_store rfl st ?_; apply Exists.intro; apply Exists.intro; refine ⟨?_, ?_, ?_⟩; (focus (go_simp; try rfl)); (focus (go_simp; try rfl)); (first | (with_reducible refine ⟨0, _, _, _, _, get0, rfl, rfl, ?_, ?_, ?_, ?_⟩) | (with_reducible refine ⟨1, _, _, _, _, get1, rfl, rfl, ?_, ?_, ?_, ?_⟩) | (with_reducible refine ⟨2, _, _, _, _, get2, rfl, rfl, ?_, ?_, ?_, ?_⟩) | (with_reducible refine ⟨3, _, _, _, _, get3, rfl, rfl, ?_, ?_, ?_, ?_⟩) | (with_reducible refine ⟨4, _, _, _, _, get4, rfl, rfl, ?_, ?_, ?_, ?_⟩) | (with_reducible refine ⟨5, _, _, _, _, get5, rfl, rfl, ?_, ?_, ?_, ?_⟩) | (with_reducible refine ⟨6, _, _, _, _, get6, rfl, rfl, ?_, ?_, ?_, ?_⟩)); (kernel_rfl); (simp [Value.cells]); (rfl); (clear st; intro w st))
                        | ((with_reducible refine wl_alloc ?_ (fun K hK => ?_)); rfl; refine owp_alloc (o := ⟨some 4, _, _, _, _, _⟩) rfl st ?_; apply Exists.intro; apply Exists.intro; refine ⟨?_, ?_⟩; (focus (first | (go_simp; done) | (go_simp; rfl))); (clear st; intro b4 w hb st; clear hb))
                        | ((with_reducible refine wl_alloc ?_ (fun K hK => ?_)); rfl; refine owp_alloc (o := ⟨some 8, _, _, _, _, _⟩) rfl st ?_; apply Exists.intro; apply Exists.intro; refine ⟨?_, ?_⟩; (focus (first | (go_simp; done) | (go_simp; rfl))); (clear st; intro b8 w hb st; clear hb))); (try simp only [nsl, Value.cells, unB] at st); (try clear hc); have hc := st.facts; (try simp only [nfl, nft, elI, elF, Nat.reduceAdd] at hc))
                  obtain ⟨fr', al', st', back⟩ := st.sub [0, 1] (by decide) (by simp)
                  (try simp only [nsl, Value.cells, unB] at st')
                  refine (HL.out _ _ _ _ _ _ _ _ _ HTL2.out (fun h => by cases h) HC2.out st').mono ?_
                  clear st'
                  rintro en w ⟨va, q, vc, gs, bad1, a1, n1, c1, t2, rfl, hcap, hc1, ht1, hl1, hr1, st'⟩
                  have HCAP := Lib.hid hcap
                  have HC1 := Lib.hid hc1
                  have HT1 := Lib.hid ht1
                  have HLE : Hid (t2.length ≤ (m2 + 1) + 1) := Lib.hid (by have := HM2.out; omega)
                  have HRI : Hid (RIs false res bad1 (Fo.mk 4 nv ([], []) (gs.map Fm.strip)) t2) := Lib.hid (by have := hr1.bad; subst this; exact .inr HRN.out)
                  clear hcap hc1 ht1 hl1 hr1
                  replace st := back _ _ (by simp) st'
                  clear back st'
                  (try simp only [nsl, Value.cells, unB] at st)
                  (try clear hc); have hc := st.facts; (try simp only [nfl, nft, elI, elF, Nat.reduceAdd] at hc)
                  go_wp2_with ((first
                        | ((with_reducible refine wl_alloc ?_ (fun K hK => ?_)); rfl; refine owp_alloc (o := ⟨some 2, _, _, _, _, _⟩) rfl st ?_; apply Exists.intro; apply Exists.intro; refine ⟨?_, ?_⟩; (focus (first | (go_simp; done) | (go_simp; rfl))); (clear st; intro b2 w hb st; clear hb))
                        | ((with_reducible refine wl_store ?_ (fun K hK => ?_)); rfl; refine owp_store rfl st ?_; apply Exists.intro; apply Exists.intro; refine ⟨?_, ?_, ?_⟩; (focus (go_simp; try rfl)); (focus (go_simp; try rfl)); (first | (with_reducible refine ⟨0, _, _, _, _, get0, rfl, rfl, ?_, ?_, ?_, ?_⟩) | (with_reducible refine ⟨1, _, _, _, _, get1, rfl, rfl, ?_, ?_, ?_, ?_⟩) | (with_reducible refine ⟨2, _, _, _, _, get2, rfl, rfl, ?_, ?_, ?_, ?_⟩) | (with_reducible refine ⟨3, _, _, _, _, get3, rfl, rfl, ?_, ?_, ?_, ?_⟩) | (with_reducible refine ⟨4, _, _, _, _, get4, rfl, rfl, ?_, ?_, ?_, ?_⟩) | (with_reducible refine ⟨5, _, _, _, _, get5, rfl, rfl, ?_, ?_, ?_, ?_⟩) | (with_reducible refine ⟨6, _, _, _, _, get6, rfl, rfl, ?_, ?_, ?_, ?_⟩)); (kernel_rfl); (simp [Value.cells]); (rfl); (clear st; intro w st))
                        | ((with_reducible refine wl_alloc ?_ (fun K hK => ?_)); rfl; refine owp_alloc (o := ⟨some 4, _, _, _, _, _⟩) rfl st ?_; apply Exists.intro; apply Exists.intro; refine ⟨?_, ?_⟩; (focus (first | (go_simp; done) | (go_simp; rfl))); (clear st; intro b4 w hb st; clear hb))
                        | ((with_reducible refine wl_alloc ?_ (fun K hK => ?_)); rfl; refine owp_alloc (o := ⟨some 8, _, _, _, _, _⟩) rfl st ?_; apply Exists.intro; apply Exists.intro; refine ⟨?_, ?_⟩; (focus (first | (go_simp; done) | (go_simp; rfl))); (clear st; intro b8 w hb st; clear hb))); (try simp only [nsl, Value.cells, unB] at st); (try clear hc); have hc := st.facts; (try simp only [nfl, nft, elI, elF, Nat.reduceAdd] at hc))
                  (try simp only [Exit.inBlock, Exit.then])
                  refine bodyPost_cell rfl rfl (st.blk (i := 2) get2) Tryz.underlying26 rfl (by kernel_rfl) rfl ?_
                  have st2 := (st.mkFm (i := 3) (j := 4) get3 get4 4 nv ([], []) vc HCAP.out).keep [0, 1, 5] (by decide) (by simp)
                  exact rfGot (.mk 4 nv ([], []) va q vc gs) rfl (by rw [strip_mk]) HC1.out HT1.out HLE.out HRI.out (by simpa [pick, S] using st2)
                · have hyb : (y == []) = false := beq_eq_false_iff_ne.2 hy
                  by_cases hj2 : 2 < j
                  · have hj3 : (2 : Int) < (j : Int) := by omega
                    have HRN : Hid (res = none) := Lib.hid (by rw [← HJ.out, digP_long y (by rw [HKY.out]; exact hj2)]; rfl)
                    clear HJ hy
                    (try simp only [nsl, Value.cells, unB] at st)
                    (try clear hc); have hc := st.facts; (try simp only [nfl, nft, elI, elF, Nat.reduceAdd] at hc)
                    go_wp2_with ((first
                          | ((with_reducible refine wl_alloc ?_ (fun K hK => ?_)); rfl; refine owp_alloc (o := ⟨some 2, _, _, _, _, _⟩) rfl st ?_; apply Exists.intro; apply Exists.intro; refine ⟨?_, ?_⟩; (focus (first | (go_simp; done) | (go_simp; rfl))); (clear st; intro b2 w hb st; clear hb))
                          | ((with_reducible refine wl_store ?_ (fun K hK => ?_)); rfl; refine owp_store rfl st ?_; apply Exists.intro; apply Exists.intro; refine ⟨?_, ?_, ?_⟩; (focus (go_simp; try rfl)); (focus (go_simp; try rfl)); (first | (with_reducible refine ⟨0, _, _, _, _, get0, rfl, rfl, ?_, ?_, ?_, ?_⟩) | (with_reducible refine ⟨1, _, _, _, _, get1, rfl, rfl, ?_, ?_, ?_, ?_⟩) | (with_reducible refine ⟨2, _, _, _, _, get2, rfl, rfl, ?_, ?_, ?_, ?_⟩) | (with_reducible refine ⟨3, _, _, _, _, get3, rfl, rfl, ?_, ?_, ?_, ?_⟩) | (with_reducible refine ⟨4, _, _, _, _, get4, rfl, rfl, ?_, ?_, ?_, ?_⟩) | (with_reducible refine ⟨5, _, _, _, _, get5, rfl, rfl, ?_, ?_, ?_, ?_⟩) | (with_reducible refine ⟨6, _, _, _, _, get6, rfl, rfl, ?_, ?_, ?_, ?_⟩)); (kernel_rfl); (simp [Value.cells]); (rfl); (clear st; intro w st))
                          | ((with_reducible refine wl_alloc ?_ (fun K hK => ?_)); rfl; refine owp_alloc (o := ⟨some 4, _, _, _, _, _⟩) rfl st ?_; apply Exists.intro; apply Exists.intro; refine ⟨?_, ?_⟩; (focus (first | (go_simp; done) | (go_simp; rfl))); (clear st; intro b4 w hb st; clear hb))
                          | ((with_reducible refine wl_alloc ?_ (fun K hK => ?_)); rfl; refine owp_alloc (o := ⟨some 8, _, _, _, _, _⟩) rfl st ?_; apply Exists.intro; apply Exists.intro; refine ⟨?_, ?_⟩; (focus (first | (go_simp; done) | (go_simp; rfl))); (clear st; intro b8 w hb st; clear hb))); (try simp only [nsl, Value.cells, unB] at st); (try clear hc); have hc := st.facts; (try simp only [nfl, nft, elI, elF, Nat.reduceAdd] at hc))
                    obtain ⟨fr', al', st', back⟩ := st.sub [0, 1] (by decide) (by simp)
                    (try simp only [nsl, Value.cells, unB] at st')
                    refine (HL.out _ _ _ _ _ _ _ _ _ HTL2.out (fun h => by cases h) HC2.out st').mono ?_
                    clear st'
                    rintro en w ⟨va, q, vc, gs, bad1, a1, n1, c1, t2, rfl, hcap, hc1, ht1, hl1, hr1, st'⟩
                    have HCAP := Lib.hid hcap
                    have HC1 := Lib.hid hc1
                    have HT1 := Lib.hid ht1
                    have HLE : Hid (t2.length ≤ (m2 + 1) + 1) := Lib.hid (by have := HM2.out; omega)
                    have HRI : Hid (RIs false res bad1 (Fo.mk 4 nv ([], []) (gs.map Fm.strip)) t2) := Lib.hid (by have := hr1.bad; subst this; exact .inr HRN.out)
                    clear hcap hc1 ht1 hl1 hr1
                    replace st := back _ _ (by simp) st'
                    clear back st'
                    (try simp only [nsl, Value.cells, unB] at st)
                    (try clear hc); have hc := st.facts; (try simp only [nfl, nft, elI, elF, Nat.reduceAdd] at hc)
                    go_wp2_with ((first
                          | ((with_reducible refine wl_alloc ?_ (fun K hK => ?_)); rfl; refine owp_alloc (o := ⟨some 2, _, _, _, _, _⟩) rfl st ?_; apply Exists.intro; apply Exists.intro; refine ⟨?_, ?_⟩; (focus (first | (go_simp; done) | (go_simp; rfl))); (clear st; intro b2 w hb st; clear hb))
                          | ((with_reducible refine wl_store ?_ (fun K hK => ?_)); rfl; refine owp_store rfl st ?_; apply Exists.intro; apply Exists.intro; refine ⟨?_, ?_, ?_⟩; (focus (go_simp; try rfl)); (focus (go_simp; try rfl)); (first | (with_reducible refine ⟨0, _, _, _, _, get0, rfl, rfl, ?_, ?_, ?_, ?_⟩) | (with_reducible refine ⟨1, _, _, _, _, get1, rfl, rfl, ?_, ?_, ?_, ?_⟩) | (with_reducible refine ⟨2, _, _, _, _, get2, rfl, rfl, ?_, ?_, ?_, ?_⟩) | (with_reducible refine ⟨3, _, _, _, _, get3, rfl, rfl, ?_, ?_, ?_, ?_⟩) | (with_reducible refine ⟨4, _, _, _, _, get4, rfl, rfl, ?_, ?_, ?_, ?_⟩) | (with_reducible refine ⟨5, _, _, _, _, get5, rfl, rfl, ?_, ?_, ?_, ?_⟩) | (with_reducible refine ⟨6, _, _, _, _, get6, rfl, rfl, ?_, ?_, ?_, ?_⟩)); (kernel_rfl); (simp [Value.cells]); (rfl); (clear st; intro w st))
                          | ((with_reducible refine wl_alloc ?_ (fun K hK => ?_)); rfl; refine owp_alloc (o := ⟨some 4, _, _, _, _, _⟩) rfl st ?_; apply Exists.intro; apply Exists.intro; refine ⟨?_, ?_⟩; (focus (first | (go_simp; done) | (go_simp; rfl))); (clear st; intro b4 w hb st; clear hb))
                          | ((with_reducible refine wl_alloc ?_ (fun K hK => ?_)); rfl; refine owp_alloc (o := ⟨some 8, _, _, _, _, _⟩) rfl st ?_; apply Exists.intro; apply Exists.intro; refine ⟨?_, ?_⟩; (focus (first | (go_simp; done) | (go_simp; rfl))); (clear st; intro b8 w hb st; clear hb))); (try simp only [nsl, Value.cells, unB] at st); (try clear hc); have hc := st.facts; (try simp only [nfl, nft, elI, elF, Nat.reduceAdd] at hc))
                    (try simp only [Exit.inBlock, Exit.then])
                    refine bodyPost_cell rfl rfl (st.blk (i := 2) get2) Tryz.underlying26 rfl (by kernel_rfl) rfl ?_
                    have st2 := (st.mkFm (i := 3) (j := 4) get3 get4 4 nv ([], []) vc HCAP.out).keep [0, 1, 5] (by decide) (by simp)
                    exact rfGot (.mk 4 nv ([], []) va q vc gs) rfl (by rw [strip_mk]) HC1.out HT1.out HLE.out HRI.out (by simpa [pick, S] using st2)
                  · have hj3 : ¬ (2 : Int) < (j : Int) := by omega
                    obtain ⟨d0, y2, rfl⟩ : ∃ d y2, y = d :: y2 := List.exists_cons_of_ne_nil hy
                    have hg0 : ∀ h, (⟨(d0 :: y2).toArray⟩ : ByteArray)[0]'h = d0 := fun h => ba_get _ _ h
                    have HOK := Lib.hid (digOk_c HKY.out hj2)
                    have hj0 : 0 < j := by have := HKY.out; rw [List.length_cons] at this; omega
                    clear hy
                    have HD0 := Lib.hid (show d0 = 48 ↔ d0.toNat = 48 from ⟨fun h => by rw [h]; rfl, fun h => UInt8.toNat_inj.1 h⟩)
                    by_cases hj22 : j = 2
                    · have hjb : ((j : Int) == 2) = true := beq_iff_eq.2 (by omega)
                      by_cases hd0 : d0.toNat = 48
                      · have hdb : ((d0.toNat : Int) == 48) = true := beq_iff_eq.2 (by omega)
                        have HRN : Hid (res = none) := Lib.hid (by
                          rw [← HJ.out, digP_no (by rw [HOK.out, decide_eq_true hj22, decide_eq_true (HD0.out.2 hd0)]; simp)]; rfl)
                        clear HJ hd0 hj22
                        (try simp only [nsl, Value.cells, unB] at st)
                        (try clear hc); have hc := st.facts; (try simp only [nfl, nft, elI, elF, Nat.reduceAdd] at hc)
                        go_wp2_with ((first
                              | ((with_reducible refine wl_alloc ?_ (fun K hK => ?_)); rfl; refine owp_alloc (o := ⟨some 2, _, _, _, _, _⟩) rfl st ?_; apply Exists.intro; apply Exists.intro; refine ⟨?_, ?_⟩; (focus (first | (go_simp; done) | (go_simp; rfl))); (clear st; intro b2 w hb st; clear hb))
                              | ((with_reducible refine wl_store ?_ (fun K hK => ?_)); rfl; refine owp_store rfl st ?_; apply Exists.intro; apply Exists.intro; refine ⟨?_, ?_, ?_⟩; (focus (go_simp; try rfl)); (focus (go_simp; try rfl)); (first | (with_reducible refine ⟨0, _, _, _, _, get0, rfl, rfl, ?_, ?_, ?_, ?_⟩) | (with_reducible refine ⟨1, _, _, _, _, get1, rfl, rfl, ?_, ?_, ?_, ?_⟩) | (with_reducible refine ⟨2, _, _, _, _, get2, rfl, rfl, ?_, ?_, ?_, ?_⟩) | (with_reducible refine ⟨3, _, _, _, _, get3, rfl, rfl, ?_, ?_, ?_, ?_⟩) | (with_reducible refine ⟨4, _, _, _, _, get4, rfl, rfl, ?_, ?_, ?_, ?_⟩) | (with_reducible refine ⟨5, _, _, _, _, get5, rfl, rfl, ?_, ?_, ?_, ?_⟩) | (with_reducible refine ⟨6, _, _, _, _, get6, rfl, rfl, ?_, ?_, ?_, ?_⟩)); (kernel_rfl); (simp [Value.cells]); (rfl); (clear st; intro w st))
                              | ((with_reducible refine wl_alloc ?_ (fun K hK => ?_)); rfl; refine owp_alloc (o := ⟨some 4, _, _, _, _, _⟩) rfl st ?_; apply Exists.intro; apply Exists.intro; refine ⟨?_, ?_⟩; (focus (first | (go_simp; done) | (go_simp; rfl))); (clear st; intro b4 w hb st; clear hb))
                              | ((with_reducible refine wl_alloc ?_ (fun K hK => ?_)); rfl; refine owp_alloc (o := ⟨some 8, _, _, _, _, _⟩) rfl st ?_; apply Exists.intro; apply Exists.intro; refine ⟨?_, ?_⟩; (focus (first | (go_simp; done) | (go_simp; rfl))); (clear st; intro b8 w hb st; clear hb))); (try simp only [nsl, Value.cells, unB] at st); (try clear hc); have hc := st.facts; (try simp only [nfl, nft, elI, elF, Nat.reduceAdd] at hc))
                        obtain ⟨fr', al', st', back⟩ := st.sub [0, 1] (by decide) (by simp)
                        (try simp only [nsl, Value.cells, unB] at st')
                        refine (HL.out _ _ _ _ _ _ _ _ _ HTL2.out (fun h => by cases h) HC2.out st').mono ?_
                        clear st'
                        rintro en w ⟨va, q, vc, gs, bad1, a1, n1, c1, t2, rfl, hcap, hc1, ht1, hl1, hr1, st'⟩
                        have HCAP := Lib.hid hcap
                        have HC1 := Lib.hid hc1
                        have HT1 := Lib.hid ht1
                        have HLE : Hid (t2.length ≤ (m2 + 1) + 1) := Lib.hid (by have := HM2.out; omega)
                        have HRI : Hid (RIs false res bad1 (Fo.mk 4 nv ([], []) (gs.map Fm.strip)) t2) := Lib.hid (by have := hr1.bad; subst this; exact .inr HRN.out)
                        clear hcap hc1 ht1 hl1 hr1
                        replace st := back _ _ (by simp) st'
                        clear back st'
                        (try simp only [nsl, Value.cells, unB] at st)
                        (try clear hc); have hc := st.facts; (try simp only [nfl, nft, elI, elF, Nat.reduceAdd] at hc)
                        go_wp2_with ((first
                              | ((with_reducible refine wl_alloc ?_ (fun K hK => ?_)); rfl; refine owp_alloc (o := ⟨some 2, _, _, _, _, _⟩) rfl st ?_; apply Exists.intro; apply Exists.intro; refine ⟨?_, ?_⟩; (focus (first | (go_simp; done) | (go_simp; rfl))); (clear st; intro b2 w hb st; clear hb))
                              | ((with_reducible refine wl_store ?_ (fun K hK => ?_)); rfl; refine owp_store rfl st ?_; apply Exists.intro; apply Exists.intro; refine ⟨?_, ?_, ?_⟩; (focus (go_simp; try rfl)); (focus (go_simp; try rfl)); (first | (with_reducible refine ⟨0, _, _, _, _, get0, rfl, rfl, ?_, ?_, ?_, ?_⟩) | (with_reducible refine ⟨1, _, _, _, _, get1, rfl, rfl, ?_, ?_, ?_, ?_⟩) | (with_reducible refine ⟨2, _, _, _, _, get2, rfl, rfl, ?_, ?_, ?_, ?_⟩) | (with_reducible refine ⟨3, _, _, _, _, get3, rfl, rfl, ?_, ?_, ?_, ?_⟩) | (with_reducible refine ⟨4, _, _, _, _, get4, rfl, rfl, ?_, ?_, ?_, ?_⟩) | (with_reducible refine ⟨5, _, _, _, _, get5, rfl, rfl, ?_, ?_, ?_, ?_⟩) | (with_reducible refine ⟨6, _, _, _, _, get6, rfl, rfl, ?_, ?_, ?_, ?_⟩)); (kernel_rfl); (simp [Value.cells]); (rfl); (clear st; intro w st))
                              | ((with_reducible refine wl_alloc ?_ (fun K hK => ?_)); rfl; refine owp_alloc (o := ⟨some 4, _, _, _, _, _⟩) rfl st ?_; apply Exists.intro; apply Exists.intro; refine ⟨?_, ?_⟩; (focus (first | (go_simp; done) | (go_simp; rfl))); (clear st; intro b4 w hb st; clear hb))
                              | ((with_reducible refine wl_alloc ?_ (fun K hK => ?_)); rfl; refine owp_alloc (o := ⟨some 8, _, _, _, _, _⟩) rfl st ?_; apply Exists.intro; apply Exists.intro; refine ⟨?_, ?_⟩; (focus (first | (go_simp; done) | (go_simp; rfl))); (clear st; intro b8 w hb st; clear hb))); (try simp only [nsl, Value.cells, unB] at st); (try clear hc); have hc := st.facts; (try simp only [nfl, nft, elI, elF, Nat.reduceAdd] at hc))
                        (try simp only [Exit.inBlock, Exit.then])
                        refine bodyPost_cell rfl rfl (st.blk (i := 2) get2) Tryz.underlying26 rfl (by kernel_rfl) rfl ?_
                        have st2 := (st.mkFm (i := 3) (j := 4) get3 get4 4 nv ([], []) vc HCAP.out).keep [0, 1, 5] (by decide) (by simp)
                        exact rfGot (.mk 4 nv ([], []) va q vc gs) rfl (by rw [strip_mk]) HC1.out HT1.out HLE.out HRI.out (by simpa [pick, S] using st2)
                      · have hdb : ((d0.toNat : Int) == 48) = false := beq_eq_false_iff_ne.2 (by omega)
                        have HOK2 : Hid (digOk (d0 :: y2) = (d0 :: y2).all dgB) := Lib.hid (by
                          rw [HOK.out, decide_eq_false (p := d0 = 48) (fun h => hd0 (HD0.out.1 h))]; simp)
                        clear hd0 hj22
                        cases bd with
                        | true =>
                          have HRN : Hid (res = none) := Lib.hid (by
                            rw [← HJ.out, digP_no (by rw [HOK2.out]; exact Eq.mp (Bool.not_eq_true' _) HALL.out.symm)]; rfl)
                          clear HJ
                          (try simp only [nsl, Value.cells, unB] at st)
                          (try clear hc); have hc := st.facts; (try simp only [nfl, nft, elI, elF, Nat.reduceAdd] at hc)
                          go_wp2_with ((first
                                | ((with_reducible refine wl_alloc ?_ (fun K hK => ?_)); rfl; refine owp_alloc (o := ⟨some 2, _, _, _, _, _⟩) rfl st ?_; apply Exists.intro; apply Exists.intro; refine ⟨?_, ?_⟩; (focus (first | (go_simp; done) | (go_simp; rfl))); (clear st; intro b2 w hb st; clear hb))
                                | ((with_reducible refine wl_store ?_ (fun K hK => ?_)); rfl; refine owp_store rfl st ?_; apply Exists.intro; apply Exists.intro; refine ⟨?_, ?_, ?_⟩; (focus (go_simp; try rfl)); (focus (go_simp; try rfl)); (first | (with_reducible refine ⟨0, _, _, _, _, get0, rfl, rfl, ?_, ?_, ?_, ?_⟩) | (with_reducible refine ⟨1, _, _, _, _, get1, rfl, rfl, ?_, ?_, ?_, ?_⟩) | (with_reducible refine ⟨2, _, _, _, _, get2, rfl, rfl, ?_, ?_, ?_, ?_⟩) | (with_reducible refine ⟨3, _, _, _, _, get3, rfl, rfl, ?_, ?_, ?_, ?_⟩) | (with_reducible refine ⟨4, _, _, _, _, get4, rfl, rfl, ?_, ?_, ?_, ?_⟩) | (with_reducible refine ⟨5, _, _, _, _, get5, rfl, rfl, ?_, ?_, ?_, ?_⟩) | (with_reducible refine ⟨6, _, _, _, _, get6, rfl, rfl, ?_, ?_, ?_, ?_⟩)); (kernel_rfl); (simp [Value.cells]); (rfl); (clear st; intro w st))
                                | ((with_reducible refine wl_alloc ?_ (fun K hK => ?_)); rfl; refine owp_alloc (o := ⟨some 4, _, _, _, _, _⟩) rfl st ?_; apply Exists.intro; apply Exists.intro; refine ⟨?_, ?_⟩; (focus (first | (go_simp; done) | (go_simp; rfl))); (clear st; intro b4 w hb st; clear hb))
                                | ((with_reducible refine wl_alloc ?_ (fun K hK => ?_)); rfl; refine owp_alloc (o := ⟨some 8, _, _, _, _, _⟩) rfl st ?_; apply Exists.intro; apply Exists.intro; refine ⟨?_, ?_⟩; (focus (first | (go_simp; done) | (go_simp; rfl))); (clear st; intro b8 w hb st; clear hb))); (try simp only [nsl, Value.cells, unB] at st); (try clear hc); have hc := st.facts; (try simp only [nfl, nft, elI, elF, Nat.reduceAdd] at hc))
                          obtain ⟨fr', al', st', back⟩ := st.sub [0, 1] (by decide) (by simp)
                          (try simp only [nsl, Value.cells, unB] at st')
                          refine (HL.out _ _ _ _ _ _ _ _ _ HTL2.out (fun h => by cases h) HC2.out st').mono ?_
                          clear st'
                          rintro en w ⟨va, q, vc, gs, bad1, a1, n1, c1, t2, rfl, hcap, hc1, ht1, hl1, hr1, st'⟩
                          have HCAP := Lib.hid hcap
                          have HC1 := Lib.hid hc1
                          have HT1 := Lib.hid ht1
                          have HLE : Hid (t2.length ≤ (m2 + 1) + 1) := Lib.hid (by have := HM2.out; omega)
                          have HRI : Hid (RIs false res bad1 (Fo.mk 4 nv ([], []) (gs.map Fm.strip)) t2) := Lib.hid (by have := hr1.bad; subst this; exact .inr HRN.out)
                          clear hcap hc1 ht1 hl1 hr1
                          replace st := back _ _ (by simp) st'
                          clear back st'
                          (try simp only [nsl, Value.cells, unB] at st)
                          (try clear hc); have hc := st.facts; (try simp only [nfl, nft, elI, elF, Nat.reduceAdd] at hc)
                          go_wp2_with ((first
                                | ((with_reducible refine wl_alloc ?_ (fun K hK => ?_)); rfl; refine owp_alloc (o := ⟨some 2, _, _, _, _, _⟩) rfl st ?_; apply Exists.intro; apply Exists.intro; refine ⟨?_, ?_⟩; (focus (first | (go_simp; done) | (go_simp; rfl))); (clear st; intro b2 w hb st; clear hb))
                                | ((with_reducible refine wl_store ?_ (fun K hK => ?_)); rfl; refine owp_store rfl st ?_; apply Exists.intro; apply Exists.intro; refine ⟨?_, ?_, ?_⟩; (focus (go_simp; try rfl)); (focus (go_simp; try rfl)); (first | (with_reducible refine ⟨0, _, _, _, _, get0, rfl, rfl, ?_, ?_, ?_, ?_⟩) | (with_reducible refine ⟨1, _, _, _, _, get1, rfl, rfl, ?_, ?_, ?_, ?_⟩) | (with_reducible refine ⟨2, _, _, _, _, get2, rfl, rfl, ?_, ?_, ?_, ?_⟩) | (with_reducible refine ⟨3, _, _, _, _, get3, rfl, rfl, ?_, ?_, ?_, ?_⟩) | (with_reducible refine ⟨4, _, _, _, _, get4, rfl, rfl, ?_, ?_, ?_, ?_⟩) | (with_reducible refine ⟨5, _, _, _, _, get5, rfl, rfl, ?_, ?_, ?_, ?_⟩) | (with_reducible refine ⟨6, _, _, _, _, get6, rfl, rfl, ?_, ?_, ?_, ?_⟩)); (kernel_rfl); (simp [Value.cells]); (rfl); (clear st; intro w st))
                                | ((with_reducible refine wl_alloc ?_ (fun K hK => ?_)); rfl; refine owp_alloc (o := ⟨some 4, _, _, _, _, _⟩) rfl st ?_; apply Exists.intro; apply Exists.intro; refine ⟨?_, ?_⟩; (focus (first | (go_simp; done) | (go_simp; rfl))); (clear st; intro b4 w hb st; clear hb))
                                | ((with_reducible refine wl_alloc ?_ (fun K hK => ?_)); rfl; refine owp_alloc (o := ⟨some 8, _, _, _, _, _⟩) rfl st ?_; apply Exists.intro; apply Exists.intro; refine ⟨?_, ?_⟩; (focus (first | (go_simp; done) | (go_simp; rfl))); (clear st; intro b8 w hb st; clear hb))); (try simp only [nsl, Value.cells, unB] at st); (try clear hc); have hc := st.facts; (try simp only [nfl, nft, elI, elF, Nat.reduceAdd] at hc))
                          (try simp only [Exit.inBlock, Exit.then])
                          refine bodyPost_cell rfl rfl (st.blk (i := 2) get2) Tryz.underlying26 rfl (by kernel_rfl) rfl ?_
                          have st2 := (st.mkFm (i := 3) (j := 4) get3 get4 4 nv ([], []) vc HCAP.out).keep [0, 1, 5] (by decide) (by simp)
                          exact rfGot (.mk 4 nv ([], []) va q vc gs) rfl (by rw [strip_mk]) HC1.out HT1.out HLE.out HRI.out (by simpa [pick, S] using st2)
                        | false =>
                          have HDP : Hid (digP (d0 :: y2) = some (digV (d0 :: y2))) := Lib.hid (digP_yes (by rw [HOK2.out]; exact Eq.mp (Bool.not_eq_false' _) HALL.out.symm))
                          have hnv := HNV.out (by omega) rfl
                          generalize digV (d0 :: y2) = dv at *
                          subst hnv
                          (try simp only [nsl, Value.cells, unB] at st)
                          (try clear hc); have hc := st.facts; (try simp only [nfl, nft, elI, elF, Nat.reduceAdd] at hc)
                          go_wp2_with ((first
                                | ((with_reducible refine wl_alloc ?_ (fun K hK => ?_)); rfl; refine owp_alloc (o := ⟨some 2, _, _, _, _, _⟩) rfl st ?_; apply Exists.intro; apply Exists.intro; refine ⟨?_, ?_⟩; (focus (first | (go_simp; done) | (go_simp; rfl))); (clear st; intro b2 w hb st; clear hb))
                                | ((with_reducible refine wl_store ?_ (fun K hK => ?_)); rfl; refine owp_store rfl st ?_; apply Exists.intro; apply Exists.intro; refine ⟨?_, ?_, ?_⟩; (focus (go_simp; try rfl)); (focus (go_simp; try rfl)); (first | (with_reducible refine ⟨0, _, _, _, _, get0, rfl, rfl, ?_, ?_, ?_, ?_⟩) | (with_reducible refine ⟨1, _, _, _, _, get1, rfl, rfl, ?_, ?_, ?_, ?_⟩) | (with_reducible refine ⟨2, _, _, _, _, get2, rfl, rfl, ?_, ?_, ?_, ?_⟩) | (with_reducible refine ⟨3, _, _, _, _, get3, rfl, rfl, ?_, ?_, ?_, ?_⟩) | (with_reducible refine ⟨4, _, _, _, _, get4, rfl, rfl, ?_, ?_, ?_, ?_⟩) | (with_reducible refine ⟨5, _, _, _, _, get5, rfl, rfl, ?_, ?_, ?_, ?_⟩) | (with_reducible refine ⟨6, _, _, _, _, get6, rfl, rfl, ?_, ?_, ?_, ?_⟩)); (kernel_rfl); (simp [Value.cells]); (rfl); (clear st; intro w st))
                                | ((with_reducible refine wl_alloc ?_ (fun K hK => ?_)); rfl; refine owp_alloc (o := ⟨some 4, _, _, _, _, _⟩) rfl st ?_; apply Exists.intro; apply Exists.intro; refine ⟨?_, ?_⟩; (focus (first | (go_simp; done) | (go_simp; rfl))); (clear st; intro b4 w hb st; clear hb))
                                | ((with_reducible refine wl_alloc ?_ (fun K hK => ?_)); rfl; refine owp_alloc (o := ⟨some 8, _, _, _, _, _⟩) rfl st ?_; apply Exists.intro; apply Exists.intro; refine ⟨?_, ?_⟩; (focus (first | (go_simp; done) | (go_simp; rfl))); (clear st; intro b8 w hb st; clear hb))); (try simp only [nsl, Value.cells, unB] at st); (try clear hc); have hc := st.facts; (try simp only [nfl, nft, elI, elF, Nat.reduceAdd] at hc))
                          obtain ⟨fr', al', st', back⟩ := st.sub [0, 1] (by decide) (by simp)
                          (try simp only [nsl, Value.cells, unB] at st')
                          refine (HL.out _ _ _ _ _ _ _ _ _ HTL2.out (fun _ => HLF2.out) HC2.out st').mono ?_
                          clear st'
                          rintro en w ⟨va, q, vc, gs, bad1, a1, n1, c1, t2, rfl, hcap, hc1, ht1, hl1, hr1, st'⟩
                          have HCAP := Lib.hid hcap
                          have HC1 := Lib.hid hc1
                          have HT1 := Lib.hid ht1
                          have HLE : Hid (t2.length ≤ (m2 + 1) + 1) := Lib.hid (by have := HM2.out; omega)
                          have HRI : Hid (RIs false res bad1 (Fo.mk 4 (dv : Int) ([], []) (gs.map Fm.strip)) t2) := Lib.hid (by rw [← HJ.out, HDP.out, Option.bind_some]; exact hr1.map _)
                          clear hcap hc1 ht1 hl1 hr1
                          replace st := back _ _ (by simp) st'
                          clear back st'
                          (try simp only [nsl, Value.cells, unB] at st)
                          (try clear hc); have hc := st.facts; (try simp only [nfl, nft, elI, elF, Nat.reduceAdd] at hc)
                          go_wp2_with ((first
                                | ((with_reducible refine wl_alloc ?_ (fun K hK => ?_)); rfl; refine owp_alloc (o := ⟨some 2, _, _, _, _, _⟩) rfl st ?_; apply Exists.intro; apply Exists.intro; refine ⟨?_, ?_⟩; (focus (first | (go_simp; done) | (go_simp; rfl))); (clear st; intro b2 w hb st; clear hb))
                                | ((with_reducible refine wl_store ?_ (fun K hK => ?_)); rfl; refine owp_store rfl st ?_; apply Exists.intro; apply Exists.intro; refine ⟨?_, ?_, ?_⟩; (focus (go_simp; try rfl)); (focus (go_simp; try rfl)); (first | (with_reducible refine ⟨0, _, _, _, _, get0, rfl, rfl, ?_, ?_, ?_, ?_⟩) | (with_reducible refine ⟨1, _, _, _, _, get1, rfl, rfl, ?_, ?_, ?_, ?_⟩) | (with_reducible refine ⟨2, _, _, _, _, get2, rfl, rfl, ?_, ?_, ?_, ?_⟩) | (with_reducible refine ⟨3, _, _, _, _, get3, rfl, rfl, ?_, ?_, ?_, ?_⟩) | (with_reducible refine ⟨4, _, _, _, _, get4, rfl, rfl, ?_, ?_, ?_, ?_⟩) | (with_reducible refine ⟨5, _, _, _, _, get5, rfl, rfl, ?_, ?_, ?_, ?_⟩) | (with_reducible refine ⟨6, _, _, _, _, get6, rfl, rfl, ?_, ?_, ?_, ?_⟩)); (kernel_rfl); (simp [Value.cells]); (rfl); (clear st; intro w st))
                                | ((with_reducible refine wl_alloc ?_ (fun K hK => ?_)); rfl; refine owp_alloc (o := ⟨some 4, _, _, _, _, _⟩) rfl st ?_; apply Exists.intro; apply Exists.intro; refine ⟨?_, ?_⟩; (focus (first | (go_simp; done) | (go_simp; rfl))); (clear st; intro b4 w hb st; clear hb))
                                | ((with_reducible refine wl_alloc ?_ (fun K hK => ?_)); rfl; refine owp_alloc (o := ⟨some 8, _, _, _, _, _⟩) rfl st ?_; apply Exists.intro; apply Exists.intro; refine ⟨?_, ?_⟩; (focus (first | (go_simp; done) | (go_simp; rfl))); (clear st; intro b8 w hb st; clear hb))); (try simp only [nsl, Value.cells, unB] at st); (try clear hc); have hc := st.facts; (try simp only [nfl, nft, elI, elF, Nat.reduceAdd] at hc))
                          (try simp only [Exit.inBlock, Exit.then])
                          refine bodyPost_cell rfl rfl (st.blk (i := 2) get2) Tryz.underlying26 rfl (by kernel_rfl) rfl ?_
                          have st2 := (st.mkFm (i := 3) (j := 4) get3 get4 4 (dv : Int) ([], []) vc HCAP.out).keep [0, 1, 5] (by decide) (by simp)
                          exact rfGot (.mk 4 (dv : Int) ([], []) va q vc gs) rfl (by rw [strip_mk]) HC1.out HT1.out HLE.out HRI.out (by simpa [pick, S] using st2)
                    · have hjb : ((j : Int) == 2) = false := beq_eq_false_iff_ne.2 (by omega)
                      have HOK2 : Hid (digOk (d0 :: y2) = (d0 :: y2).all dgB) := Lib.hid (by
                        rw [HOK.out, decide_eq_false hj22]; simp)
                      clear hj22
                      cases bd with
                      | true =>
                        have HRN : Hid (res = none) := Lib.hid (by
                          rw [← HJ.out, digP_no (by rw [HOK2.out]; exact Eq.mp (Bool.not_eq_true' _) HALL.out.symm)]; rfl)
                        clear HJ
                        (try simp only [nsl, Value.cells, unB] at st)
                        (try clear hc); have hc := st.facts; (try simp only [nfl, nft, elI, elF, Nat.reduceAdd] at hc)
                        go_wp2_with ((first
                              | ((with_reducible refine wl_alloc ?_ (fun K hK => ?_)); rfl; refine owp_alloc (o := ⟨some 2, _, _, _, _, _⟩) rfl st ?_; apply Exists.intro; apply Exists.intro; refine ⟨?_, ?_⟩; (focus (first | (go_simp; done) | (go_simp; rfl))); (clear st; intro b2 w hb st; clear hb))
                              | ((with_reducible refine wl_store ?_ (fun K hK => ?_)); rfl; refine owp_store rfl st ?_; apply Exists.intro; apply Exists.intro; refine ⟨?_, ?_, ?_⟩; (focus (go_simp; try rfl)); (focus (go_simp; try rfl)); (first | (with_reducible refine ⟨0, _, _, _, _, get0, rfl, rfl, ?_, ?_, ?_, ?_⟩) | (with_reducible refine ⟨1, _, _, _, _, get1, rfl, rfl, ?_, ?_, ?_, ?_⟩) | (with_reducible refine ⟨2, _, _, _, _, get2, rfl, rfl, ?_, ?_, ?_, ?_⟩) | (with_reducible refine ⟨3, _, _, _, _, get3, rfl, rfl, ?_, ?_, ?_, ?_⟩) | (with_reducible refine ⟨4, _, _, _, _, get4, rfl, rfl, ?_, ?_, ?_, ?_⟩) | (with_reducible refine ⟨5, _, _, _, _, get5, rfl, rfl, ?_, ?_, ?_, ?_⟩) | (with_reducible refine ⟨6, _, _, _, _, get6, rfl, rfl, ?_, ?_, ?_, ?_⟩)); (kernel_rfl); (simp [Value.cells]); (rfl); (clear st; intro w st))
                              | ((with_reducible refine wl_alloc ?_ (fun K hK => ?_)); rfl; refine owp_alloc (o := ⟨some 4, _, _, _, _, _⟩) rfl st ?_; apply Exists.intro; apply Exists.intro; refine ⟨?_, ?_⟩; (focus (first | (go_simp; done) | (go_simp; rfl))); (clear st; intro b4 w hb st; clear hb))
                              | ((with_reducible refine wl_alloc ?_ (fun K hK => ?_)); rfl; refine owp_alloc (o := ⟨some 8, _, _, _, _, _⟩) rfl st ?_; apply Exists.intro; apply Exists.intro; refine ⟨?_, ?_⟩; (focus (first | (go_simp; done) | (go_simp; rfl))); (clear st; intro b8 w hb st; clear hb))); (try simp only [nsl, Value.cells, unB] at st); (try clear hc); have hc := st.facts; (try simp only [nfl, nft, elI, elF, Nat.reduceAdd] at hc))
                        obtain ⟨fr', al', st', back⟩ := st.sub [0, 1] (by decide) (by simp)
                        (try simp only [nsl, Value.cells, unB] at st')
                        refine (HL.out _ _ _ _ _ _ _ _ _ HTL2.out (fun h => by cases h) HC2.out st').mono ?_
                        clear st'
                        rintro en w ⟨va, q, vc, gs, bad1, a1, n1, c1, t2, rfl, hcap, hc1, ht1, hl1, hr1, st'⟩
                        have HCAP := Lib.hid hcap
                        have HC1 := Lib.hid hc1
                        have HT1 := Lib.hid ht1
                        have HLE : Hid (t2.length ≤ (m2 + 1) + 1) := Lib.hid (by have := HM2.out; omega)
                        have HRI : Hid (RIs false res bad1 (Fo.mk 4 nv ([], []) (gs.map Fm.strip)) t2) := Lib.hid (by have := hr1.bad; subst this; exact .inr HRN.out)
                        clear hcap hc1 ht1 hl1 hr1
                        replace st := back _ _ (by simp) st'
                        clear back st'
                        (try simp only [nsl, Value.cells, unB] at st)
                        (try clear hc); have hc := st.facts; (try simp only [nfl, nft, elI, elF, Nat.reduceAdd] at hc)
                        go_wp2_with ((first
                              | ((with_reducible refine wl_alloc ?_ (fun K hK => ?_)); rfl; refine owp_alloc (o := ⟨some 2, _, _, _, _, _⟩) rfl st ?_; apply Exists.intro; apply Exists.intro; refine ⟨?_, ?_⟩; (focus (first | (go_simp; done) | (go_simp; rfl))); (clear st; intro b2 w hb st; clear hb))
                              | ((with_reducible refine wl_store ?_ (fun K hK => ?_)); rfl; refine owp_store rfl st ?_; apply Exists.intro; apply Exists.intro; refine ⟨?_, ?_, ?_⟩; (focus (go_simp; try rfl)); (focus (go_simp; try rfl)); (first | (with_reducible refine ⟨0, _, _, _, _, get0, rfl, rfl, ?_, ?_, ?_, ?_⟩) | (with_reducible refine ⟨1, _, _, _, _, get1, rfl, rfl, ?_, ?_, ?_, ?_⟩) | (with_reducible refine ⟨2, _, _, _, _, get2, rfl, rfl, ?_, ?_, ?_, ?_⟩) | (with_reducible refine ⟨3, _, _, _, _, get3, rfl, rfl, ?_, ?_, ?_, ?_⟩) | (with_reducible refine ⟨4, _, _, _, _, get4, rfl, rfl, ?_, ?_, ?_, ?_⟩) | (with_reducible refine ⟨5, _, _, _, _, get5, rfl, rfl, ?_, ?_, ?_, ?_⟩) | (with_reducible refine ⟨6, _, _, _, _, get6, rfl, rfl, ?_, ?_, ?_, ?_⟩)); (kernel_rfl); (simp [Value.cells]); (rfl); (clear st; intro w st))
                              | ((with_reducible refine wl_alloc ?_ (fun K hK => ?_)); rfl; refine owp_alloc (o := ⟨some 4, _, _, _, _, _⟩) rfl st ?_; apply Exists.intro; apply Exists.intro; refine ⟨?_, ?_⟩; (focus (first | (go_simp; done) | (go_simp; rfl))); (clear st; intro b4 w hb st; clear hb))
                              | ((with_reducible refine wl_alloc ?_ (fun K hK => ?_)); rfl; refine owp_alloc (o := ⟨some 8, _, _, _, _, _⟩) rfl st ?_; apply Exists.intro; apply Exists.intro; refine ⟨?_, ?_⟩; (focus (first | (go_simp; done) | (go_simp; rfl))); (clear st; intro b8 w hb st; clear hb))); (try simp only [nsl, Value.cells, unB] at st); (try clear hc); have hc := st.facts; (try simp only [nfl, nft, elI, elF, Nat.reduceAdd] at hc))
                        (try simp only [Exit.inBlock, Exit.then])
                        refine bodyPost_cell rfl rfl (st.blk (i := 2) get2) Tryz.underlying26 rfl (by kernel_rfl) rfl ?_
                        have st2 := (st.mkFm (i := 3) (j := 4) get3 get4 4 nv ([], []) vc HCAP.out).keep [0, 1, 5] (by decide) (by simp)
                        exact rfGot (.mk 4 nv ([], []) va q vc gs) rfl (by rw [strip_mk]) HC1.out HT1.out HLE.out HRI.out (by simpa [pick, S] using st2)
                      | false =>
                        have HDP : Hid (digP (d0 :: y2) = some (digV (d0 :: y2))) := Lib.hid (digP_yes (by rw [HOK2.out]; exact Eq.mp (Bool.not_eq_false' _) HALL.out.symm))
                        have hnv := HNV.out (by omega) rfl
                        generalize digV (d0 :: y2) = dv at *
                        subst hnv
                        (try simp only [nsl, Value.cells, unB] at st)
                        (try clear hc); have hc := st.facts; (try simp only [nfl, nft, elI, elF, Nat.reduceAdd] at hc)
                        go_wp2_with ((first
                              | ((with_reducible refine wl_alloc ?_ (fun K hK => ?_)); rfl; refine owp_alloc (o := ⟨some 2, _, _, _, _, _⟩) rfl st ?_; apply Exists.intro; apply Exists.intro; refine ⟨?_, ?_⟩; (focus (first | (go_simp; done) | (go_simp; rfl))); (clear st; intro b2 w hb st; clear hb))
                              | ((with_reducible refine wl_store ?_ (fun K hK => ?_)); rfl; refine owp_store rfl st ?_; apply Exists.intro; apply Exists.intro; refine ⟨?_, ?_, ?_⟩; (focus (go_simp; try rfl)); (focus (go_simp; try rfl)); (first | (with_reducible refine ⟨0, _, _, _, _, get0, rfl, rfl, ?_, ?_, ?_, ?_⟩) | (with_reducible refine ⟨1, _, _, _, _, get1, rfl, rfl, ?_, ?_, ?_, ?_⟩) | (with_reducible refine ⟨2, _, _, _, _, get2, rfl, rfl, ?_, ?_, ?_, ?_⟩) | (with_reducible refine ⟨3, _, _, _, _, get3, rfl, rfl, ?_, ?_, ?_, ?_⟩) | (with_reducible refine ⟨4, _, _, _, _, get4, rfl, rfl, ?_, ?_, ?_, ?_⟩) | (with_reducible refine ⟨5, _, _, _, _, get5, rfl, rfl, ?_, ?_, ?_, ?_⟩) | (with_reducible refine ⟨6, _, _, _, _, get6, rfl, rfl, ?_, ?_, ?_, ?_⟩)); (kernel_rfl); (simp [Value.cells]); (rfl); (clear st; intro w st))
                              | ((with_reducible refine wl_alloc ?_ (fun K hK => ?_)); rfl; refine owp_alloc (o := ⟨some 4, _, _, _, _, _⟩) rfl st ?_; apply Exists.intro; apply Exists.intro; refine ⟨?_, ?_⟩; (focus (first | (go_simp; done) | (go_simp; rfl))); (clear st; intro b4 w hb st; clear hb))
                              | ((with_reducible refine wl_alloc ?_ (fun K hK => ?_)); rfl; refine owp_alloc (o := ⟨some 8, _, _, _, _, _⟩) rfl st ?_; apply Exists.intro; apply Exists.intro; refine ⟨?_, ?_⟩; (focus (first | (go_simp; done) | (go_simp; rfl))); (clear st; intro b8 w hb st; clear hb))); (try simp only [nsl, Value.cells, unB] at st); (try clear hc); have hc := st.facts; (try simp only [nfl, nft, elI, elF, Nat.reduceAdd] at hc))
                        obtain ⟨fr', al', st', back⟩ := st.sub [0, 1] (by decide) (by simp)
                        (try simp only [nsl, Value.cells, unB] at st')
                        refine (HL.out _ _ _ _ _ _ _ _ _ HTL2.out (fun _ => HLF2.out) HC2.out st').mono ?_
                        clear st'
                        rintro en w ⟨va, q, vc, gs, bad1, a1, n1, c1, t2, rfl, hcap, hc1, ht1, hl1, hr1, st'⟩
                        have HCAP := Lib.hid hcap
                        have HC1 := Lib.hid hc1
                        have HT1 := Lib.hid ht1
                        have HLE : Hid (t2.length ≤ (m2 + 1) + 1) := Lib.hid (by have := HM2.out; omega)
                        have HRI : Hid (RIs false res bad1 (Fo.mk 4 (dv : Int) ([], []) (gs.map Fm.strip)) t2) := Lib.hid (by rw [← HJ.out, HDP.out, Option.bind_some]; exact hr1.map _)
                        clear hcap hc1 ht1 hl1 hr1
                        replace st := back _ _ (by simp) st'
                        clear back st'
                        (try simp only [nsl, Value.cells, unB] at st)
                        (try clear hc); have hc := st.facts; (try simp only [nfl, nft, elI, elF, Nat.reduceAdd] at hc)
                        go_wp2_with ((first
                              | ((with_reducible refine wl_alloc ?_ (fun K hK => ?_)); rfl; refine owp_alloc (o := ⟨some 2, _, _, _, _, _⟩) rfl st ?_; apply Exists.intro; apply Exists.intro; refine ⟨?_, ?_⟩; (focus (first | (go_simp; done) | (go_simp; rfl))); (clear st; intro b2 w hb st; clear hb))
                              | ((with_reducible refine wl_store ?_ (fun K hK => ?_)); rfl; refine owp_store rfl st ?_; apply Exists.intro; apply Exists.intro; refine ⟨?_, ?_, ?_⟩; (focus (go_simp; try rfl)); (focus (go_simp; try rfl)); (first | (with_reducible refine ⟨0, _, _, _, _, get0, rfl, rfl, ?_, ?_, ?_, ?_⟩) | (with_reducible refine ⟨1, _, _, _, _, get1, rfl, rfl, ?_, ?_, ?_, ?_⟩) | (with_reducible refine ⟨2, _, _, _, _, get2, rfl, rfl, ?_, ?_, ?_, ?_⟩) | (with_reducible refine ⟨3, _, _, _, _, get3, rfl, rfl, ?_, ?_, ?_, ?_⟩) | (with_reducible refine ⟨4, _, _, _, _, get4, rfl, rfl, ?_, ?_, ?_, ?_⟩) | (with_reducible refine ⟨5, _, _, _, _, get5, rfl, rfl, ?_, ?_, ?_, ?_⟩) | (with_reducible refine ⟨6, _, _, _, _, get6, rfl, rfl, ?_, ?_, ?_, ?_⟩)); (kernel_rfl); (simp [Value.cells]); (rfl); (clear st; intro w st))
                              | ((with_reducible refine wl_alloc ?_ (fun K hK => ?_)); rfl; refine owp_alloc (o := ⟨some 4, _, _, _, _, _⟩) rfl st ?_; apply Exists.intro; apply Exists.intro; refine ⟨?_, ?_⟩; (focus (first | (go_simp; done) | (go_simp; rfl))); (clear st; intro b4 w hb st; clear hb))
                              | ((with_reducible refine wl_alloc ?_ (fun K hK => ?_)); rfl; refine owp_alloc (o := ⟨some 8, _, _, _, _, _⟩) rfl st ?_; apply Exists.intro; apply Exists.intro; refine ⟨?_, ?_⟩; (focus (first | (go_simp; done) | (go_simp; rfl))); (clear st; intro b8 w hb st; clear hb))); (try simp only [nsl, Value.cells, unB] at st); (try clear hc); have hc := st.facts; (try simp only [nfl, nft, elI, elF, Nat.reduceAdd] at hc))
                        (try simp only [Exit.inBlock, Exit.then])
                        refine bodyPost_cell rfl rfl (st.blk (i := 2) get2) Tryz.underlying26 rfl (by kernel_rfl) rfl ?_
                        have st2 := (st.mkFm (i := 3) (j := 4) get3 get4 4 (dv : Int) ([], []) vc HCAP.out).keep [0, 1, 5] (by decide) (by simp)
                        exact rfGot (.mk 4 (dv : Int) ([], []) va q vc gs) rfl (by rw [strip_mk]) HC1.out HT1.out HLE.out HRI.out (by simpa [pick, S] using st2)
        · have h4b : (x == [97, 116]) = false := beq_eq_false_iff_ne.2 h4
          replace HJ := Lib.hid ((oneF_role (one := one) h1 h2 h3 h4 l).symm.trans HJ.out)
          have HP := Lib.hid (fun W' => refParse_any x W' HXL.out)
          clear h1 h2 h3 h4
          unfold S at HP
          cases hr : roleP x with
          | none =>
            rw [hr] at HP HJ
            obtain ⟨r, hr1⟩ : ∃ r, roleP1 x = r := ⟨_, rfl⟩
            rw [hr1] at HP
            obtain ⟨o', d'⟩ := r
            unfold rV S at HP
            simp only [Option.isSome_none] at HP
            have HRI : Hid (RIs false res true (Fo.mk 1 0 (o', d') []) l) := Lib.hid (.inr HJ.out.symm)
            clear hr hr1
            (try simp only [nsl, Value.cells, unB] at st)
            (try clear hc); have hc := st.facts; (try simp only [nfl, nft, elI, elF, Nat.reduceAdd] at hc)
            go_enter Tryz.func41, Tryz.ntmps41
            go_wp2_with ((first
                  | ((with_reducible refine wl_alloc ?_ (fun K hK => ?_)); rfl; refine owp_alloc (o := ⟨some 2, _, _, _, _, _⟩) rfl st ?_; apply Exists.intro; apply Exists.intro; refine ⟨?_, ?_⟩; (focus (first | (go_simp; done) | (go_simp; rfl))); (clear st; intro b2 w hb st; clear hb))
                  | ((with_reducible refine wl_store ?_ (fun K hK => ?_)); rfl; refine owp_store rfl st ?_; apply Exists.intro; apply Exists.intro; refine ⟨?_, ?_, ?_⟩; (focus (go_simp; try rfl)); (focus (go_simp; try rfl)); (first | (with_reducible refine ⟨0, _, _, _, _, get0, rfl, rfl, ?_, ?_, ?_, ?_⟩) | (with_reducible refine ⟨1, _, _, _, _, get1, rfl, rfl, ?_, ?_, ?_, ?_⟩) | (with_reducible refine ⟨2, _, _, _, _, get2, rfl, rfl, ?_, ?_, ?_, ?_⟩) | (with_reducible refine ⟨3, _, _, _, _, get3, rfl, rfl, ?_, ?_, ?_, ?_⟩) | (with_reducible refine ⟨4, _, _, _, _, get4, rfl, rfl, ?_, ?_, ?_, ?_⟩) | (with_reducible refine ⟨5, _, _, _, _, get5, rfl, rfl, ?_, ?_, ?_, ?_⟩) | (with_reducible refine ⟨6, _, _, _, _, get6, rfl, rfl, ?_, ?_, ?_, ?_⟩)); (kernel_rfl); (simp [Value.cells]); (rfl); (clear st; intro w st))
                  | ((with_reducible refine wl_alloc ?_ (fun K hK => ?_)); rfl; refine owp_alloc (o := ⟨some 4, _, _, _, _, _⟩) rfl st ?_; apply Exists.intro; apply Exists.intro; refine ⟨?_, ?_⟩; (focus (first | (go_simp; done) | (go_simp; rfl))); (clear st; intro b4 w hb st; clear hb))
                  | ((with_reducible refine wl_alloc ?_ (fun K hK => ?_)); rfl; refine owp_alloc (o := ⟨some 8, _, _, _, _, _⟩) rfl st ?_; apply Exists.intro; apply Exists.intro; refine ⟨?_, ?_⟩; (focus (first | (go_simp; done) | (go_simp; rfl))); (clear st; intro b8 w hb st; clear hb))); (try simp only [nsl, Value.cells, unB] at st); (try clear hc); have hc := st.facts; (try simp only [nfl, nft, elI, elF, Nat.reduceAdd] at hc))
            refine (HP.out _).mono ?_
            rintro en w ⟨rfl, hx⟩
            replace st := st.ext hx
            clear hx
            (try clear hc); have hc := st.facts; (try simp only [nfl, nft, elI, elF, Nat.reduceAdd] at hc)
            go_wp2_with ((first
                  | ((with_reducible refine wl_alloc ?_ (fun K hK => ?_)); rfl; refine owp_alloc (o := ⟨some 2, _, _, _, _, _⟩) rfl st ?_; apply Exists.intro; apply Exists.intro; refine ⟨?_, ?_⟩; (focus (first | (go_simp; done) | (go_simp; rfl))); (clear st; intro b2 w hb st; clear hb))
                  | ((with_reducible refine wl_store ?_ (fun K hK => ?_)); rfl; refine owp_store rfl st ?_; apply Exists.intro; apply Exists.intro; refine ⟨?_, ?_, ?_⟩; (focus (go_simp; try rfl)); (focus (go_simp; try rfl)); (first | (with_reducible refine ⟨0, _, _, _, _, get0, rfl, rfl, ?_, ?_, ?_, ?_⟩) | (with_reducible refine ⟨1, _, _, _, _, get1, rfl, rfl, ?_, ?_, ?_, ?_⟩) | (with_reducible refine ⟨2, _, _, _, _, get2, rfl, rfl, ?_, ?_, ?_, ?_⟩) | (with_reducible refine ⟨3, _, _, _, _, get3, rfl, rfl, ?_, ?_, ?_, ?_⟩) | (with_reducible refine ⟨4, _, _, _, _, get4, rfl, rfl, ?_, ?_, ?_, ?_⟩) | (with_reducible refine ⟨5, _, _, _, _, get5, rfl, rfl, ?_, ?_, ?_, ?_⟩) | (with_reducible refine ⟨6, _, _, _, _, get6, rfl, rfl, ?_, ?_, ?_, ?_⟩)); (kernel_rfl); (simp [Value.cells]); (rfl); (clear st; intro w st))
                  | ((with_reducible refine wl_alloc ?_ (fun K hK => ?_)); rfl; refine owp_alloc (o := ⟨some 4, _, _, _, _, _⟩) rfl st ?_; apply Exists.intro; apply Exists.intro; refine ⟨?_, ?_⟩; (focus (first | (go_simp; done) | (go_simp; rfl))); (clear st; intro b4 w hb st; clear hb))
                  | ((with_reducible refine wl_alloc ?_ (fun K hK => ?_)); rfl; refine owp_alloc (o := ⟨some 8, _, _, _, _, _⟩) rfl st ?_; apply Exists.intro; apply Exists.intro; refine ⟨?_, ?_⟩; (focus (first | (go_simp; done) | (go_simp; rfl))); (clear st; intro b8 w hb st; clear hb))); (try simp only [nsl, Value.cells, unB] at st); (try clear hc); have hc := st.facts; (try simp only [nfl, nft, elI, elF, Nat.reduceAdd] at hc))
            (try simp only [Exit.inBlock, Exit.then])
            refine bodyPost_cell rfl rfl (st.blk (i := 3) get3) Tryz.underlying26 rfl (by kernel_rfl) rfl ?_
            have st2 := st.keep [0, 1] (by decide) (by simp)
            simp only [pick, List.map_cons, List.map_nil, List.getElem?_cons_zero, List.getElem?_cons_succ, Option.getD_some] at st2
            have st3 := Own.noFms (Own.nilFm st2)
            simp only [List.cons_append, List.nil_append] at st3
            have st4 := (st3.mkFm (i := 2) (j := 3) get2 get3 1 0 (o', d') 0 ⟨Nat.le_refl _, by simp [maxLen]⟩).keep [0, 1, 4] (by decide) (by simp)
            exact rfGot (.mk 1 0 (o', d') none 0 0 []) rfl (by rw [strip_mk]; rfl) HC1.out HTL.out (by have := HM.out; omega) HRI.out (by simpa [pick, S] using st4)
          | some r =>
            rw [hr] at HP HJ
            rw [roleP1_some hr] at HP
            obtain ⟨o', d'⟩ := r
            unfold rV S at HP
            simp only [Option.isSome_some] at HP
            have HRI : Hid (RIs false res false (Fo.mk 1 0 (o', d') []) l) := Lib.hid ⟨rfl, HJ.out.symm⟩
            clear hr
            (try simp only [nsl, Value.cells, unB] at st)
            (try clear hc); have hc := st.facts; (try simp only [nfl, nft, elI, elF, Nat.reduceAdd] at hc)
            go_enter Tryz.func41, Tryz.ntmps41
            go_wp2_with ((first
                  | ((with_reducible refine wl_alloc ?_ (fun K hK => ?_)); rfl; refine owp_alloc (o := ⟨some 2, _, _, _, _, _⟩) rfl st ?_; apply Exists.intro; apply Exists.intro; refine ⟨?_, ?_⟩; (focus (first | (go_simp; done) | (go_simp; rfl))); (clear st; intro b2 w hb st; clear hb))
                  | ((with_reducible refine wl_store ?_ (fun K hK => ?_)); rfl; refine owp_store rfl st ?_; apply Exists.intro; apply Exists.intro; refine ⟨?_, ?_, ?_⟩; (focus (go_simp; try rfl)); (focus (go_simp; try rfl)); (first | (with_reducible refine ⟨0, _, _, _, _, get0, rfl, rfl, ?_, ?_, ?_, ?_⟩) | (with_reducible refine ⟨1, _, _, _, _, get1, rfl, rfl, ?_, ?_, ?_, ?_⟩) | (with_reducible refine ⟨2, _, _, _, _, get2, rfl, rfl, ?_, ?_, ?_, ?_⟩) | (with_reducible refine ⟨3, _, _, _, _, get3, rfl, rfl, ?_, ?_, ?_, ?_⟩) | (with_reducible refine ⟨4, _, _, _, _, get4, rfl, rfl, ?_, ?_, ?_, ?_⟩) | (with_reducible refine ⟨5, _, _, _, _, get5, rfl, rfl, ?_, ?_, ?_, ?_⟩) | (with_reducible refine ⟨6, _, _, _, _, get6, rfl, rfl, ?_, ?_, ?_, ?_⟩)); (kernel_rfl); (simp [Value.cells]); (rfl); (clear st; intro w st))
                  | ((with_reducible refine wl_alloc ?_ (fun K hK => ?_)); rfl; refine owp_alloc (o := ⟨some 4, _, _, _, _, _⟩) rfl st ?_; apply Exists.intro; apply Exists.intro; refine ⟨?_, ?_⟩; (focus (first | (go_simp; done) | (go_simp; rfl))); (clear st; intro b4 w hb st; clear hb))
                  | ((with_reducible refine wl_alloc ?_ (fun K hK => ?_)); rfl; refine owp_alloc (o := ⟨some 8, _, _, _, _, _⟩) rfl st ?_; apply Exists.intro; apply Exists.intro; refine ⟨?_, ?_⟩; (focus (first | (go_simp; done) | (go_simp; rfl))); (clear st; intro b8 w hb st; clear hb))); (try simp only [nsl, Value.cells, unB] at st); (try clear hc); have hc := st.facts; (try simp only [nfl, nft, elI, elF, Nat.reduceAdd] at hc))
            refine (HP.out _).mono ?_
            rintro en w ⟨rfl, hx⟩
            replace st := st.ext hx
            clear hx
            (try clear hc); have hc := st.facts; (try simp only [nfl, nft, elI, elF, Nat.reduceAdd] at hc)
            go_wp2_with ((first
                  | ((with_reducible refine wl_alloc ?_ (fun K hK => ?_)); rfl; refine owp_alloc (o := ⟨some 2, _, _, _, _, _⟩) rfl st ?_; apply Exists.intro; apply Exists.intro; refine ⟨?_, ?_⟩; (focus (first | (go_simp; done) | (go_simp; rfl))); (clear st; intro b2 w hb st; clear hb))
                  | ((with_reducible refine wl_store ?_ (fun K hK => ?_)); rfl; refine owp_store rfl st ?_; apply Exists.intro; apply Exists.intro; refine ⟨?_, ?_, ?_⟩; (focus (go_simp; try rfl)); (focus (go_simp; try rfl)); (first | (with_reducible refine ⟨0, _, _, _, _, get0, rfl, rfl, ?_, ?_, ?_, ?_⟩) | (with_reducible refine ⟨1, _, _, _, _, get1, rfl, rfl, ?_, ?_, ?_, ?_⟩) | (with_reducible refine ⟨2, _, _, _, _, get2, rfl, rfl, ?_, ?_, ?_, ?_⟩) | (with_reducible refine ⟨3, _, _, _, _, get3, rfl, rfl, ?_, ?_, ?_, ?_⟩) | (with_reducible refine ⟨4, _, _, _, _, get4, rfl, rfl, ?_, ?_, ?_, ?_⟩) | (with_reducible refine ⟨5, _, _, _, _, get5, rfl, rfl, ?_, ?_, ?_, ?_⟩) | (with_reducible refine ⟨6, _, _, _, _, get6, rfl, rfl, ?_, ?_, ?_, ?_⟩)); (kernel_rfl); (simp [Value.cells]); (rfl); (clear st; intro w st))
                  | ((with_reducible refine wl_alloc ?_ (fun K hK => ?_)); rfl; refine owp_alloc (o := ⟨some 4, _, _, _, _, _⟩) rfl st ?_; apply Exists.intro; apply Exists.intro; refine ⟨?_, ?_⟩; (focus (first | (go_simp; done) | (go_simp; rfl))); (clear st; intro b4 w hb st; clear hb))
                  | ((with_reducible refine wl_alloc ?_ (fun K hK => ?_)); rfl; refine owp_alloc (o := ⟨some 8, _, _, _, _, _⟩) rfl st ?_; apply Exists.intro; apply Exists.intro; refine ⟨?_, ?_⟩; (focus (first | (go_simp; done) | (go_simp; rfl))); (clear st; intro b8 w hb st; clear hb))); (try simp only [nsl, Value.cells, unB] at st); (try clear hc); have hc := st.facts; (try simp only [nfl, nft, elI, elF, Nat.reduceAdd] at hc))
            (try simp only [Exit.inBlock, Exit.then])
            refine bodyPost_cell rfl rfl (st.blk (i := 3) get3) Tryz.underlying26 rfl (by kernel_rfl) rfl ?_
            have st2 := st.keep [0, 1] (by decide) (by simp)
            simp only [pick, List.map_cons, List.map_nil, List.getElem?_cons_zero, List.getElem?_cons_succ, Option.getD_some] at st2
            have st3 := Own.noFms (Own.nilFm st2)
            simp only [List.cons_append, List.nil_append] at st3
            have st4 := (st3.mkFm (i := 2) (j := 3) get2 get3 1 0 (o', d') 0 ⟨Nat.le_refl _, by simp [maxLen]⟩).keep [0, 1, 4] (by decide) (by simp)
            exact rfGot (.mk 1 0 (o', d') none 0 0 []) rfl (by rw [strip_mk]; rfl) HC1.out HTL.out (by have := HM.out; omega) HRI.out (by simpa [pick, S] using st4)
theorem rone_c : ∀ f, Rone rb 41 f (oneP false f)
  | 0 => fun fr al w0 w a n c bad t ht hf hc st => rone_bad ht hc (.inl (by cases bad with | true => rfl | false => have := hf rfl; omega)) st
  | f + 1 => rone_step (oneP_short false f) (rone_c f)
end
end Go.Proofs.YtnhilgciddcahaaGreatDoor
