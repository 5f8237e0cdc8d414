/- The stable sort of formulas: the insertion sort. -/
import Derived.Test.YthjaopojlhdjpaaSsC
namespace Go.Proofs.Ythjaopojlhdjpaa
set_option linter.unusedSimpArgs false
set_option linter.unusedVariables false
open Go Go.RowKit
def fK (x : Fm) : List UInt8 := wrF x.strip
/-- Formulas that may be compared. -/
def FmsR (base : List Fm) : Prop := ∀ x ∈ base, x.strip.nodes ≤ 1000000000 ∧ FoL 100000 x.strip
theorem ins_sp {A B : List Fm} {v : Fm} (h : ∀ x ∈ B, kLt fK v x = true) : SP fK ((A ++ B) ++ [v]) (A ++ v :: B) := by
  have := (SP.refl (key := fK) A).app (SP.comm (key := fK) (xs := B) (ys := [v]) fun x hx y hy => by rw [List.mem_singleton.1 hy]; exact (kLt_ne (h x hx)).symm)
  simpa [List.append_assoc] using this
theorem ins_srt {A B : List Fm} {v : Fm} (hs : Srt fK (A ++ B)) (hb : ∀ x ∈ B, kLt fK v x = true) (ha : ∀ x ∈ A, kLt fK v x = false) : Srt fK (A ++ v :: B) := by
  refine hs.left.app (List.pairwise_cons.2 ⟨fun x hx => kLt_asym (hb x hx), hs.right⟩) fun x hx y hy => ?_
  rcases List.mem_cons.1 hy with e | e
  · rw [e]; exact ha x hx
  · exact hs.cross x hx y e
theorem ins_last {A B : List Fm} {u v : Fm} (hs : Srt fK ((A ++ [u]) ++ B)) (h : kLt fK v u = false) : ∀ x ∈ A ++ [u], kLt fK v x = false := fun x hx => by
  rcases List.mem_append.1 hx with q | q
  · exact kLe_tr (hs.left.cross x q u (by simp)) h
  · rw [List.mem_singleton.1 q]; exact h
theorem fmCmp_any {base : List Fm} (hb : FmsR base) {x y : Fm} (hx : x ∈ base) (hy : y ∈ base) (W : World) (hw : ∀ f ∈ base, FmOk W f) :
    Calls Try.prog 47 #[fmV x, fmV y] W fun e w' => e = .returned (.int .i64 (cmp2 (fK x) (fK y))) ∧ Ext W w' :=
  fmCompare_any x y W (hw x hx) (hw y hy) (hb x hx).1 (hb y hy).1 (hb x hx).2 (hb y hy).2
set_option maxRecDepth 100000 in
set_option maxHeartbeats 4000000 in
theorem insertFm_c {fr al : Nat → Prop} {W : World} {g n c : Nat} (base P M Q : List Fm) (a b : Nat) (ha : a = P.length) (hb : b = P.length + M.length) (hB : FmsR base) (hM : ∀ x ∈ M, x ∈ base)
    (st : Own fr al W [rowI 26 5 (.slice (some ⟨g, 0, none⟩) n c) n (cellsL (P ++ (M ++ Q))), fmsI base] W) (hn : n ≤ 2000000) :
    Calls Try.prog 178 #[.slice (some ⟨g, 0, none⟩) n c, .int .i64 (a : Int), .int .i64 (b : Int), .func (.func 47) #[] #[]] W fun e w' => e = .returned (.tuple #[]) ∧ ∃ M', (SP fK M M' ∧ Srt fK M') ∧ Own fr al W [rowI 26 5 (.slice (some ⟨g, 0, none⟩) n c) n (cellsL (P ++ (M' ++ Q))), fmsI base] w' := by
  have hlen := st.rowLen (i := 0) get0
  simp only [List.length_append] at hlen
  have hbn : b ≤ n ∧ a ≤ b := by omega
  have HA := Lib.hid ha
  have HBB := Lib.hid hb
  have HMB := Lib.hid hM
  have HCM := Lib.hid (fun x y hx hy W' hw => fmCmp_any hB (x := x) (y := y) hx hy W' hw)
  clear ha hb hlen hM hB
  obtain ⟨i0, hi0⟩ : ∃ i, a + 1 = i := ⟨_, rfl⟩
  have w0 : IntKind.i64.wrap ((a : Int) + 1) = (i0 : Int) := by rw [← hi0]; exact IntWalk.i64_in _ ⟨by omega, by omega⟩
  have hi0n : i0 = a + 1 := hi0.symm
  have HI0 := Lib.hid hi0n
  have hi0b : i0 ≤ n + 1 := by omega
  clear hi0 hi0n
  (try simp only [nsl, Value.cells, unB] at st)
  (try clear hc); have hc := st.facts; (try simp only [nfl, nft, Nat.reduceAdd] at hc)
  go_enter Try.func178, Try.ntmps178
  go_wp2_with fail
  go_loopg [8] (n + 2 - i0) (fun q iv wr => ∃ (i : Nat) (M1 M2 : List Fm), q = n + 2 - i ∧ i ≤ n + 1 ∧ iv = .int .i64 (i : Int) ∧ Hid (((i = P.length + M1.length ∧ 0 < M1.length) ∨ (M1 = [] ∧ M2 = [] ∧ i = P.length + 1)) ∧ SP fK M (M1 ++ M2) ∧ Srt fK M1) ∧ Own fr al W [rowI 26 5 (.slice (some ⟨g, 0, none⟩) n c) n (cellsL (P ++ (M1 ++ (M2 ++ Q)))), fmsI base] wr)
  case atStart =>
    refine ⟨i0, M.take 1, M.drop 1, rfl, hi0b, rfl, Lib.hid ⟨?_, by rw [List.take_append_drop]; exact SP.refl _, ?_⟩, ?_⟩
    · have h1 := HI0.out
      have h2 := HA.out
      cases M with
      | nil => right; exact ⟨rfl, rfl, by omega⟩
      | cons x M => left; simp; omega
    · cases M with
      | nil => exact List.Pairwise.nil
      | cons x M => simp [Srt]
    · rw [show P ++ (M.take 1 ++ (M.drop 1 ++ Q)) = P ++ (M ++ Q) by rw [← List.append_assoc (M.take 1), List.take_append_drop]]
      exact st
  case round =>
    obtain ⟨i, M1, M2, rfl, hin, rfl, HR, st'⟩ := hrel
    clear st hc
    have st := st'
    clear st'
    have hln := st.rowLen (i := 0) get0
    simp only [List.length_append] at hln
    have hsl := HR.out.2.1.len
    simp only [List.length_append] at hsl
    have hBl := HBB.out
    have hAl := HA.out
    by_cases hib : i < b
    · have hibi : (i : Int) < (b : Int) := by omega
      have hm1 : i = P.length + M1.length ∧ 0 < M1.length := by
        rcases HR.out.1 with q | ⟨q1, q2, q3⟩
        · exact q
        · subst q1 q2; simp at hsl; omega
      have hm2 : 0 < M2.length := by omega
      obtain ⟨v, M3, rfl⟩ : ∃ v M3, M2 = v :: M3 := by
        cases M2 with
        | nil => simp at hm2
        | cons v M3 => exact ⟨v, M3, rfl⟩
      have hvb : v ∈ base := HMB.out v (HR.out.2.1.mem.1 (by simp))
      have hMb : ∀ x ∈ M1, x ∈ base := fun x hx => HMB.out x (HR.out.2.1.mem.1 (by simp [hx]))
      have HVB := Lib.hid hvb
      have HM1B := Lib.hid hMb
      have HM1 := Lib.hid hm1
      clear hsl hm1 hm2 hln hvb hMb hBl hAl
      (try simp only [nsl, Value.cells, unB] at st)
      (try clear hc); have hc := st.facts; (try simp only [nfl, nft, Nat.reduceAdd] at hc)
      go_wp2_with fail
      go_loopg [9] (i + 1) (fun q jv wr => ∃ (j : Nat) (A B : List Fm), q = j + 1 ∧ j ≤ i ∧ jv = .int .i64 (j : Int) ∧ Hid (j = P.length + A.length ∧ A ++ B = M1 ∧ ∀ x ∈ B, kLt fK v x = true) ∧ Own fr al W [rowI 26 5 (.slice (some ⟨g, 0, none⟩) n c) n (cellsL (P ++ (A ++ v :: (B ++ (M3 ++ Q))))), fmsI base] wr)
      case atStart => exact ⟨i, M1, [], rfl, Nat.le_refl _, rfl, Lib.hid ⟨HM1.out.1, by simp, by simp⟩, by simpa using st⟩
      case round =>
        obtain ⟨j, A, B, rfl, hji, rfl, HJ, st'⟩ := hrel
        clear st hc
        have st := st'
        clear st'
        have hln := st.rowLen (i := 0) get0
        simp only [List.length_append, List.length_cons] at hln
        obtain ⟨hj1, hj2, hj3⟩ := HJ.out
        have hAl := HA.out
        rcases List.eq_nil_or_concat A with rfl | ⟨A', u, rfl⟩
        · have hja : decide (a < j) = false := by simp at hj1; rw [decide_eq_false_iff_not]; omega
          have hR2 : Hid (((i + 1 = P.length + (v :: B).length ∧ 0 < (v :: B).length) ∨ (v :: B = [] ∧ M3 = [] ∧ i + 1 = P.length + 1)) ∧ SP fK M ((v :: B) ++ M3) ∧ Srt fK (v :: B)) := Lib.hid ⟨.inl ⟨by have := HM1.out; rw [← hj2] at this; simp at this ⊢; omega, by simp⟩, by
            have h1 := ins_sp (A := []) (v := v) hj3
            have h2 := HR.out.2.1.trans (show SP fK (M1 ++ v :: M3) ((v :: B) ++ M3) from by
              have := h1.app (SP.refl M3)
              rw [hj2] at this
              simpa using this)
            exact h2, by
            have := ins_srt (A := []) (v := v) (by rw [hj2]; exact HR.out.2.2) hj3 (by simp)
            exact this⟩
          have wi : IntKind.i64.wrap ((i : Int) + 1) = ((i + 1 : Nat) : Int) := IntWalk.i64_in _ ⟨by omega, by omega⟩
          clear hj1 hj2 hj3 hln hAl
          (try simp only [nsl, Value.cells, unB] at st)
          (try clear hc); have hc := st.facts; (try simp only [nfl, nft, Nat.reduceAdd] at hc)
          go_wp2_with fail
          refine Rg4.wp_region4_eq #[0, 0, 3, 7, 15, 15, 15, 111, 239, 15, 15, 1039, 3599, 7695, 16383, 32767, 65535] [14] [8, 13] (fun _ => True) [0, 1, 2, 3, 4, 5, 6, 7, 8, 9, 10, 11, 12, 13, 14, 15, 16] (by kernel_rfl) (by kernel_rfl) (by kernel_rfl) (by kernel_rfl) (show Rg4.PB _ by repeat (first | with_reducible exact Rg4.pb_body | with_reducible exact Rg4.pb_bodyD rfl | with_reducible refine Rg4.pb_then ?_ | with_reducible refine Rg4.pb_inBlock ?_ | with_reducible refine Rg4.pb_noGoto ?_)) (trivial) ?_
          replace st := st.drew
          change Rg4.wp4 _ _ _ _ _ _ _ _ _ (World.drew _) _ _
          generalize World.drew _ = w at st ⊢
          (try clear hc); have hc := st.facts; (try simp only [nfl, nft, Nat.reduceAdd] at hc)
          iterate 4 (refine Rg4.w4_any (Rg4.want_none rfl) rfl ?_; apply Exists.intro; refine ⟨fun w' => ?_, ?_⟩; (focus (first | (go_simp; done) | (go_simp; first | rfl | (rw [if_neg] <;> first | rfl | omega) | (rw [if_pos] <;> first | rfl | omega)))); (try simp only [Rg4.nrm]))
          iterate 4 (first | (refine Rg4.w4_any (Rg4.wt rfl rfl rfl) rfl ?_; apply Exists.intro; refine ⟨fun w' => ?_, ?_⟩; (focus (first | (go_simp; done) | (go_simp; first | rfl | (rw [if_neg] <;> first | rfl | omega) | (rw [if_pos] <;> first | rfl | omega)))); (try simp only [Rg4.nrm])) | (refine Rg4.w4_skip (Rg4.uw rfl rfl rfl) ?_; (try simp only [Rg4.nrm])) | (refine Rg4.w4_skip (Rg4.un rfl rfl rfl) ?_; (try simp only [Rg4.nrm])))
          (first | (refine Rg4.w4_read (Rg4.wt rfl rfl rfl) rfl rfl ?_; apply Exists.intro; refine ⟨fun w' hw' hcl' => ?_, ?_⟩; focus (subst hw'; (focus (first | (go_simp; done) | (go_simp; first | rfl | (rw [if_neg] <;> first | rfl | omega) | (rw [if_pos] <;> first | rfl | omega))))); (try simp only [Rg4.nrm])) | (refine Rg4.w4_skip (Rg4.uw rfl rfl rfl) ?_; (try simp only [Rg4.nrm])) | (refine Rg4.w4_skip (Rg4.un rfl rfl rfl) ?_; (try simp only [Rg4.nrm])))
          iterate 4 (first | (refine Rg4.w4_any (Rg4.wt rfl rfl rfl) rfl ?_; apply Exists.intro; refine ⟨fun w' => ?_, ?_⟩; (focus (first | (go_simp; done) | (go_simp; first | rfl | (rw [if_neg] <;> first | rfl | omega) | (rw [if_pos] <;> first | rfl | omega)))); (try simp only [Rg4.nrm])) | (refine Rg4.w4_skip (Rg4.uw rfl rfl rfl) ?_; (try simp only [Rg4.nrm])) | (refine Rg4.w4_skip (Rg4.un rfl rfl rfl) ?_; (try simp only [Rg4.nrm])))
          (first | (refine Rg4.w4_read (Rg4.wt rfl rfl rfl) rfl rfl ?_; apply Exists.intro; refine ⟨fun w' hw' hcl' => ?_, ?_⟩; focus (subst hw'; (focus (first | (go_simp; done) | (go_simp; first | rfl | (rw [if_neg] <;> first | rfl | omega) | (rw [if_pos] <;> first | rfl | omega))))); (try simp only [Rg4.nrm])) | (refine Rg4.w4_skip (Rg4.uw rfl rfl rfl) ?_; (try simp only [Rg4.nrm])) | (refine Rg4.w4_skip (Rg4.un rfl rfl rfl) ?_; (try simp only [Rg4.nrm])))
          first | refine Rg4.w4_skip (Rg4.uw rfl rfl rfl) ?_ | refine Rg4.w4_skip (Rg4.un rfl rfl rfl) ?_
          (try simp only [Rg4.nrm])
          (first | (refine Rg4.w4_any (Rg4.wt rfl rfl rfl) rfl ?_; apply Exists.intro; refine ⟨fun w' => ?_, ?_⟩; (focus (first | (go_simp; done) | (go_simp; first | rfl | (rw [if_neg] <;> first | rfl | omega) | (rw [if_pos] <;> first | rfl | omega)))); (try simp only [Rg4.nrm])) | (refine Rg4.w4_skip (Rg4.uw rfl rfl rfl) ?_; (try simp only [Rg4.nrm])) | (refine Rg4.w4_skip (Rg4.un rfl rfl rfl) ?_; (try simp only [Rg4.nrm])))
          (refine Rg4.w4_any (Rg4.want_none rfl) rfl ?_; apply Exists.intro; refine ⟨fun w' => ?_, ?_⟩; (focus (first | (go_simp; done) | (go_simp; first | rfl | (rw [if_neg] <;> first | rfl | omega) | (rw [if_pos] <;> first | rfl | omega)))); (try simp only [Rg4.nrm]))
          refine Rg4.w4_nil (fun w' hw' hcl' _ => ?_); subst hw'; clear hcl'
          go_wp2_with fail
          go_roundg (n + 2 - (i + 1))
          case measure => omega
          case rel => exact ⟨i + 1, v :: B, M3, rfl, by omega, by go_num, hR2, st⟩
        · have hja : decide (a < j) = true := by simp at hj1; rw [decide_eq_true_eq]; omega
          obtain ⟨p, hp⟩ : ∃ p, j - 1 = p := ⟨_, rfl⟩
          have hj1' : j = P.length + A'.length + 1 := by simp at hj1; omega
          have hpl : p = (P ++ A').length := by simp; omega
          have hql : j = (P ++ A').length + 1 + ([] : List Fm).length := by simp; omega
          obtain ⟨zs, hz⟩ : ∃ zs, (P ++ A') ++ u :: ([] ++ v :: (B ++ (M3 ++ Q))) = zs := ⟨_, rfl⟩
          have hz2 : P ++ (A'.concat u ++ v :: (B ++ (M3 ++ Q))) = zs := by rw [← hz]; simp
          rw [hz2] at st
          have hzl := st.rowLen (i := 0) get0
          have hzp : zs[p]? = some u := by rw [← hz, hpl]; exact at_p _ _ _ _ _
          have hzq : zs[j]? = some v := by rw [← hz]; have := at_q (P ++ A') [] (B ++ (M3 ++ Q)) u v; rw [← hql] at this; exact this
          have hpz : p < zs.length := (List.getElem?_eq_some_iff.1 hzp).1
          have hqz : j < zs.length := (List.getElem?_eq_some_iff.1 hzq).1
          have HN : Hid ((zs.set j u).set p v = P ++ (A' ++ v :: ((u :: B) ++ (M3 ++ Q)))) := Lib.hid (by
            have := swap_qp (P ++ A') [] (B ++ (M3 ++ Q)) u v
            rw [← hql, ← hpl, hz] at this
            rw [this]; simp)
          have hub : u ∈ base := HM1B.out u (by rw [← hj2]; simp)
          have HC2 := Lib.hid (fun W' hw => HCM.out v u HVB.out hub W' hw)
          have hpn : p < n := by omega
          have hqn : j < n := by omega
          have hjp : p + 1 = j := by omega
          have w1 : IntKind.i64.wrap ((j : Int) - 1) = (p : Int) := by rw [← hjp, show ((p + 1 : Nat) : Int) - 1 = (p : Int) by omega]; exact IntWalk.i64_in _ ⟨by omega, by omega⟩
          have wi : IntKind.i64.wrap ((i : Int) + 1) = ((i + 1 : Nat) : Int) := IntWalk.i64_in _ ⟨by omega, by omega⟩
          have hneg := cmp2_neg (fK v) (fK u)
          have hR3 : kLt fK v u = false → Hid (((i + 1 = P.length + (A' ++ u :: v :: B).length ∧ 0 < (A' ++ u :: v :: B).length) ∨ (A' ++ u :: v :: B = [] ∧ M3 = [] ∧ i + 1 = P.length + 1)) ∧ SP fK M ((A' ++ u :: v :: B) ++ M3) ∧ Srt fK (A' ++ u :: v :: B)) := fun hl => Lib.hid ⟨.inl ⟨by have := HM1.out; rw [← hj2] at this; simp at this ⊢; omega, by simp <;> omega⟩, by
            have h1 := ins_sp (A := A' ++ [u]) (v := v) hj3
            have h2 := h1.app (SP.refl (key := fK) M3)
            have h3 := HR.out.2.1
            rw [← hj2] at h3
            exact h3.trans (by simpa using h2), by
            have h3 := HR.out.2.2
            rw [← hj2] at h3
            have h4 : Srt fK ((A' ++ [u]) ++ B) := by simpa using h3
            have h5 := ins_srt h4 hj3 (ins_last h4 hl)
            simpa using h5⟩
          have hJ2 : kLt fK v u = true → Hid (p = P.length + A'.length ∧ A' ++ (u :: B) = M1 ∧ ∀ x ∈ u :: B, kLt fK v x = true) := fun hl => Lib.hid ⟨by omega, by rw [← hj2]; simp, fun x hx => by
            rcases List.mem_cons.1 hx with e | e
            · rw [e]; exact hl
            · exact hj3 x e⟩
          obtain ⟨cv, hcv⟩ : ∃ z, cmp2 (fK v) (fK u) = z := ⟨_, rfl⟩
          rw [hcv] at HC2 hneg
          obtain ⟨lv, hlv⟩ : ∃ z, kLt fK v u = z := ⟨_, rfl⟩
          have hlv2 : strLt (fK v) (fK u) = lv := hlv
          rw [hlv2] at hneg
          rw [hlv] at hR3 hJ2
          have HZ2 := Lib.hid hz2
          clear hz hz2 hub hcv hlv hlv2 hj1 hj2 hj3 hj1' hpl hql hzl hln hAl hp HJ
          obtain ⟨op, k, ⟨o, d⟩, fa, fn, fc, kids⟩ := u
          obtain ⟨op2, k2, ⟨o2, d2⟩, fa2, fn2, fc2, kids2⟩ := v
          have HU := Lib.hid (fm_cells hzp)
          have HV := Lib.hid (fm_cells hzq)
          have HS1 := Lib.hid (fm_store hqz op k o d fa fn fc kids)
          have HS2 := Lib.hid (fm_store (zs := zs.set j (.mk op k (o, d) fa fn fc kids)) (j := p) (by simpa using hpz) op2 k2 o2 d2 fa2 fn2 fc2 kids2)
          unfold fmV S at HC2
          simp only at HC2
          clear hzp hzq hpz hqz
          cases lv with
          | false =>
            have hng : ¬ cv < 0 := fun q => by have := hneg.1 q; cases this
            have HR4 := hR3 rfl
            clear hR3 hJ2 hneg
            (try simp only [nsl, Value.cells, unB] at st)
            (try clear hc); have hc := st.facts; (try simp only [nfl, nft, Nat.reduceAdd] at hc)
            go_wp2_with fail
            refine Rg4.wp_region4_eq #[0, 0, 3, 7, 15, 15, 15, 111, 239, 15, 15, 1039, 3599, 7695, 16383, 32767, 65535] [14] [8, 13] (fun _ => True) [0, 1, 2, 3, 4, 5, 6, 7, 8, 9, 10, 11, 12, 13, 14, 15, 16] (by kernel_rfl) (by kernel_rfl) (by kernel_rfl) (by kernel_rfl) (show Rg4.PB _ by repeat (first | with_reducible exact Rg4.pb_body | with_reducible exact Rg4.pb_bodyD rfl | with_reducible refine Rg4.pb_then ?_ | with_reducible refine Rg4.pb_inBlock ?_ | with_reducible refine Rg4.pb_noGoto ?_)) (trivial) ?_
            replace st := st.drew
            change Rg4.wp4 _ _ _ _ _ _ _ _ _ (World.drew _) _ _
            generalize World.drew _ = w at st ⊢
            (try clear hc); have hc := st.facts; (try simp only [nfl, nft, Nat.reduceAdd] at hc)
            iterate 4 (refine Rg4.w4_any (Rg4.want_none rfl) rfl ?_; apply Exists.intro; refine ⟨fun w' => ?_, ?_⟩; (focus (first | (go_simp; done) | (go_simp; first | rfl | (rw [if_neg] <;> first | rfl | omega) | (rw [if_pos] <;> first | rfl | omega)))); (try simp only [Rg4.nrm]))
            iterate 4 (first | (refine Rg4.w4_any (Rg4.wt rfl rfl rfl) rfl ?_; apply Exists.intro; refine ⟨fun w' => ?_, ?_⟩; (focus (first | (go_simp; done) | (go_simp; first | rfl | (rw [if_neg] <;> first | rfl | omega) | (rw [if_pos] <;> first | rfl | omega)))); (try simp only [Rg4.nrm])) | (refine Rg4.w4_skip (Rg4.uw rfl rfl rfl) ?_; (try simp only [Rg4.nrm])) | (refine Rg4.w4_skip (Rg4.un rfl rfl rfl) ?_; (try simp only [Rg4.nrm])))
            (first | (refine Rg4.w4_read (Rg4.wt rfl rfl rfl) rfl rfl ?_; apply Exists.intro; refine ⟨fun w' hw' hcl' => ?_, ?_⟩; focus (subst hw'; have r0 := st.rowC (i := 0) get0 _ _ HU.out.1; have r1 := st.rowC (i := 0) get0 _ _ HU.out.2.1; have r2 := st.rowC (i := 0) get0 _ _ HU.out.2.2.1; have r3 := st.rowC (i := 0) get0 _ _ HU.out.2.2.2.1; have r4 := st.rowC (i := 0) get0 _ _ HU.out.2.2.2.2; have q0 := st.rowC (i := 0) get0 _ _ HV.out.1; have q1 := st.rowC (i := 0) get0 _ _ HV.out.2.1; have q2 := st.rowC (i := 0) get0 _ _ HV.out.2.2.1; have q3 := st.rowC (i := 0) get0 _ _ HV.out.2.2.2.1; have q4 := st.rowC (i := 0) get0 _ _ HV.out.2.2.2.2; (focus (first | (go_simp; done) | (go_simp; first | rfl | (rw [if_neg] <;> first | rfl | omega) | (rw [if_pos] <;> first | rfl | omega))))); (try simp only [Rg4.nrm])) | (refine Rg4.w4_skip (Rg4.uw rfl rfl rfl) ?_; (try simp only [Rg4.nrm])) | (refine Rg4.w4_skip (Rg4.un rfl rfl rfl) ?_; (try simp only [Rg4.nrm])))
            iterate 4 (first | (refine Rg4.w4_any (Rg4.wt rfl rfl rfl) rfl ?_; apply Exists.intro; refine ⟨fun w' => ?_, ?_⟩; (focus (first | (go_simp; done) | (go_simp; first | rfl | (rw [if_neg] <;> first | rfl | omega) | (rw [if_pos] <;> first | rfl | omega)))); (try simp only [Rg4.nrm])) | (refine Rg4.w4_skip (Rg4.uw rfl rfl rfl) ?_; (try simp only [Rg4.nrm])) | (refine Rg4.w4_skip (Rg4.un rfl rfl rfl) ?_; (try simp only [Rg4.nrm])))
            (first | (refine Rg4.w4_read (Rg4.wt rfl rfl rfl) rfl rfl ?_; apply Exists.intro; refine ⟨fun w' hw' hcl' => ?_, ?_⟩; focus (subst hw'; have r0 := st.rowC (i := 0) get0 _ _ HU.out.1; have r1 := st.rowC (i := 0) get0 _ _ HU.out.2.1; have r2 := st.rowC (i := 0) get0 _ _ HU.out.2.2.1; have r3 := st.rowC (i := 0) get0 _ _ HU.out.2.2.2.1; have r4 := st.rowC (i := 0) get0 _ _ HU.out.2.2.2.2; have q0 := st.rowC (i := 0) get0 _ _ HV.out.1; have q1 := st.rowC (i := 0) get0 _ _ HV.out.2.1; have q2 := st.rowC (i := 0) get0 _ _ HV.out.2.2.1; have q3 := st.rowC (i := 0) get0 _ _ HV.out.2.2.2.1; have q4 := st.rowC (i := 0) get0 _ _ HV.out.2.2.2.2; (focus (first | (go_simp; done) | (go_simp; first | rfl | (rw [if_neg] <;> first | rfl | omega) | (rw [if_pos] <;> first | rfl | omega))))); (try simp only [Rg4.nrm])) | (refine Rg4.w4_skip (Rg4.uw rfl rfl rfl) ?_; (try simp only [Rg4.nrm])) | (refine Rg4.w4_skip (Rg4.un rfl rfl rfl) ?_; (try simp only [Rg4.nrm])))
            refine Rg4.w4_bar (Rg4.want_of 3 21 true rfl rfl rfl) rfl (fun w' hw' hcl _ K hK => ?_)
            subst hw'
            go_wp2_with fail
            refine (HC2.out _ (st.fms (i := 1) get1)).mono ?_
            rintro en w ⟨rfl, hx⟩
            replace st := st.ext hx
            clear hx
            (try clear hc); have hc := st.facts; (try simp only [nfl, nft, Nat.reduceAdd] at hc)
            refine hK _ _ ⟨trivial, ?_⟩
            clear hK
            (try simp only [Rg4.nrm])
            (first | (refine Rg4.w4_any (Rg4.wt rfl rfl rfl) rfl ?_; apply Exists.intro; refine ⟨fun w' => ?_, ?_⟩; (focus (first | (go_simp; done) | (go_simp; first | rfl | (rw [if_neg] <;> first | rfl | omega) | (rw [if_pos] <;> first | rfl | omega)))); (try simp only [Rg4.nrm])) | (refine Rg4.w4_skip (Rg4.uw rfl rfl rfl) ?_; (try simp only [Rg4.nrm])) | (refine Rg4.w4_skip (Rg4.un rfl rfl rfl) ?_; (try simp only [Rg4.nrm])))
            (refine Rg4.w4_any (Rg4.want_none rfl) rfl ?_; apply Exists.intro; refine ⟨fun w' => ?_, ?_⟩; (focus (first | (go_simp; done) | (go_simp; first | rfl | (rw [if_neg] <;> first | rfl | omega) | (rw [if_pos] <;> first | rfl | omega)))); (try simp only [Rg4.nrm]))
            refine Rg4.w4_nil (fun w' hw' hcl' _ => ?_); subst hw'; clear hcl'
            go_wp2_with fail
            go_roundg (n + 2 - (i + 1))
            case measure => omega
            case rel => exact ⟨i + 1, _, M3, rfl, by omega, by go_num, HR4, by rw [← HZ2.out] at st; simpa [List.concat_eq_append] using st⟩
          | true =>
            have hng : cv < 0 := hneg.2 rfl
            have HJ3 := hJ2 rfl
            clear hR3 hJ2 hneg
            (try simp only [nsl, Value.cells, unB] at st)
            (try clear hc); have hc := st.facts; (try simp only [nfl, nft, Nat.reduceAdd] at hc)
            go_wp2_with fail
            refine Rg4.wp_region4_eq #[0, 0, 3, 7, 15, 15, 15, 111, 239, 15, 15, 1039, 3599, 7695, 16383, 32767, 65535] [14] [8, 13] (fun _ => True) [0, 1, 2, 3, 4, 5, 6, 7, 8, 9, 10, 11, 12, 13, 14, 15, 16] (by kernel_rfl) (by kernel_rfl) (by kernel_rfl) (by kernel_rfl) (show Rg4.PB _ by repeat (first | with_reducible exact Rg4.pb_body | with_reducible exact Rg4.pb_bodyD rfl | with_reducible refine Rg4.pb_then ?_ | with_reducible refine Rg4.pb_inBlock ?_ | with_reducible refine Rg4.pb_noGoto ?_)) (trivial) ?_
            replace st := st.drew
            change Rg4.wp4 _ _ _ _ _ _ _ _ _ (World.drew _) _ _
            generalize World.drew _ = w at st ⊢
            (try clear hc); have hc := st.facts; (try simp only [nfl, nft, Nat.reduceAdd] at hc)
            iterate 4 (refine Rg4.w4_any (Rg4.want_none rfl) rfl ?_; apply Exists.intro; refine ⟨fun w' => ?_, ?_⟩; (focus (first | (go_simp; done) | (go_simp; first | rfl | (rw [if_neg] <;> first | rfl | omega) | (rw [if_pos] <;> first | rfl | omega)))); (try simp only [Rg4.nrm]))
            iterate 4 (first | (refine Rg4.w4_any (Rg4.wt rfl rfl rfl) rfl ?_; apply Exists.intro; refine ⟨fun w' => ?_, ?_⟩; (focus (first | (go_simp; done) | (go_simp; first | rfl | (rw [if_neg] <;> first | rfl | omega) | (rw [if_pos] <;> first | rfl | omega)))); (try simp only [Rg4.nrm])) | (refine Rg4.w4_skip (Rg4.uw rfl rfl rfl) ?_; (try simp only [Rg4.nrm])) | (refine Rg4.w4_skip (Rg4.un rfl rfl rfl) ?_; (try simp only [Rg4.nrm])))
            (first | (refine Rg4.w4_read (Rg4.wt rfl rfl rfl) rfl rfl ?_; apply Exists.intro; refine ⟨fun w' hw' hcl' => ?_, ?_⟩; focus (subst hw'; have r0 := st.rowC (i := 0) get0 _ _ HU.out.1; have r1 := st.rowC (i := 0) get0 _ _ HU.out.2.1; have r2 := st.rowC (i := 0) get0 _ _ HU.out.2.2.1; have r3 := st.rowC (i := 0) get0 _ _ HU.out.2.2.2.1; have r4 := st.rowC (i := 0) get0 _ _ HU.out.2.2.2.2; have q0 := st.rowC (i := 0) get0 _ _ HV.out.1; have q1 := st.rowC (i := 0) get0 _ _ HV.out.2.1; have q2 := st.rowC (i := 0) get0 _ _ HV.out.2.2.1; have q3 := st.rowC (i := 0) get0 _ _ HV.out.2.2.2.1; have q4 := st.rowC (i := 0) get0 _ _ HV.out.2.2.2.2; (focus (first | (go_simp; done) | (go_simp; first | rfl | (rw [if_neg] <;> first | rfl | omega) | (rw [if_pos] <;> first | rfl | omega))))); (try simp only [Rg4.nrm])) | (refine Rg4.w4_skip (Rg4.uw rfl rfl rfl) ?_; (try simp only [Rg4.nrm])) | (refine Rg4.w4_skip (Rg4.un rfl rfl rfl) ?_; (try simp only [Rg4.nrm])))
            iterate 4 (first | (refine Rg4.w4_any (Rg4.wt rfl rfl rfl) rfl ?_; apply Exists.intro; refine ⟨fun w' => ?_, ?_⟩; (focus (first | (go_simp; done) | (go_simp; first | rfl | (rw [if_neg] <;> first | rfl | omega) | (rw [if_pos] <;> first | rfl | omega)))); (try simp only [Rg4.nrm])) | (refine Rg4.w4_skip (Rg4.uw rfl rfl rfl) ?_; (try simp only [Rg4.nrm])) | (refine Rg4.w4_skip (Rg4.un rfl rfl rfl) ?_; (try simp only [Rg4.nrm])))
            (first | (refine Rg4.w4_read (Rg4.wt rfl rfl rfl) rfl rfl ?_; apply Exists.intro; refine ⟨fun w' hw' hcl' => ?_, ?_⟩; focus (subst hw'; have r0 := st.rowC (i := 0) get0 _ _ HU.out.1; have r1 := st.rowC (i := 0) get0 _ _ HU.out.2.1; have r2 := st.rowC (i := 0) get0 _ _ HU.out.2.2.1; have r3 := st.rowC (i := 0) get0 _ _ HU.out.2.2.2.1; have r4 := st.rowC (i := 0) get0 _ _ HU.out.2.2.2.2; have q0 := st.rowC (i := 0) get0 _ _ HV.out.1; have q1 := st.rowC (i := 0) get0 _ _ HV.out.2.1; have q2 := st.rowC (i := 0) get0 _ _ HV.out.2.2.1; have q3 := st.rowC (i := 0) get0 _ _ HV.out.2.2.2.1; have q4 := st.rowC (i := 0) get0 _ _ HV.out.2.2.2.2; (focus (first | (go_simp; done) | (go_simp; first | rfl | (rw [if_neg] <;> first | rfl | omega) | (rw [if_pos] <;> first | rfl | omega))))); (try simp only [Rg4.nrm])) | (refine Rg4.w4_skip (Rg4.uw rfl rfl rfl) ?_; (try simp only [Rg4.nrm])) | (refine Rg4.w4_skip (Rg4.un rfl rfl rfl) ?_; (try simp only [Rg4.nrm])))
            refine Rg4.w4_bar (Rg4.want_of 3 21 true rfl rfl rfl) rfl (fun w' hw' hcl _ K hK => ?_)
            subst hw'
            go_wp2_with fail
            refine (HC2.out _ (st.fms (i := 1) get1)).mono ?_
            rintro en w ⟨rfl, hx⟩
            replace st := st.ext hx
            clear hx
            (try clear hc); have hc := st.facts; (try simp only [nfl, nft, Nat.reduceAdd] at hc)
            refine hK _ _ ⟨trivial, ?_⟩
            clear hK
            (try simp only [Rg4.nrm])
            (first | (refine Rg4.w4_any (Rg4.wt rfl rfl rfl) rfl ?_; apply Exists.intro; refine ⟨fun w' => ?_, ?_⟩; (focus (first | (go_simp; done) | (go_simp; first | rfl | (rw [if_neg] <;> first | rfl | omega) | (rw [if_pos] <;> first | rfl | omega)))); (try simp only [Rg4.nrm])) | (refine Rg4.w4_skip (Rg4.uw rfl rfl rfl) ?_; (try simp only [Rg4.nrm])) | (refine Rg4.w4_skip (Rg4.un rfl rfl rfl) ?_; (try simp only [Rg4.nrm])))
            (refine Rg4.w4_any (Rg4.want_none rfl) rfl ?_; apply Exists.intro; refine ⟨fun w' => ?_, ?_⟩; (focus (first | (go_simp; done) | (go_simp; first | rfl | (rw [if_neg] <;> first | rfl | omega) | (rw [if_pos] <;> first | rfl | omega)))); (try simp only [Rg4.nrm]))
            refine Rg4.w4_nil (fun w' hw' hcl' _ => ?_); subst hw'; clear hcl'
            go_wp2_with fail
            refine Rg4.wp_region4_eq #[0, 0, 0, 0, 8, 0, 0, 64, 224, 480, 0, 0, 3072, 7168, 16355, 32739, 65535, 131071] [15, 17] [9, 13] (fun _ => True) [0, 1, 2, 3, 4, 5, 6, 7, 8, 9, 10, 11, 12, 13, 14, 15, 16, 17] (by kernel_rfl) (by kernel_rfl) (by kernel_rfl) (by kernel_rfl) (show Rg4.PB _ by repeat (first | with_reducible exact Rg4.pb_body | with_reducible exact Rg4.pb_bodyD rfl | with_reducible refine Rg4.pb_then ?_ | with_reducible refine Rg4.pb_inBlock ?_ | with_reducible refine Rg4.pb_noGoto ?_)) (trivial) ?_
            replace st := st.drew
            change Rg4.wp4 _ _ _ _ _ _ _ _ _ (World.drew _) _ _
            generalize World.drew _ = w at st ⊢
            (try clear hc); have hc := st.facts; (try simp only [nfl, nft, Nat.reduceAdd] at hc)
            iterate 9 (refine Rg4.w4_any (Rg4.want_none rfl) rfl ?_; apply Exists.intro; refine ⟨fun w' => ?_, ?_⟩; (focus (first | (go_simp; done) | (go_simp; first | rfl | (rw [if_neg] <;> first | rfl | omega) | (rw [if_pos] <;> first | rfl | omega)))); (try simp only [Rg4.nrm]))
            (refine Rg4.w4_read (Rg4.want_none rfl) rfl rfl ?_; apply Exists.intro; refine ⟨fun w' hw' hcl' => ?_, ?_⟩; focus (subst hw'; have r0 := st.rowC (i := 0) get0 _ _ HU.out.1; have r1 := st.rowC (i := 0) get0 _ _ HU.out.2.1; have r2 := st.rowC (i := 0) get0 _ _ HU.out.2.2.1; have r3 := st.rowC (i := 0) get0 _ _ HU.out.2.2.2.1; have r4 := st.rowC (i := 0) get0 _ _ HU.out.2.2.2.2; have q0 := st.rowC (i := 0) get0 _ _ HV.out.1; have q1 := st.rowC (i := 0) get0 _ _ HV.out.2.1; have q2 := st.rowC (i := 0) get0 _ _ HV.out.2.2.1; have q3 := st.rowC (i := 0) get0 _ _ HV.out.2.2.2.1; have q4 := st.rowC (i := 0) get0 _ _ HV.out.2.2.2.2; (focus (first | (go_simp; done) | (go_simp; first | rfl | (rw [if_neg] <;> first | rfl | omega) | (rw [if_pos] <;> first | rfl | omega))))); (try simp only [Rg4.nrm]))
            iterate 3 (refine Rg4.w4_any (Rg4.want_none rfl) rfl ?_; apply Exists.intro; refine ⟨fun w' => ?_, ?_⟩; (focus (first | (go_simp; done) | (go_simp; first | rfl | (rw [if_neg] <;> first | rfl | omega) | (rw [if_pos] <;> first | rfl | omega)))); (try simp only [Rg4.nrm]))
            (refine Rg4.w4_read (Rg4.want_none rfl) rfl rfl ?_; apply Exists.intro; refine ⟨fun w' hw' hcl' => ?_, ?_⟩; focus (subst hw'; have r0 := st.rowC (i := 0) get0 _ _ HU.out.1; have r1 := st.rowC (i := 0) get0 _ _ HU.out.2.1; have r2 := st.rowC (i := 0) get0 _ _ HU.out.2.2.1; have r3 := st.rowC (i := 0) get0 _ _ HU.out.2.2.2.1; have r4 := st.rowC (i := 0) get0 _ _ HU.out.2.2.2.2; have q0 := st.rowC (i := 0) get0 _ _ HV.out.1; have q1 := st.rowC (i := 0) get0 _ _ HV.out.2.1; have q2 := st.rowC (i := 0) get0 _ _ HV.out.2.2.1; have q3 := st.rowC (i := 0) get0 _ _ HV.out.2.2.2.1; have q4 := st.rowC (i := 0) get0 _ _ HV.out.2.2.2.2; (focus (first | (go_simp; done) | (go_simp; first | rfl | (rw [if_neg] <;> first | rfl | omega) | (rw [if_pos] <;> first | rfl | omega))))); (try simp only [Rg4.nrm]))
            (refine Rg4.w4_any (Rg4.want_none rfl) rfl ?_; apply Exists.intro; refine ⟨fun w' => ?_, ?_⟩; (focus (first | (go_simp; done) | (go_simp; first | rfl | (rw [if_neg] <;> first | rfl | omega) | (rw [if_pos] <;> first | rfl | omega)))); (try simp only [Rg4.nrm]))
            refine Rg4.w4_bar (Rg4.want_none rfl) rfl (fun w' hw' hcl _ K hK => ?_)
            subst hw'
            refine owp_storeRow' rfl st ?_
            apply Exists.intro; apply Exists.intro
            refine ⟨?_, ?_, ?_⟩
            (focus (go_simp; try rfl))
            (focus (go_simp; try rfl))
            refine ⟨0, _, _, _, _, _, _, _, _, get0, rfl, rfl, ?_, ?_, ?_, ?_⟩
            · kernel_rfl
            · simp [Value.cells]; omega
            · rfl
            clear st
            intro w st
            simp only [List.set_cons_zero, Value.cells] at st
            rw [HS1.out] at st
            refine hK _ _ ⟨trivial, ?_⟩
            clear hK
            (try simp only [Rg4.nrm])
            (refine Rg4.w4_any (Rg4.want_none rfl) rfl ?_; apply Exists.intro; refine ⟨fun w' => ?_, ?_⟩; (focus (first | (go_simp; done) | (go_simp; first | rfl | (rw [if_neg] <;> first | rfl | omega) | (rw [if_pos] <;> first | rfl | omega)))); (try simp only [Rg4.nrm]))
            refine Rg4.w4_bar (Rg4.want_none rfl) rfl (fun w' hw' hcl _ K hK => ?_)
            subst hw'
            refine owp_storeRow' rfl st ?_
            apply Exists.intro; apply Exists.intro
            refine ⟨?_, ?_, ?_⟩
            (focus (go_simp; try rfl))
            (focus (go_simp; try rfl))
            refine ⟨0, _, _, _, _, _, _, _, _, get0, rfl, rfl, ?_, ?_, ?_, ?_⟩
            · kernel_rfl
            · simp [Value.cells]; omega
            · rfl
            clear st
            intro w st
            simp only [List.set_cons_zero, Value.cells] at st
            rw [HS2.out] at st
            refine hK _ _ ⟨trivial, ?_⟩
            clear hK
            (try simp only [Rg4.nrm])
            refine Rg4.w4_nil (fun w' hw' hcl' _ => ?_); subst hw'; clear hcl'
            rw [HN.out] at st
            go_wp2_with fail
            go_roundg (p + 1)
            case measure => omega
            case rel => exact ⟨p, A', _ :: B, rfl, by omega, by go_num, HJ3, st⟩
    · have hibi : ¬ (i : Int) < (b : Int) := by omega
      have hM2 : M2 = [] := by
        rcases HR.out.1 with ⟨q1, q2⟩ | ⟨q1, q2, q3⟩
        · exact List.eq_nil_of_length_eq_zero (by omega)
        · exact q2
      subst hM2
      have HF : Hid (SP fK M M1 ∧ Srt fK M1) := Lib.hid ⟨by simpa using HR.out.2.1, HR.out.2.2⟩
      clear hsl hln hBl hAl
      go_wp2_with fail
      go_end0
      exact ⟨rfl, M1, HF.out, by simpa using st⟩
end Go.Proofs.Ythjaopojlhdjpaa

namespace Go.Proofs.Ythjaopojlhdjpaa
set_option linter.unusedSimpArgs false
set_option linter.unusedVariables false
open Go Go.RowKit
theorem take_le {X : List Fm} {t : Nat} {x : Fm} (hs : Srt fK X) (hx : X[t]? = some x) : ∀ l ∈ X.take (t + 1), kLt fK x l = false := fun l hl => by
  obtain ⟨ht, rfl⟩ := List.getElem?_eq_some_iff.1 hx
  obtain ⟨q, hq⟩ := List.getElem?_of_mem hl
  have hq2 := (List.getElem?_eq_some_iff.1 hq).1
  rw [List.length_take] at hq2
  rw [List.getElem?_take_of_lt (by omega)] at hq
  obtain ⟨hq3, rfl⟩ := List.getElem?_eq_some_iff.1 hq
  rcases Nat.lt_or_ge q t with r | r
  · exact List.pairwise_iff_getElem.1 hs q t hq3 ht r
  · have e : q = t := by omega
    subst e
    exact kLt_irr _
theorem drop_ge {X : List Fm} {t : Nat} {x : Fm} (hs : Srt fK X) (hx : X[t]? = some x) : ∀ r ∈ X.drop t, kLt fK r x = false := fun r hr => by
  obtain ⟨ht, rfl⟩ := List.getElem?_eq_some_iff.1 hx
  obtain ⟨q, hq⟩ := List.getElem?_of_mem hr
  rw [List.getElem?_drop] at hq
  obtain ⟨hq3, rfl⟩ := List.getElem?_eq_some_iff.1 hq
  rcases Nat.lt_or_ge t (t + q) with r | r
  · exact List.pairwise_iff_getElem.1 hs t (t + q) ht hq3 r
  · have e : q = 0 := by omega
    subst e
    exact kLt_irr _
theorem at_L {P L R : List Fm} {h : Nat} (h1 : P.length ≤ h) (h2 : h < P.length + L.length) : (P ++ (L ++ R))[h]? = L[h - P.length]? := by
  rw [List.getElem?_append_right h1, List.getElem?_append_left (by omega)]
theorem at_R {P L R Q : List Fm} {h : Nat} (h1 : P.length + L.length ≤ h) (h2 : h < P.length + L.length + R.length) : (P ++ (L ++ (R ++ Q)))[h]? = R[h - (P.length + L.length)]? := by
  rw [List.getElem?_append_right (by omega), List.getElem?_append_right (by omega), List.getElem?_append_left (by omega)]
  congr 1; omega
theorem fm_ex (u : Fm) : ∃ op k o d fa fn fc kids, Fm.mk op k (o, d) fa fn fc kids = u := by
  obtain ⟨op, k, ⟨o, d⟩, fa, fn, fc, kids⟩ := u
  exact ⟨op, k, o, d, fa, fn, fc, kids, rfl⟩
theorem srt_one (u : Fm) : Srt fK [u] := List.pairwise_cons.2 ⟨by simp, List.Pairwise.nil⟩
set_option maxRecDepth 100000 in
set_option maxHeartbeats 8000000 in
theorem symMerge_c {g n c : Nat} (base : List Fm) (hn : n ≤ 2000000) (hB : FmsR base) : ∀ (N : Nat) (P L R Q : List Fm), L.length + R.length ≤ N → 0 < L.length → 0 < R.length → Srt fK L → Srt fK R → (∀ x ∈ L ++ R, x ∈ base) → ∀ (fr al : Nat → Prop) (W : World) (a m b : Nat), a = P.length → m = P.length + L.length → b = P.length + L.length + R.length →
    Own fr al W [rowI 26 5 (.slice (some ⟨g, 0, none⟩) n c) n (cellsL (P ++ (L ++ (R ++ Q)))), fmsI base] W →
    Calls Try.prog 179 #[.slice (some ⟨g, 0, none⟩) n c, .int .i64 (a : Int), .int .i64 (m : Int), .int .i64 (b : Int), .func (.func 47) #[] #[]] W fun e w' => e = .returned (.tuple #[]) ∧ ∃ M, (SP fK (L ++ R) M ∧ Srt fK M) ∧ Own fr al W [rowI 26 5 (.slice (some ⟨g, 0, none⟩) n c) n (cellsL (P ++ (M ++ Q))), fmsI base] w' := by
  intro N
  induction N with
  | zero => intro P L R Q h1 h2 h3; omega
  | succ N ih =>
  intro P L R Q hN hL hR hsL hsR hM fr al W a m b ha hm hb st
  have hlen := st.rowLen (i := 0) get0
  simp only [List.length_append] at hlen
  have hbn : b ≤ n ∧ a < m ∧ m < b := by omega
  have HIH := Lib.hid ih
  have HMB := Lib.hid hM
  have HSL := Lib.hid hsL
  have HSR := Lib.hid hsR
  have HCM := Lib.hid (fun x y hx hy W' hw => fmCmp_any hB (x := x) (y := y) hx hy W' hw)
  obtain ⟨ll, hll⟩ : ∃ q, m - a = q := ⟨_, rfl⟩
  obtain ⟨rl, hrl⟩ : ∃ q, b - m = q := ⟨_, rfl⟩
  have w1 : IntKind.i64.wrap ((m : Int) - (a : Int)) = (ll : Int) := by rw [← hll, show (((m - a : Nat)) : Int) = (m : Int) - (a : Int) by omega]; exact IntWalk.i64_in _ ⟨by omega, by omega⟩
  have w2 : IntKind.i64.wrap ((b : Int) - (m : Int)) = (rl : Int) := by rw [← hrl, show (((b - m : Nat)) : Int) = (b : Int) - (m : Int) by omega]; exact IntWalk.i64_in _ ⟨by omega, by omega⟩
  have HD := Lib.hid (show (a = P.length ∧ m = P.length + L.length ∧ b = P.length + L.length + R.length) ∧ (ll = L.length ∧ rl = R.length) ∧ L.length + R.length ≤ N + 1 by omega)
  have HIN : Hid (∀ h x, a ≤ h → h < b → (P ++ (L ++ (R ++ Q)))[h]? = some x → x ∈ base) := Lib.hid (fun h x h1 h2 hx => by
    refine hM x ?_
    rw [← List.append_assoc L, at_L (by omega) (by simp; omega)] at hx
    exact List.mem_of_getElem? hx)
  clear ih ha hm hb hM hsL hsR hN hL hR hll hrl hlen
  by_cases hl1 : ll = 1
  · subst hl1
    obtain ⟨u, rfl⟩ : ∃ u, L = [u] := List.length_eq_one_iff.1 HD.out.2.1.1.symm
    obtain ⟨op, k, o, d, fa, fn, fc, kids, hu⟩ := fm_ex u
    have HUE := Lib.hid hu
    clear hu
    obtain ⟨zs, hz⟩ : ∃ zs, P ++ ([u] ++ (R ++ Q)) = zs := ⟨_, rfl⟩
    rw [hz] at st HIN
    have HZ := Lib.hid hz
    have HZL := Lib.hid (st.rowLen (i := 0) get0)
    have hza : zs[a]? = some u := by rw [← hz, HD.out.1.1]; simp
    have hub := HIN.out a u (by omega) (by omega) hza
    have HUB := Lib.hid hub
    have HZA := Lib.hid hza
    have HU := Lib.hid (fm_cells (by rw [HUE.out]; exact hza))
    clear hz hza hub
    (try simp only [nsl, Value.cells, unB] at st)
    (try clear hc); have hc := st.facts; (try simp only [nfl, nft, Nat.reduceAdd] at hc)
    go_enter Try.func179, Try.ntmps179
    go_wp2_with fail
    go_loopg [10, 11] (b - m) (fun q iv jv wr => ∃ (i j : Nat), q = j - i ∧ (m ≤ i ∧ i ≤ j ∧ j ≤ b) ∧ iv = .int .i64 (i : Int) ∧ jv = .int .i64 (j : Int) ∧ Hid ((i = m ∨ ∃ x, zs[i - 1]? = some x ∧ kLt fK x u = true) ∧ (j = b ∨ ∃ x, zs[j]? = some x ∧ kLt fK x u = false)) ∧ Own fr al W [rowI 26 5 (.slice (some ⟨g, 0, none⟩) n c) n (cellsL zs), fmsI base] wr)
    case atStart => exact ⟨m, b, rfl, by omega, rfl, rfl, Lib.hid ⟨.inl rfl, .inl rfl⟩, st⟩
    case round =>
      obtain ⟨i, j, rfl, hij, rfl, rfl, HIJ, st'⟩ := hrel
      clear st hc
      have st := st'
      clear st'
      by_cases hlt : i < j
      · skip
        obtain ⟨s, hs⟩ : ∃ q, i + j = q := ⟨_, rfl⟩
        have w3 : IntKind.i64.wrap ((i : Int) + (j : Int)) = (s : Int) := by rw [← hs]; exact IntWalk.i64_in _ ⟨by omega, by omega⟩
        obtain ⟨h, hh⟩ : ∃ q, s / 2 = q := ⟨_, rfl⟩
        have w4 : (s : Int) / 2 = (h : Int) := by omega
        have hhr : i ≤ h ∧ h < j := by omega
        have w5 : IntKind.i64.wrap ((h : Int) + 1) = ((h + 1 : Nat) : Int) := IntWalk.i64_in _ ⟨by omega, by omega⟩
        have hsn : s ≤ 4000000 := by omega
        obtain ⟨x, hx⟩ : ∃ x, zs[h]? = some x := ⟨_, List.getElem?_eq_getElem (by have := HZL.out; omega)⟩
        have hxb := HIN.out h x (by omega) (by omega) hx
        obtain ⟨cv, hcv⟩ : ∃ z, cmp2 (fK x) (fK u) = z := ⟨_, rfl⟩
        have HC2 := Lib.hid (fun W' hw => HCM.out x u hxb HUB.out W' hw)
        have hneg := cmp2_neg (fK x) (fK u)
        rw [hcv] at HC2 hneg
        obtain ⟨lv, hlv⟩ : ∃ z, kLt fK x u = z := ⟨_, rfl⟩
        have hlv2 : strLt (fK x) (fK u) = lv := hlv
        rw [hlv2] at hneg
        have HX := Lib.hid hx
        have HQ : Hid (kLt fK x u = lv) := Lib.hid hlv
        have HE : Hid (∃ x, zs[h]? = some x ∧ kLt fK x u = lv) := Lib.hid ⟨x, hx, hlv⟩
        rw [← HUE.out] at HC2
        have hhn : h < n := by omega
        have han : a < n := by omega
        clear hcv hlv hlv2 hs hh hxb HQ HX
        obtain ⟨op2, k2, ⟨o2, d2⟩, fa2, fn2, fc2, kids2⟩ := x
        have HV := Lib.hid (fm_cells hx)
        clear hx
        unfold fmV S at HC2
        simp only at HC2
        cases lv with
        | true =>
          have hng : cv < 0 := hneg.2 rfl
          have HIJ2 : Hid ((h + 1 = m ∨ ∃ x, zs[h + 1 - 1]? = some x ∧ kLt fK x u = true) ∧ (j = b ∨ ∃ x, zs[j]? = some x ∧ kLt fK x u = false)) := Lib.hid ⟨.inr (by simpa using HE.out), HIJ.out.2⟩
          clear hneg
          (try simp only [nsl, Value.cells, unB] at st)
          (try clear hc); have hc := st.facts; (try simp only [nfl, nft, Nat.reduceAdd] at hc)
          go_wp2_with fail
          refine Rg4.wp_region4_eq #[0, 0, 0, 6, 14, 0, 0, 96, 224, 511, 1023] [9] [4, 8] (fun _ => True) [0, 1, 2, 3, 4, 5, 6, 7, 8, 9, 10] (by kernel_rfl) (by kernel_rfl) (by kernel_rfl) (by kernel_rfl) (show Rg4.PB _ by repeat (first | with_reducible exact Rg4.pb_body | with_reducible exact Rg4.pb_bodyD rfl | with_reducible refine Rg4.pb_then ?_ | with_reducible refine Rg4.pb_inBlock ?_ | with_reducible refine Rg4.pb_noGoto ?_)) (trivial) ?_
          replace st := st.drew
          change Rg4.wp4 _ _ _ _ _ _ _ _ _ (World.drew _) _ _
          generalize World.drew _ = w at st ⊢
          (try clear hc); have hc := st.facts; (try simp only [nfl, nft, Nat.reduceAdd] at hc)
          iterate 4 (refine Rg4.w4_any (Rg4.want_none rfl) rfl ?_; apply Exists.intro; refine ⟨fun w' => ?_, ?_⟩; (focus (first | (go_simp; done) | (go_simp; first | rfl | (rw [if_neg] <;> first | rfl | omega) | (rw [if_pos] <;> first | rfl | omega)))); (try simp only [Rg4.nrm]))
          (refine Rg4.w4_read (Rg4.want_none rfl) rfl rfl ?_; apply Exists.intro; refine ⟨fun w' hw' hcl' => ?_, ?_⟩; focus (subst hw'; have r0 := st.rowC (i := 0) get0 _ _ HU.out.1; have r1 := st.rowC (i := 0) get0 _ _ HU.out.2.1; have r2 := st.rowC (i := 0) get0 _ _ HU.out.2.2.1; have r3 := st.rowC (i := 0) get0 _ _ HU.out.2.2.2.1; have r4 := st.rowC (i := 0) get0 _ _ HU.out.2.2.2.2; have q0 := st.rowC (i := 0) get0 _ _ HV.out.1; have q1 := st.rowC (i := 0) get0 _ _ HV.out.2.1; have q2 := st.rowC (i := 0) get0 _ _ HV.out.2.2.1; have q3 := st.rowC (i := 0) get0 _ _ HV.out.2.2.2.1; have q4 := st.rowC (i := 0) get0 _ _ HV.out.2.2.2.2; (focus (first | (go_simp; done) | (go_simp; first | rfl | (rw [if_neg] <;> first | rfl | omega) | (rw [if_pos] <;> first | rfl | omega))))); (try simp only [Rg4.nrm]))
          iterate 3 (refine Rg4.w4_any (Rg4.want_none rfl) rfl ?_; apply Exists.intro; refine ⟨fun w' => ?_, ?_⟩; (focus (first | (go_simp; done) | (go_simp; first | rfl | (rw [if_neg] <;> first | rfl | omega) | (rw [if_pos] <;> first | rfl | omega)))); (try simp only [Rg4.nrm]))
          (refine Rg4.w4_read (Rg4.want_none rfl) rfl rfl ?_; apply Exists.intro; refine ⟨fun w' hw' hcl' => ?_, ?_⟩; focus (subst hw'; have r0 := st.rowC (i := 0) get0 _ _ HU.out.1; have r1 := st.rowC (i := 0) get0 _ _ HU.out.2.1; have r2 := st.rowC (i := 0) get0 _ _ HU.out.2.2.1; have r3 := st.rowC (i := 0) get0 _ _ HU.out.2.2.2.1; have r4 := st.rowC (i := 0) get0 _ _ HU.out.2.2.2.2; have q0 := st.rowC (i := 0) get0 _ _ HV.out.1; have q1 := st.rowC (i := 0) get0 _ _ HV.out.2.1; have q2 := st.rowC (i := 0) get0 _ _ HV.out.2.2.1; have q3 := st.rowC (i := 0) get0 _ _ HV.out.2.2.2.1; have q4 := st.rowC (i := 0) get0 _ _ HV.out.2.2.2.2; (focus (first | (go_simp; done) | (go_simp; first | rfl | (rw [if_neg] <;> first | rfl | omega) | (rw [if_pos] <;> first | rfl | omega))))); (try simp only [Rg4.nrm]))
          refine Rg4.w4_bar (Rg4.want_none rfl) rfl (fun w' hw' hcl _ K hK => ?_)
          subst hw'
          go_wp2_with fail
          refine (HC2.out _ (st.fms (i := 1) get1)).mono ?_
          rintro en w ⟨rfl, hx⟩
          replace st := st.ext hx
          clear hx
          (try clear hc); have hc := st.facts; (try simp only [nfl, nft, Nat.reduceAdd] at hc)
          refine hK _ _ ⟨trivial, ?_⟩
          clear hK
          (try simp only [Rg4.nrm])
          (refine Rg4.w4_any (Rg4.want_none rfl) rfl ?_; apply Exists.intro; refine ⟨fun w' => ?_, ?_⟩; (focus (first | (go_simp; done) | (go_simp; first | rfl | (rw [if_neg] <;> first | rfl | omega) | (rw [if_pos] <;> first | rfl | omega)))); (try simp only [Rg4.nrm]))
          refine Rg4.w4_nil (fun w' hw' hcl' _ => ?_); subst hw'; clear hcl'
          go_wp2_with fail
          go_roundg (j - (h + 1))
          case measure => omega
          case rel => exact ⟨h + 1, j, rfl, by omega, rfl, rfl, HIJ2, st⟩
        | false =>
          have hng : ¬ cv < 0 := fun q => by have := hneg.1 q; cases this
          have HIJ2 : Hid ((i = m ∨ ∃ x, zs[i - 1]? = some x ∧ kLt fK x u = true) ∧ (h = b ∨ ∃ x, zs[h]? = some x ∧ kLt fK x u = false)) := Lib.hid ⟨HIJ.out.1, .inr HE.out⟩
          clear hneg
          (try simp only [nsl, Value.cells, unB] at st)
          (try clear hc); have hc := st.facts; (try simp only [nfl, nft, Nat.reduceAdd] at hc)
          go_wp2_with fail
          refine Rg4.wp_region4_eq #[0, 0, 0, 6, 14, 0, 0, 96, 224, 511, 1023] [9] [4, 8] (fun _ => True) [0, 1, 2, 3, 4, 5, 6, 7, 8, 9, 10] (by kernel_rfl) (by kernel_rfl) (by kernel_rfl) (by kernel_rfl) (show Rg4.PB _ by repeat (first | with_reducible exact Rg4.pb_body | with_reducible exact Rg4.pb_bodyD rfl | with_reducible refine Rg4.pb_then ?_ | with_reducible refine Rg4.pb_inBlock ?_ | with_reducible refine Rg4.pb_noGoto ?_)) (trivial) ?_
          replace st := st.drew
          change Rg4.wp4 _ _ _ _ _ _ _ _ _ (World.drew _) _ _
          generalize World.drew _ = w at st ⊢
          (try clear hc); have hc := st.facts; (try simp only [nfl, nft, Nat.reduceAdd] at hc)
          iterate 4 (refine Rg4.w4_any (Rg4.want_none rfl) rfl ?_; apply Exists.intro; refine ⟨fun w' => ?_, ?_⟩; (focus (first | (go_simp; done) | (go_simp; first | rfl | (rw [if_neg] <;> first | rfl | omega) | (rw [if_pos] <;> first | rfl | omega)))); (try simp only [Rg4.nrm]))
          (refine Rg4.w4_read (Rg4.want_none rfl) rfl rfl ?_; apply Exists.intro; refine ⟨fun w' hw' hcl' => ?_, ?_⟩; focus (subst hw'; have r0 := st.rowC (i := 0) get0 _ _ HU.out.1; have r1 := st.rowC (i := 0) get0 _ _ HU.out.2.1; have r2 := st.rowC (i := 0) get0 _ _ HU.out.2.2.1; have r3 := st.rowC (i := 0) get0 _ _ HU.out.2.2.2.1; have r4 := st.rowC (i := 0) get0 _ _ HU.out.2.2.2.2; have q0 := st.rowC (i := 0) get0 _ _ HV.out.1; have q1 := st.rowC (i := 0) get0 _ _ HV.out.2.1; have q2 := st.rowC (i := 0) get0 _ _ HV.out.2.2.1; have q3 := st.rowC (i := 0) get0 _ _ HV.out.2.2.2.1; have q4 := st.rowC (i := 0) get0 _ _ HV.out.2.2.2.2; (focus (first | (go_simp; done) | (go_simp; first | rfl | (rw [if_neg] <;> first | rfl | omega) | (rw [if_pos] <;> first | rfl | omega))))); (try simp only [Rg4.nrm]))
          iterate 3 (refine Rg4.w4_any (Rg4.want_none rfl) rfl ?_; apply Exists.intro; refine ⟨fun w' => ?_, ?_⟩; (focus (first | (go_simp; done) | (go_simp; first | rfl | (rw [if_neg] <;> first | rfl | omega) | (rw [if_pos] <;> first | rfl | omega)))); (try simp only [Rg4.nrm]))
          (refine Rg4.w4_read (Rg4.want_none rfl) rfl rfl ?_; apply Exists.intro; refine ⟨fun w' hw' hcl' => ?_, ?_⟩; focus (subst hw'; have r0 := st.rowC (i := 0) get0 _ _ HU.out.1; have r1 := st.rowC (i := 0) get0 _ _ HU.out.2.1; have r2 := st.rowC (i := 0) get0 _ _ HU.out.2.2.1; have r3 := st.rowC (i := 0) get0 _ _ HU.out.2.2.2.1; have r4 := st.rowC (i := 0) get0 _ _ HU.out.2.2.2.2; have q0 := st.rowC (i := 0) get0 _ _ HV.out.1; have q1 := st.rowC (i := 0) get0 _ _ HV.out.2.1; have q2 := st.rowC (i := 0) get0 _ _ HV.out.2.2.1; have q3 := st.rowC (i := 0) get0 _ _ HV.out.2.2.2.1; have q4 := st.rowC (i := 0) get0 _ _ HV.out.2.2.2.2; (focus (first | (go_simp; done) | (go_simp; first | rfl | (rw [if_neg] <;> first | rfl | omega) | (rw [if_pos] <;> first | rfl | omega))))); (try simp only [Rg4.nrm]))
          refine Rg4.w4_bar (Rg4.want_none rfl) rfl (fun w' hw' hcl _ K hK => ?_)
          subst hw'
          go_wp2_with fail
          refine (HC2.out _ (st.fms (i := 1) get1)).mono ?_
          rintro en w ⟨rfl, hx⟩
          replace st := st.ext hx
          clear hx
          (try clear hc); have hc := st.facts; (try simp only [nfl, nft, Nat.reduceAdd] at hc)
          refine hK _ _ ⟨trivial, ?_⟩
          clear hK
          (try simp only [Rg4.nrm])
          (refine Rg4.w4_any (Rg4.want_none rfl) rfl ?_; apply Exists.intro; refine ⟨fun w' => ?_, ?_⟩; (focus (first | (go_simp; done) | (go_simp; first | rfl | (rw [if_neg] <;> first | rfl | omega) | (rw [if_pos] <;> first | rfl | omega)))); (try simp only [Rg4.nrm]))
          refine Rg4.w4_nil (fun w' hw' hcl' _ => ?_); subst hw'; clear hcl'
          go_wp2_with fail
          go_roundg (h - i)
          case measure => omega
          case rel => exact ⟨i, h, rfl, by omega, rfl, rfl, HIJ2, st⟩
      · obtain rfl : i = j := by omega
        obtain ⟨t, ht⟩ : ∃ q, i - m = q := ⟨_, rfl⟩
        have hD := HD.out
        simp only [List.length_cons, List.length_nil] at hD
        have hc1 : ∀ r ∈ R.take t, kLt fK r u = true := by
          rcases HIJ.out.1 with q | ⟨x, q1, q2⟩
          · have : t = 0 := by omega
            subst this; simp
          · rcases Nat.eq_zero_or_pos t with t0 | t0
            · subst t0; simp
            · rw [← HZ.out, at_R (by simp; omega) (by simp; omega)] at q1
              simp only [List.length_cons, List.length_nil] at q1
              rw [show i - 1 - (P.length + (0 + 1)) = t - 1 by omega] at q1
              have := take_le HSR.out q1
              rw [show t - 1 + 1 = t by omega] at this
              exact fun r hr => kLe_lt (this r hr) q2
        have hc2 : ∀ r ∈ R.drop t, kLt fK r u = false := by
          rcases HIJ.out.2 with q | ⟨x, q1, q2⟩
          · rw [List.drop_of_length_le (by omega)]; simp
          · rcases Nat.lt_or_ge i b with t0 | t0
            · rw [← HZ.out, at_R (by simp; omega) (by simp; omega)] at q1
              simp only [List.length_cons, List.length_nil] at q1
              rw [show i - (P.length + (0 + 1)) = t by omega] at q1
              exact fun r hr => kLe_tr q2 (drop_ge HSR.out q1 r hr)
            · rw [List.drop_of_length_le (by omega)]; simp
        have eR : R = R.take t ++ R.drop t := (List.take_append_drop _ _).symm
        have lR : (R.take t).length = t := by simp; omega
        generalize R.take t = R1 at *
        generalize R.drop t = R2 at *
        subst eR
        have hsp := sym_sp (key := fK) (L1 := []) (L2 := [u]) (R1 := R1) (R2 := R2) (fun r hr l hl => by rw [List.mem_singleton.1 hl]; exact hc1 r hr)
        have hst := sym_srt (key := fK) (L1 := []) (L2 := [u]) (R1 := R1) (R2 := R2) (A := R1) (B := u :: R2) (srt_one u) HSR.out (by simp) (fun r hr l hl => by rw [List.mem_singleton.1 hl]; exact hc1 r hr) (SP.refl _) HSR.out.left (SP.refl _) (List.pairwise_cons.2 ⟨hc2, HSR.out.right⟩)
        have HF : Hid (SP fK ([u] ++ (R1 ++ R2)) (R1 ++ u :: R2) ∧ Srt fK (R1 ++ u :: R2)) := Lib.hid ⟨by simpa using hsp, hst⟩
        obtain ⟨i1, hi1⟩ : ∃ q, i - 1 = q := ⟨_, rfl⟩
        have w6 : IntKind.i64.wrap ((i : Int) - 1) = (i1 : Int) := by rw [← hi1, show (((i - 1 : Nat)) : Int) = (i : Int) - 1 by omega]; exact IntWalk.i64_in _ ⟨by omega, by omega⟩
        have hi1t : i1 = a + t := by omega
        have HRT := Lib.hid lR
        have htn : a + t + 1 ≤ n := by omega
        have st0 : Own fr al W [rowI 26 5 (.slice (some ⟨g, 0, none⟩) n c) n (cellsL (P ++ (R1.take 0 ++ u :: (R1.drop 0 ++ (R2 ++ Q))))), fmsI base] wr := by
          have := HZ.out
          rw [← this] at st
          simpa using st
        clear st hc1 hc2 hsp hst hD ht hi1 HIJ HZ lR hij
        have st := st0
        clear st0
        (try simp only [nsl, Value.cells, unB] at st)
        (try clear hc); have hc := st.facts; (try simp only [nfl, nft, Nat.reduceAdd] at hc)
        go_wp2_with fail
        go_loopg [13] t (fun q kv wr => ∃ (y : Nat), q = t - y ∧ y ≤ t ∧ kv = .int .i64 ((a + y : Nat) : Int) ∧ Own fr al W [rowI 26 5 (.slice (some ⟨g, 0, none⟩) n c) n (cellsL (P ++ (R1.take y ++ u :: (R1.drop y ++ (R2 ++ Q))))), fmsI base] wr)
        case atStart => exact ⟨0, by omega, by omega, rfl, st⟩
        case round =>
          obtain ⟨y, rfl, hy, rfl, st'⟩ := hrel
          clear st hc
          have st := st'
          clear st'
          obtain ⟨p, hp⟩ : ∃ q, a + y = q := ⟨_, rfl⟩
          rw [hp]
          by_cases hyt : y < t
          · have hyr : y < R1.length := by have := HRT.out; omega
            obtain ⟨v, hv⟩ : ∃ v, R1[y] = v := ⟨_, rfl⟩
            have e1 : R1.drop y = v :: R1.drop (y + 1) := by rw [List.drop_eq_getElem_cons hyr, hv]
            have e2 : R1.take (y + 1) = R1.take y ++ [v] := by rw [← hv]; exact (List.take_append_getElem hyr).symm
            have hpl : p = (P ++ R1.take y).length := by have := HD.out.1.1; simp; omega
            obtain ⟨q, hq⟩ : ∃ q, p + 1 = q := ⟨_, rfl⟩
            have hql : q = (P ++ R1.take y).length + 1 + ([] : List Fm).length := by simp at hpl ⊢; omega
            obtain ⟨zz, hzz⟩ : ∃ z, (P ++ R1.take y) ++ u :: ([] ++ v :: (R1.drop (y + 1) ++ (R2 ++ Q))) = z := ⟨_, rfl⟩
            have hz2 : P ++ (R1.take y ++ u :: (R1.drop y ++ (R2 ++ Q))) = zz := by rw [← hzz, e1]; simp
            rw [hz2] at st
            have hzl2 := st.rowLen (i := 0) get0
            have hzp : zz[p]? = some u := by rw [← hzz, hpl]; exact at_p _ _ _ _ _
            have hzq : zz[q]? = some v := by rw [← hzz, hql]; exact at_q _ _ _ _ _
            have hpz : p < zz.length := (List.getElem?_eq_some_iff.1 hzp).1
            have hqz : q < zz.length := (List.getElem?_eq_some_iff.1 hzq).1
            have HN : Hid ((zz.set p v).set q u = P ++ (R1.take (y + 1) ++ u :: (R1.drop (y + 1) ++ (R2 ++ Q)))) := Lib.hid (by
              have := swap_pq (P ++ R1.take y) [] (R1.drop (y + 1) ++ (R2 ++ Q)) u v
              rw [← hql, ← hpl, hzz] at this
              rw [this, e2]; simp)
            have w7 : IntKind.i64.wrap ((p : Int) + 1) = (q : Int) := by rw [← hq]; exact IntWalk.i64_in _ ⟨by omega, by omega⟩
            have hpi : (p : Int) < (i1 : Int) := by omega
            have hpn : p < n := by omega
            have hqn : q < n := by omega
            have hay : ((a + (y + 1) : Nat) : Int) = (q : Int) := by omega
            rw [← HUE.out] at hzp HN
            obtain ⟨op2, k2, ⟨o2, d2⟩, fa2, fn2, fc2, kids2⟩ := v
            have HU := Lib.hid (fm_cells hzp)
            have HV := Lib.hid (fm_cells hzq)
            have HS1 := Lib.hid (fm_store hpz op2 k2 o2 d2 fa2 fn2 fc2 kids2)
            have HS2 := Lib.hid (fm_store (zs := zz.set p (.mk op2 k2 (o2, d2) fa2 fn2 fc2 kids2)) (j := q) (by simpa using hqz) op k o d fa fn fc kids)
            clear hzp hzq hpz hqz e1 e2 hpl hql hzz hz2 hzl2 hv hyr hp hq
            (try simp only [nsl, Value.cells, unB] at st)
            (try clear hc); have hc := st.facts; (try simp only [nfl, nft, Nat.reduceAdd] at hc)
            go_wp2_with fail
            refine Rg4.wp_region4_eq #[0, 0, 0, 0, 8, 0, 0, 64, 224, 480, 0, 0, 3072, 7168, 16355, 32739, 65535, 131071] [15, 17] [9, 13] (fun _ => True) [0, 1, 2, 3, 4, 5, 6, 7, 8, 9, 10, 11, 12, 13, 14, 15, 16, 17] (by kernel_rfl) (by kernel_rfl) (by kernel_rfl) (by kernel_rfl) (show Rg4.PB _ by repeat (first | with_reducible exact Rg4.pb_body | with_reducible exact Rg4.pb_bodyD rfl | with_reducible refine Rg4.pb_then ?_ | with_reducible refine Rg4.pb_inBlock ?_ | with_reducible refine Rg4.pb_noGoto ?_)) (trivial) ?_
            replace st := st.drew
            change Rg4.wp4 _ _ _ _ _ _ _ _ _ (World.drew _) _ _
            generalize World.drew _ = w at st ⊢
            (try clear hc); have hc := st.facts; (try simp only [nfl, nft, Nat.reduceAdd] at hc)
            iterate 9 (refine Rg4.w4_any (Rg4.want_none rfl) rfl ?_; apply Exists.intro; refine ⟨fun w' => ?_, ?_⟩; (focus (first | (go_simp; done) | (go_simp; first | rfl | (rw [if_neg] <;> first | rfl | omega) | (rw [if_pos] <;> first | rfl | omega)))); (try simp only [Rg4.nrm]))
            (refine Rg4.w4_read (Rg4.want_none rfl) rfl rfl ?_; apply Exists.intro; refine ⟨fun w' hw' hcl' => ?_, ?_⟩; focus (subst hw'; have r0 := st.rowC (i := 0) get0 _ _ HU.out.1; have r1 := st.rowC (i := 0) get0 _ _ HU.out.2.1; have r2 := st.rowC (i := 0) get0 _ _ HU.out.2.2.1; have r3 := st.rowC (i := 0) get0 _ _ HU.out.2.2.2.1; have r4 := st.rowC (i := 0) get0 _ _ HU.out.2.2.2.2; have q0 := st.rowC (i := 0) get0 _ _ HV.out.1; have q1 := st.rowC (i := 0) get0 _ _ HV.out.2.1; have q2 := st.rowC (i := 0) get0 _ _ HV.out.2.2.1; have q3 := st.rowC (i := 0) get0 _ _ HV.out.2.2.2.1; have q4 := st.rowC (i := 0) get0 _ _ HV.out.2.2.2.2; (focus (first | (go_simp; done) | (go_simp; first | rfl | (rw [if_neg] <;> first | rfl | omega) | (rw [if_pos] <;> first | rfl | omega))))); (try simp only [Rg4.nrm]))
            iterate 3 (refine Rg4.w4_any (Rg4.want_none rfl) rfl ?_; apply Exists.intro; refine ⟨fun w' => ?_, ?_⟩; (focus (first | (go_simp; done) | (go_simp; first | rfl | (rw [if_neg] <;> first | rfl | omega) | (rw [if_pos] <;> first | rfl | omega)))); (try simp only [Rg4.nrm]))
            (refine Rg4.w4_read (Rg4.want_none rfl) rfl rfl ?_; apply Exists.intro; refine ⟨fun w' hw' hcl' => ?_, ?_⟩; focus (subst hw'; have r0 := st.rowC (i := 0) get0 _ _ HU.out.1; have r1 := st.rowC (i := 0) get0 _ _ HU.out.2.1; have r2 := st.rowC (i := 0) get0 _ _ HU.out.2.2.1; have r3 := st.rowC (i := 0) get0 _ _ HU.out.2.2.2.1; have r4 := st.rowC (i := 0) get0 _ _ HU.out.2.2.2.2; have q0 := st.rowC (i := 0) get0 _ _ HV.out.1; have q1 := st.rowC (i := 0) get0 _ _ HV.out.2.1; have q2 := st.rowC (i := 0) get0 _ _ HV.out.2.2.1; have q3 := st.rowC (i := 0) get0 _ _ HV.out.2.2.2.1; have q4 := st.rowC (i := 0) get0 _ _ HV.out.2.2.2.2; (focus (first | (go_simp; done) | (go_simp; first | rfl | (rw [if_neg] <;> first | rfl | omega) | (rw [if_pos] <;> first | rfl | omega))))); (try simp only [Rg4.nrm]))
            (refine Rg4.w4_any (Rg4.want_none rfl) rfl ?_; apply Exists.intro; refine ⟨fun w' => ?_, ?_⟩; (focus (first | (go_simp; done) | (go_simp; first | rfl | (rw [if_neg] <;> first | rfl | omega) | (rw [if_pos] <;> first | rfl | omega)))); (try simp only [Rg4.nrm]))
            refine Rg4.w4_bar (Rg4.want_none rfl) rfl (fun w' hw' hcl _ K hK => ?_)
            subst hw'
            refine owp_storeRow' rfl st ?_
            apply Exists.intro; apply Exists.intro
            refine ⟨?_, ?_, ?_⟩
            (focus (go_simp; try rfl))
            (focus (go_simp; try rfl))
            refine ⟨0, _, _, _, _, _, _, _, _, get0, rfl, rfl, ?_, ?_, ?_, ?_⟩
            · kernel_rfl
            · simp [Value.cells]; omega
            · rfl
            clear st
            intro w st
            simp only [List.set_cons_zero, Value.cells] at st
            rw [HS1.out] at st
            refine hK _ _ ⟨trivial, ?_⟩
            clear hK
            (try simp only [Rg4.nrm])
            (refine Rg4.w4_any (Rg4.want_none rfl) rfl ?_; apply Exists.intro; refine ⟨fun w' => ?_, ?_⟩; (focus (first | (go_simp; done) | (go_simp; first | rfl | (rw [if_neg] <;> first | rfl | omega) | (rw [if_pos] <;> first | rfl | omega)))); (try simp only [Rg4.nrm]))
            refine Rg4.w4_bar (Rg4.want_none rfl) rfl (fun w' hw' hcl _ K hK => ?_)
            subst hw'
            refine owp_storeRow' rfl st ?_
            apply Exists.intro; apply Exists.intro
            refine ⟨?_, ?_, ?_⟩
            (focus (go_simp; try rfl))
            (focus (go_simp; try rfl))
            refine ⟨0, _, _, _, _, _, _, _, _, get0, rfl, rfl, ?_, ?_, ?_, ?_⟩
            · kernel_rfl
            · simp [Value.cells]; omega
            · rfl
            clear st
            intro w st
            simp only [List.set_cons_zero, Value.cells] at st
            rw [HS2.out] at st
            refine hK _ _ ⟨trivial, ?_⟩
            clear hK
            (try simp only [Rg4.nrm])
            refine Rg4.w4_nil (fun w' hw' hcl' _ => ?_); subst hw'; clear hcl'
            rw [HN.out, HUE.out] at st
            go_wp2_with fail
            go_roundg (t - (y + 1))
            case measure => omega
            case rel => exact ⟨y + 1, rfl, by omega, by rw [hay], st⟩
          · obtain rfl : y = t := by omega
            have hpi : ¬ (p : Int) < (i1 : Int) := by omega
            have st0 : Own fr al W [rowI 26 5 (.slice (some ⟨g, 0, none⟩) n c) n (cellsL (P ++ ((R1 ++ u :: R2) ++ Q))), fmsI base] wr := by
              rw [List.take_of_length_le (by have := HRT.out; omega), List.drop_of_length_le (by have := HRT.out; omega)] at st
              simpa using st
            clear st
            have st := st0
            clear st0
            go_wp2_with fail
            (try simp only [Exit.inBlock, Exit.then])
            refine bodyPost_ret (results_none rfl _ _ _) rfl ?_
            exact ⟨rfl, R1 ++ u :: R2, HF.out, st⟩
  · by_cases hr1 : rl = 1
    · subst hr1
      obtain ⟨v, rfl⟩ : ∃ v, R = [v] := List.length_eq_one_iff.1 HD.out.2.1.2.symm
      obtain ⟨op, k, o, d, fa, fn, fc, kids, hu⟩ := fm_ex v
      have HUE := Lib.hid hu
      clear hu
      obtain ⟨zs, hz⟩ : ∃ zs, P ++ (L ++ ([v] ++ Q)) = zs := ⟨_, rfl⟩
      rw [hz] at st HIN
      have HZ := Lib.hid hz
      have HZL := Lib.hid (st.rowLen (i := 0) get0)
      have hza : zs[m]? = some v := by
        have hD := HD.out
        simp only [List.length_cons, List.length_nil] at hD
        rw [← hz, at_R (by omega) (by simp; omega), show m - (P.length + L.length) = 0 by omega]; rfl
      have hub := HIN.out m v (by omega) (by omega) hza
      have HUB := Lib.hid hub
      have HU := Lib.hid (fm_cells (by rw [HUE.out]; exact hza))
      have hlne : ¬ (ll : Int) = 1 := by omega
      have hlneb : ((ll : Int) == 1) = false := by simp; omega
      clear hz hza hub
      (try simp only [nsl, Value.cells, unB] at st)
      (try clear hc); have hc := st.facts; (try simp only [nfl, nft, Nat.reduceAdd] at hc)
      go_enter Try.func179, Try.ntmps179
      go_wp2_with fail
      go_loopg [14, 15] (m - a) (fun q iv jv wr => ∃ (i j : Nat), q = j - i ∧ (a ≤ i ∧ i ≤ j ∧ j ≤ m) ∧ iv = .int .i64 (i : Int) ∧ jv = .int .i64 (j : Int) ∧ Hid ((i = a ∨ ∃ x, zs[i - 1]? = some x ∧ kLt fK v x = false) ∧ (j = m ∨ ∃ x, zs[j]? = some x ∧ kLt fK v x = true)) ∧ Own fr al W [rowI 26 5 (.slice (some ⟨g, 0, none⟩) n c) n (cellsL zs), fmsI base] wr)
      case atStart => exact ⟨a, m, rfl, by omega, rfl, rfl, Lib.hid ⟨.inl rfl, .inl rfl⟩, st⟩
      case round =>
        obtain ⟨i, j, rfl, hij, rfl, rfl, HIJ, st'⟩ := hrel
        clear st hc
        have st := st'
        clear st'
        by_cases hlt : i < j
        · skip
          obtain ⟨s, hs⟩ : ∃ q, i + j = q := ⟨_, rfl⟩
          have w3 : IntKind.i64.wrap ((i : Int) + (j : Int)) = (s : Int) := by rw [← hs]; exact IntWalk.i64_in _ ⟨by omega, by omega⟩
          obtain ⟨h, hh⟩ : ∃ q, s / 2 = q := ⟨_, rfl⟩
          have w4 : (s : Int) / 2 = (h : Int) := by omega
          have hhr : i ≤ h ∧ h < j := by omega
          have w5 : IntKind.i64.wrap ((h : Int) + 1) = ((h + 1 : Nat) : Int) := IntWalk.i64_in _ ⟨by omega, by omega⟩
          have hsn : s ≤ 4000000 := by omega
          obtain ⟨x, hx⟩ : ∃ x, zs[h]? = some x := ⟨_, List.getElem?_eq_getElem (by have := HZL.out; omega)⟩
          have hxb := HIN.out h x (by omega) (by omega) hx
          obtain ⟨cv, hcv⟩ : ∃ z, cmp2 (fK v) (fK x) = z := ⟨_, rfl⟩
          have HC2 := Lib.hid (fun W' hw => HCM.out v x HUB.out hxb W' hw)
          have hneg := cmp2_neg (fK v) (fK x)
          rw [hcv] at HC2 hneg
          obtain ⟨lv, hlv⟩ : ∃ z, kLt fK v x = z := ⟨_, rfl⟩
          have hlv2 : strLt (fK v) (fK x) = lv := hlv
          rw [hlv2] at hneg
          have HE : Hid (∃ x, zs[h]? = some x ∧ kLt fK v x = lv) := Lib.hid ⟨x, hx, hlv⟩
          rw [← HUE.out] at HC2
          have hhn : h < n := by omega
          have han : m < n := by omega
          clear hcv hlv hlv2 hs hh hxb
          obtain ⟨op2, k2, ⟨o2, d2⟩, fa2, fn2, fc2, kids2⟩ := x
          have HV := Lib.hid (fm_cells hx)
          clear hx
          unfold fmV S at HC2
          simp only at HC2
          cases lv with
          | false =>
            have hng : ¬ cv < 0 := fun q => by have := hneg.1 q; cases this
            have hdc : decide (cv < 0) = false := decide_eq_false hng
            have HIJ2 : Hid ((h + 1 = a ∨ ∃ x, zs[h + 1 - 1]? = some x ∧ kLt fK v x = false) ∧ (j = m ∨ ∃ x, zs[j]? = some x ∧ kLt fK v x = true)) := Lib.hid ⟨.inr (by simpa using HE.out), HIJ.out.2⟩
            clear hneg
            (try simp only [nsl, Value.cells, unB] at st)
            (try clear hc); have hc := st.facts; (try simp only [nfl, nft, Nat.reduceAdd] at hc)
            go_wp2_with fail
            refine Rg4.wp_region4_eq #[0, 0, 0, 6, 14, 0, 0, 96, 224, 511, 1023, 2047] [9] [4, 8] (fun _ => True) [0, 1, 2, 3, 4, 5, 6, 7, 8, 9, 10, 11] (by kernel_rfl) (by kernel_rfl) (by kernel_rfl) (by kernel_rfl) (show Rg4.PB _ by repeat (first | with_reducible exact Rg4.pb_body | with_reducible exact Rg4.pb_bodyD rfl | with_reducible refine Rg4.pb_then ?_ | with_reducible refine Rg4.pb_inBlock ?_ | with_reducible refine Rg4.pb_noGoto ?_)) (trivial) ?_
            replace st := st.drew
            change Rg4.wp4 _ _ _ _ _ _ _ _ _ (World.drew _) _ _
            generalize World.drew _ = w at st ⊢
            (try clear hc); have hc := st.facts; (try simp only [nfl, nft, Nat.reduceAdd] at hc)
            iterate 4 (refine Rg4.w4_any (Rg4.want_none rfl) rfl ?_; apply Exists.intro; refine ⟨fun w' => ?_, ?_⟩; (focus (first | (go_simp; done) | (go_simp; first | rfl | (rw [if_neg] <;> first | rfl | omega) | (rw [if_pos] <;> first | rfl | omega)))); (try simp only [Rg4.nrm]))
            (refine Rg4.w4_read (Rg4.want_none rfl) rfl rfl ?_; apply Exists.intro; refine ⟨fun w' hw' hcl' => ?_, ?_⟩; focus (subst hw'; have r0 := st.rowC (i := 0) get0 _ _ HU.out.1; have r1 := st.rowC (i := 0) get0 _ _ HU.out.2.1; have r2 := st.rowC (i := 0) get0 _ _ HU.out.2.2.1; have r3 := st.rowC (i := 0) get0 _ _ HU.out.2.2.2.1; have r4 := st.rowC (i := 0) get0 _ _ HU.out.2.2.2.2; have q0 := st.rowC (i := 0) get0 _ _ HV.out.1; have q1 := st.rowC (i := 0) get0 _ _ HV.out.2.1; have q2 := st.rowC (i := 0) get0 _ _ HV.out.2.2.1; have q3 := st.rowC (i := 0) get0 _ _ HV.out.2.2.2.1; have q4 := st.rowC (i := 0) get0 _ _ HV.out.2.2.2.2; (focus (first | (go_simp; done) | (go_simp; first | rfl | (rw [if_neg] <;> first | rfl | omega) | (rw [if_pos] <;> first | rfl | omega))))); (try simp only [Rg4.nrm]))
            iterate 3 (refine Rg4.w4_any (Rg4.want_none rfl) rfl ?_; apply Exists.intro; refine ⟨fun w' => ?_, ?_⟩; (focus (first | (go_simp; done) | (go_simp; first | rfl | (rw [if_neg] <;> first | rfl | omega) | (rw [if_pos] <;> first | rfl | omega)))); (try simp only [Rg4.nrm]))
            (refine Rg4.w4_read (Rg4.want_none rfl) rfl rfl ?_; apply Exists.intro; refine ⟨fun w' hw' hcl' => ?_, ?_⟩; focus (subst hw'; have r0 := st.rowC (i := 0) get0 _ _ HU.out.1; have r1 := st.rowC (i := 0) get0 _ _ HU.out.2.1; have r2 := st.rowC (i := 0) get0 _ _ HU.out.2.2.1; have r3 := st.rowC (i := 0) get0 _ _ HU.out.2.2.2.1; have r4 := st.rowC (i := 0) get0 _ _ HU.out.2.2.2.2; have q0 := st.rowC (i := 0) get0 _ _ HV.out.1; have q1 := st.rowC (i := 0) get0 _ _ HV.out.2.1; have q2 := st.rowC (i := 0) get0 _ _ HV.out.2.2.1; have q3 := st.rowC (i := 0) get0 _ _ HV.out.2.2.2.1; have q4 := st.rowC (i := 0) get0 _ _ HV.out.2.2.2.2; (focus (first | (go_simp; done) | (go_simp; first | rfl | (rw [if_neg] <;> first | rfl | omega) | (rw [if_pos] <;> first | rfl | omega))))); (try simp only [Rg4.nrm]))
            refine Rg4.w4_bar (Rg4.want_none rfl) rfl (fun w' hw' hcl _ K hK => ?_)
            subst hw'
            go_wp2_with fail
            refine (HC2.out _ (st.fms (i := 1) get1)).mono ?_
            rintro en w ⟨rfl, hx⟩
            replace st := st.ext hx
            clear hx
            (try clear hc); have hc := st.facts; (try simp only [nfl, nft, Nat.reduceAdd] at hc)
            refine hK _ _ ⟨trivial, ?_⟩
            clear hK
            (try simp only [Rg4.nrm])
            iterate 2 (refine Rg4.w4_any (Rg4.want_none rfl) rfl ?_; apply Exists.intro; refine ⟨fun w' => ?_, ?_⟩; (focus (first | (go_simp; done) | (go_simp; first | rfl | (rw [if_neg] <;> first | rfl | omega) | (rw [if_pos] <;> first | rfl | omega)))); (try simp only [Rg4.nrm]))
            refine Rg4.w4_nil (fun w' hw' hcl' _ => ?_); subst hw'; clear hcl'
            go_wp2_with fail
            go_roundg (j - (h + 1))
            case measure => omega
            case rel => exact ⟨h + 1, j, rfl, by omega, rfl, rfl, HIJ2, st⟩
          | true =>
            have hng : cv < 0 := hneg.2 rfl
            have hdc : decide (cv < 0) = true := decide_eq_true hng
            have HIJ2 : Hid ((i = a ∨ ∃ x, zs[i - 1]? = some x ∧ kLt fK v x = false) ∧ (h = m ∨ ∃ x, zs[h]? = some x ∧ kLt fK v x = true)) := Lib.hid ⟨HIJ.out.1, .inr HE.out⟩
            clear hneg
            (try simp only [nsl, Value.cells, unB] at st)
            (try clear hc); have hc := st.facts; (try simp only [nfl, nft, Nat.reduceAdd] at hc)
            go_wp2_with fail
            refine Rg4.wp_region4_eq #[0, 0, 0, 6, 14, 0, 0, 96, 224, 511, 1023, 2047] [9] [4, 8] (fun _ => True) [0, 1, 2, 3, 4, 5, 6, 7, 8, 9, 10, 11] (by kernel_rfl) (by kernel_rfl) (by kernel_rfl) (by kernel_rfl) (show Rg4.PB _ by repeat (first | with_reducible exact Rg4.pb_body | with_reducible exact Rg4.pb_bodyD rfl | with_reducible refine Rg4.pb_then ?_ | with_reducible refine Rg4.pb_inBlock ?_ | with_reducible refine Rg4.pb_noGoto ?_)) (trivial) ?_
            replace st := st.drew
            change Rg4.wp4 _ _ _ _ _ _ _ _ _ (World.drew _) _ _
            generalize World.drew _ = w at st ⊢
            (try clear hc); have hc := st.facts; (try simp only [nfl, nft, Nat.reduceAdd] at hc)
            iterate 4 (refine Rg4.w4_any (Rg4.want_none rfl) rfl ?_; apply Exists.intro; refine ⟨fun w' => ?_, ?_⟩; (focus (first | (go_simp; done) | (go_simp; first | rfl | (rw [if_neg] <;> first | rfl | omega) | (rw [if_pos] <;> first | rfl | omega)))); (try simp only [Rg4.nrm]))
            (refine Rg4.w4_read (Rg4.want_none rfl) rfl rfl ?_; apply Exists.intro; refine ⟨fun w' hw' hcl' => ?_, ?_⟩; focus (subst hw'; have r0 := st.rowC (i := 0) get0 _ _ HU.out.1; have r1 := st.rowC (i := 0) get0 _ _ HU.out.2.1; have r2 := st.rowC (i := 0) get0 _ _ HU.out.2.2.1; have r3 := st.rowC (i := 0) get0 _ _ HU.out.2.2.2.1; have r4 := st.rowC (i := 0) get0 _ _ HU.out.2.2.2.2; have q0 := st.rowC (i := 0) get0 _ _ HV.out.1; have q1 := st.rowC (i := 0) get0 _ _ HV.out.2.1; have q2 := st.rowC (i := 0) get0 _ _ HV.out.2.2.1; have q3 := st.rowC (i := 0) get0 _ _ HV.out.2.2.2.1; have q4 := st.rowC (i := 0) get0 _ _ HV.out.2.2.2.2; (focus (first | (go_simp; done) | (go_simp; first | rfl | (rw [if_neg] <;> first | rfl | omega) | (rw [if_pos] <;> first | rfl | omega))))); (try simp only [Rg4.nrm]))
            iterate 3 (refine Rg4.w4_any (Rg4.want_none rfl) rfl ?_; apply Exists.intro; refine ⟨fun w' => ?_, ?_⟩; (focus (first | (go_simp; done) | (go_simp; first | rfl | (rw [if_neg] <;> first | rfl | omega) | (rw [if_pos] <;> first | rfl | omega)))); (try simp only [Rg4.nrm]))
            (refine Rg4.w4_read (Rg4.want_none rfl) rfl rfl ?_; apply Exists.intro; refine ⟨fun w' hw' hcl' => ?_, ?_⟩; focus (subst hw'; have r0 := st.rowC (i := 0) get0 _ _ HU.out.1; have r1 := st.rowC (i := 0) get0 _ _ HU.out.2.1; have r2 := st.rowC (i := 0) get0 _ _ HU.out.2.2.1; have r3 := st.rowC (i := 0) get0 _ _ HU.out.2.2.2.1; have r4 := st.rowC (i := 0) get0 _ _ HU.out.2.2.2.2; have q0 := st.rowC (i := 0) get0 _ _ HV.out.1; have q1 := st.rowC (i := 0) get0 _ _ HV.out.2.1; have q2 := st.rowC (i := 0) get0 _ _ HV.out.2.2.1; have q3 := st.rowC (i := 0) get0 _ _ HV.out.2.2.2.1; have q4 := st.rowC (i := 0) get0 _ _ HV.out.2.2.2.2; (focus (first | (go_simp; done) | (go_simp; first | rfl | (rw [if_neg] <;> first | rfl | omega) | (rw [if_pos] <;> first | rfl | omega))))); (try simp only [Rg4.nrm]))
            refine Rg4.w4_bar (Rg4.want_none rfl) rfl (fun w' hw' hcl _ K hK => ?_)
            subst hw'
            go_wp2_with fail
            refine (HC2.out _ (st.fms (i := 1) get1)).mono ?_
            rintro en w ⟨rfl, hx⟩
            replace st := st.ext hx
            clear hx
            (try clear hc); have hc := st.facts; (try simp only [nfl, nft, Nat.reduceAdd] at hc)
            refine hK _ _ ⟨trivial, ?_⟩
            clear hK
            (try simp only [Rg4.nrm])
            iterate 2 (refine Rg4.w4_any (Rg4.want_none rfl) rfl ?_; apply Exists.intro; refine ⟨fun w' => ?_, ?_⟩; (focus (first | (go_simp; done) | (go_simp; first | rfl | (rw [if_neg] <;> first | rfl | omega) | (rw [if_pos] <;> first | rfl | omega)))); (try simp only [Rg4.nrm]))
            refine Rg4.w4_nil (fun w' hw' hcl' _ => ?_); subst hw'; clear hcl'
            go_wp2_with fail
            go_roundg (h - i)
            case measure => omega
            case rel => exact ⟨i, h, rfl, by omega, rfl, rfl, HIJ2, st⟩
        · obtain rfl : i = j := by omega
          obtain ⟨t, ht⟩ : ∃ q, i - a = q := ⟨_, rfl⟩
          have hD := HD.out
          simp only [List.length_cons, List.length_nil] at hD
          have hc1 : ∀ l ∈ L.take t, kLt fK v l = false := by
            rcases HIJ.out.1 with q | ⟨x, q1, q2⟩
            · have : t = 0 := by omega
              subst this; simp
            · rcases Nat.eq_zero_or_pos t with t0 | t0
              · subst t0; simp
              · rw [← HZ.out, at_L (by omega) (by omega), show i - 1 - P.length = t - 1 by omega] at q1
                have := take_le HSL.out q1
                rw [show t - 1 + 1 = t by omega] at this
                exact fun l hl => kLe_tr (this l hl) q2
          have hc2 : ∀ l ∈ L.drop t, kLt fK v l = true := by
            rcases HIJ.out.2 with q | ⟨x, q1, q2⟩
            · rw [List.drop_of_length_le (by omega)]; simp
            · rcases Nat.lt_or_ge i m with t0 | t0
              · rw [← HZ.out, at_L (by omega) (by omega), show i - P.length = t by omega] at q1
                exact fun l hl => kLt_le q2 (drop_ge HSL.out q1 l hl)
              · rw [List.drop_of_length_le (by omega)]; simp
          have eL : L = L.take t ++ L.drop t := (List.take_append_drop _ _).symm
          have lL : (L.take t).length = t := by simp; omega
          have lL2 : (L.drop t).length = L.length - t := by simp
          obtain ⟨t2, ht2⟩ : ∃ q, L.length - t = q := ⟨_, rfl⟩
          rw [ht2] at lL2
          have hit2 : i + t2 = m ∧ i = a + t := by omega
          clear ht2
          generalize L.take t = L1 at *
          generalize L.drop t = L2 at *
          subst eL
          have HF : Hid (SP fK ((L1 ++ L2) ++ [v]) (L1 ++ v :: L2) ∧ Srt fK (L1 ++ v :: L2)) := Lib.hid ⟨ins_sp hc2, ins_srt HSL.out hc2 hc1⟩
          have HLL := Lib.hid (And.intro lL lL2)
          have st0 : Own fr al W [rowI 26 5 (.slice (some ⟨g, 0, none⟩) n c) n (cellsL (P ++ (L1 ++ (L2.take t2 ++ v :: (L2.drop t2 ++ Q))))), fmsI base] wr := by
            have := HZ.out
            rw [← this] at st
            rw [List.take_of_length_le (by omega), List.drop_of_length_le (by omega)]
            simpa using st
          have hPl : Hid (P.length + t = i) := Lib.hid (by omega)
          clear st hc1 hc2 hD ht HIJ HZ lL lL2 hij
          have st := st0
          clear st0
          obtain ⟨hit3, hit4⟩ := hit2
          have hmi : (m : Int) = ((i + t2 : Nat) : Int) := by omega
          (try simp only [nsl, Value.cells, unB] at st)
          (try clear hc); have hc := st.facts; (try simp only [nfl, nft, Nat.reduceAdd] at hc)
          go_wp2_with fail
          go_loopg [17] t2 (fun q kv wr => ∃ (y : Nat), y = q ∧ y ≤ t2 ∧ kv = .int .i64 ((i + y : Nat) : Int) ∧ Own fr al W [rowI 26 5 (.slice (some ⟨g, 0, none⟩) n c) n (cellsL (P ++ (L1 ++ (L2.take y ++ v :: (L2.drop y ++ Q))))), fmsI base] wr)
          case atStart => exact ⟨t2, rfl, by omega, by rw [← hmi], st⟩
          case round =>
            obtain ⟨y, hqy, hy, rfl, st'⟩ := hrel
            subst hqy
            clear st hc
            have st := st'
            clear st'
            rcases Nat.eq_zero_or_pos y with hy0 | hy0
            · subst hy0
              have hgt : ¬ (i : Int) < ((i + 0 : Nat) : Int) := by omega
              have st0 : Own fr al W [rowI 26 5 (.slice (some ⟨g, 0, none⟩) n c) n (cellsL (P ++ ((L1 ++ v :: L2) ++ Q))), fmsI base] wr := by simpa using st
              clear st hmi
              have st := st0
              clear st0
              go_wp2_with fail
              (try simp only [Exit.inBlock, Exit.then])
              refine bodyPost_ret (results_none rfl _ _ _) rfl ?_
              exact ⟨rfl, L1 ++ v :: L2, by simpa [List.append_assoc] using HF.out, st⟩
            · obtain ⟨z, rfl⟩ : ∃ z, y = z + 1 := ⟨y - 1, by omega⟩
              have hzr : z < L2.length := by have := HLL.out; omega
              obtain ⟨x, hx⟩ : ∃ x, L2[z] = x := ⟨_, rfl⟩
              have e1 : L2.drop z = x :: L2.drop (z + 1) := by rw [List.drop_eq_getElem_cons hzr, hx]
              have e2 : L2.take (z + 1) = L2.take z ++ [x] := by rw [← hx]; exact (List.take_append_getElem hzr).symm
              obtain ⟨p, hp⟩ : ∃ q, i + z = q := ⟨_, rfl⟩
              have hpl : p = (P ++ (L1 ++ L2.take z)).length := by have h1 := hPl.out; have h2 := HLL.out; simp; omega
              obtain ⟨q, hq⟩ : ∃ q, i + (z + 1) = q := ⟨_, rfl⟩
              rw [hq]
              have hql : q = (P ++ (L1 ++ L2.take z)).length + 1 + ([] : List Fm).length := by simp at hpl ⊢; omega
              obtain ⟨zz, hzz⟩ : ∃ y, (P ++ (L1 ++ L2.take z)) ++ x :: ([] ++ v :: (L2.drop (z + 1) ++ Q)) = y := ⟨_, rfl⟩
              have hz2 : P ++ (L1 ++ (L2.take (z + 1) ++ v :: (L2.drop (z + 1) ++ Q))) = zz := by rw [← hzz, e2]; simp
              rw [hz2] at st
              have hzl2 := st.rowLen (i := 0) get0
              have hzp : zz[p]? = some x := by rw [← hzz, hpl]; exact at_p _ _ _ _ _
              have hzq : zz[q]? = some v := by rw [← hzz, hql]; exact at_q _ _ _ _ _
              have hpz : p < zz.length := (List.getElem?_eq_some_iff.1 hzp).1
              have hqz : q < zz.length := (List.getElem?_eq_some_iff.1 hzq).1
              have HN : Hid ((zz.set q x).set p v = P ++ (L1 ++ (L2.take z ++ v :: (L2.drop z ++ Q)))) := Lib.hid (by
                have := swap_qp (P ++ (L1 ++ L2.take z)) [] (L2.drop (z + 1) ++ Q) x v
                rw [← hql, ← hpl, hzz] at this
                rw [this, e1]; simp)
              have w7 : IntKind.i64.wrap ((q : Int) - 1) = (p : Int) := by rw [show (q : Int) - 1 = (p : Int) by omega]; exact IntWalk.i64_in _ ⟨by omega, by omega⟩
              have hpi : (i : Int) < (q : Int) := by omega
              have hpn : p < n := by omega
              have hqn : q < n := by omega
              have hay : ((i + z : Nat) : Int) = (p : Int) := by omega
              rw [← HUE.out] at hzq HN
              obtain ⟨op2, k2, ⟨o2, d2⟩, fa2, fn2, fc2, kids2⟩ := x
              have HU := Lib.hid (fm_cells hzp)
              have HV := Lib.hid (fm_cells hzq)
              have HS1 := Lib.hid (fm_store hqz op2 k2 o2 d2 fa2 fn2 fc2 kids2)
              have HS2 := Lib.hid (fm_store (zs := zz.set q (.mk op2 k2 (o2, d2) fa2 fn2 fc2 kids2)) (j := p) (by simpa using hpz) op k o d fa fn fc kids)
              clear hzp hzq hpz hqz e1 e2 hpl hql hzz hz2 hzl2 hx hzr hp hq hmi
              (try simp only [nsl, Value.cells, unB] at st)
              (try clear hc); have hc := st.facts; (try simp only [nfl, nft, Nat.reduceAdd] at hc)
              go_wp2_with fail
              refine Rg4.wp_region4_eq #[0, 0, 0, 0, 8, 0, 0, 64, 224, 480, 0, 0, 3072, 7168, 16355, 32739, 65535, 131071] [15, 17] [9, 13] (fun _ => True) [0, 1, 2, 3, 4, 5, 6, 7, 8, 9, 10, 11, 12, 13, 14, 15, 16, 17] (by kernel_rfl) (by kernel_rfl) (by kernel_rfl) (by kernel_rfl) (show Rg4.PB _ by repeat (first | with_reducible exact Rg4.pb_body | with_reducible exact Rg4.pb_bodyD rfl | with_reducible refine Rg4.pb_then ?_ | with_reducible refine Rg4.pb_inBlock ?_ | with_reducible refine Rg4.pb_noGoto ?_)) (trivial) ?_
              replace st := st.drew
              change Rg4.wp4 _ _ _ _ _ _ _ _ _ (World.drew _) _ _
              generalize World.drew _ = w at st ⊢
              (try clear hc); have hc := st.facts; (try simp only [nfl, nft, Nat.reduceAdd] at hc)
              iterate 9 (refine Rg4.w4_any (Rg4.want_none rfl) rfl ?_; apply Exists.intro; refine ⟨fun w' => ?_, ?_⟩; (focus (first | (go_simp; done) | (go_simp; first | rfl | (rw [if_neg] <;> first | rfl | omega) | (rw [if_pos] <;> first | rfl | omega)))); (try simp only [Rg4.nrm]))
              (refine Rg4.w4_read (Rg4.want_none rfl) rfl rfl ?_; apply Exists.intro; refine ⟨fun w' hw' hcl' => ?_, ?_⟩; focus (subst hw'; have r0 := st.rowC (i := 0) get0 _ _ HU.out.1; have r1 := st.rowC (i := 0) get0 _ _ HU.out.2.1; have r2 := st.rowC (i := 0) get0 _ _ HU.out.2.2.1; have r3 := st.rowC (i := 0) get0 _ _ HU.out.2.2.2.1; have r4 := st.rowC (i := 0) get0 _ _ HU.out.2.2.2.2; have q0 := st.rowC (i := 0) get0 _ _ HV.out.1; have q1 := st.rowC (i := 0) get0 _ _ HV.out.2.1; have q2 := st.rowC (i := 0) get0 _ _ HV.out.2.2.1; have q3 := st.rowC (i := 0) get0 _ _ HV.out.2.2.2.1; have q4 := st.rowC (i := 0) get0 _ _ HV.out.2.2.2.2; (focus (first | (go_simp; done) | (go_simp; first | rfl | (rw [if_neg] <;> first | rfl | omega) | (rw [if_pos] <;> first | rfl | omega))))); (try simp only [Rg4.nrm]))
              iterate 3 (refine Rg4.w4_any (Rg4.want_none rfl) rfl ?_; apply Exists.intro; refine ⟨fun w' => ?_, ?_⟩; (focus (first | (go_simp; done) | (go_simp; first | rfl | (rw [if_neg] <;> first | rfl | omega) | (rw [if_pos] <;> first | rfl | omega)))); (try simp only [Rg4.nrm]))
              (refine Rg4.w4_read (Rg4.want_none rfl) rfl rfl ?_; apply Exists.intro; refine ⟨fun w' hw' hcl' => ?_, ?_⟩; focus (subst hw'; have r0 := st.rowC (i := 0) get0 _ _ HU.out.1; have r1 := st.rowC (i := 0) get0 _ _ HU.out.2.1; have r2 := st.rowC (i := 0) get0 _ _ HU.out.2.2.1; have r3 := st.rowC (i := 0) get0 _ _ HU.out.2.2.2.1; have r4 := st.rowC (i := 0) get0 _ _ HU.out.2.2.2.2; have q0 := st.rowC (i := 0) get0 _ _ HV.out.1; have q1 := st.rowC (i := 0) get0 _ _ HV.out.2.1; have q2 := st.rowC (i := 0) get0 _ _ HV.out.2.2.1; have q3 := st.rowC (i := 0) get0 _ _ HV.out.2.2.2.1; have q4 := st.rowC (i := 0) get0 _ _ HV.out.2.2.2.2; (focus (first | (go_simp; done) | (go_simp; first | rfl | (rw [if_neg] <;> first | rfl | omega) | (rw [if_pos] <;> first | rfl | omega))))); (try simp only [Rg4.nrm]))
              (refine Rg4.w4_any (Rg4.want_none rfl) rfl ?_; apply Exists.intro; refine ⟨fun w' => ?_, ?_⟩; (focus (first | (go_simp; done) | (go_simp; first | rfl | (rw [if_neg] <;> first | rfl | omega) | (rw [if_pos] <;> first | rfl | omega)))); (try simp only [Rg4.nrm]))
              refine Rg4.w4_bar (Rg4.want_none rfl) rfl (fun w' hw' hcl _ K hK => ?_)
              subst hw'
              refine owp_storeRow' rfl st ?_
              apply Exists.intro; apply Exists.intro
              refine ⟨?_, ?_, ?_⟩
              (focus (go_simp; try rfl))
              (focus (go_simp; try rfl))
              refine ⟨0, _, _, _, _, _, _, _, _, get0, rfl, rfl, ?_, ?_, ?_, ?_⟩
              · kernel_rfl
              · simp [Value.cells]; omega
              · rfl
              clear st
              intro w st
              simp only [List.set_cons_zero, Value.cells] at st
              rw [HS1.out] at st
              refine hK _ _ ⟨trivial, ?_⟩
              clear hK
              (try simp only [Rg4.nrm])
              (refine Rg4.w4_any (Rg4.want_none rfl) rfl ?_; apply Exists.intro; refine ⟨fun w' => ?_, ?_⟩; (focus (first | (go_simp; done) | (go_simp; first | rfl | (rw [if_neg] <;> first | rfl | omega) | (rw [if_pos] <;> first | rfl | omega)))); (try simp only [Rg4.nrm]))
              refine Rg4.w4_bar (Rg4.want_none rfl) rfl (fun w' hw' hcl _ K hK => ?_)
              subst hw'
              refine owp_storeRow' rfl st ?_
              apply Exists.intro; apply Exists.intro
              refine ⟨?_, ?_, ?_⟩
              (focus (go_simp; try rfl))
              (focus (go_simp; try rfl))
              refine ⟨0, _, _, _, _, _, _, _, _, get0, rfl, rfl, ?_, ?_, ?_, ?_⟩
              · kernel_rfl
              · simp [Value.cells]; omega
              · rfl
              clear st
              intro w st
              simp only [List.set_cons_zero, Value.cells] at st
              rw [HS2.out] at st
              refine hK _ _ ⟨trivial, ?_⟩
              clear hK
              (try simp only [Rg4.nrm])
              refine Rg4.w4_nil (fun w' hw' hcl' _ => ?_); subst hw'; clear hcl'
              rw [HN.out, HUE.out] at st
              go_wp2_with fail
              go_roundg z
              case measure => omega
              case rel => exact ⟨z, rfl, by omega, by rw [hay], st⟩
    · have hlne : ((ll : Int) == 1) = false := by simp; omega
      have hrne : ((rl : Int) == 1) = false := by simp; omega
      have hlni : ¬ (ll : Int) = 1 := by omega
      have hrni : ¬ (rl : Int) = 1 := by omega
      obtain ⟨zs, hz⟩ : ∃ zs, P ++ (L ++ (R ++ Q)) = zs := ⟨_, rfl⟩
      rw [hz] at st HIN
      have HZ := Lib.hid hz
      have HZL := Lib.hid (st.rowLen (i := 0) get0)
      obtain ⟨s0, hs0⟩ : ∃ q, a + b = q := ⟨_, rfl⟩
      have w3 : IntKind.i64.wrap ((a : Int) + (b : Int)) = (s0 : Int) := by rw [← hs0]; exact IntWalk.i64_in _ ⟨by omega, by omega⟩
      obtain ⟨mid, hmid⟩ : ∃ q, s0 / 2 = q := ⟨_, rfl⟩
      have w4 : (s0 : Int) / 2 = (mid : Int) := by omega
      obtain ⟨nn, hnn⟩ : ∃ q, mid + m = q := ⟨_, rfl⟩
      have w5 : IntKind.i64.wrap ((mid : Int) + (m : Int)) = (nn : Int) := by rw [← hnn]; exact IntWalk.i64_in _ ⟨by omega, by omega⟩
      obtain ⟨pp, hpp⟩ : ∃ q, nn - 1 = q := ⟨_, rfl⟩
      have w6 : IntKind.i64.wrap ((nn : Int) - 1) = (pp : Int) := by rw [← hpp, show (((nn - 1 : Nat)) : Int) = (nn : Int) - 1 by omega]; exact IntWalk.i64_in _ ⟨by omega, by omega⟩
      obtain ⟨nb, hnb⟩ : ∃ q, nn - b = q := ⟨_, rfl⟩
      have HMID := Lib.hid (show mid = (a + b) / 2 ∧ nn = mid + m ∧ pp = nn - 1 by omega)
      have hsn : s0 ≤ 4000000 ∧ nn ≤ 8000000 := by omega
      clear hz hs0 hmid hnn hpp
      by_cases hmm : mid < m
      · have hmmi : (mid : Int) < (m : Int) := by omega
        have w7 : IntKind.i64.wrap ((nn : Int) - (b : Int)) = (nb : Int) := by have := HMID.out; rw [← hnb, show (((nn - b : Nat)) : Int) = (nn : Int) - (b : Int) by omega]; exact IntWalk.i64_in _ ⟨by omega, by omega⟩
        have HST := Lib.hid (show (nb = nn - b ∧ mid = mid) ∧ (a ≤ nb ∧ nb ≤ mid ∧ mid ≤ m) ∧ ((nn = nb + b ∧ mid = mid) ∨ (nb = a ∧ mid = m)) by have := HMID.out; omega)
        clear hnb
        (try simp only [nsl, Value.cells, unB] at st)
        (try clear hc); have hc := st.facts; (try simp only [nfl, nft, Nat.reduceAdd] at hc)
        go_enter Try.func179, Try.ntmps179
        go_wp2_with fail
        go_loopg [20, 21] (mid - nb) (fun q iv jv wr => ∃ (i j : Nat), q = j - i ∧ (nb ≤ i ∧ i ≤ j ∧ j ≤ mid) ∧ iv = .int .i64 (i : Int) ∧ jv = .int .i64 (j : Int) ∧ Hid ((i = nb ∨ ∃ x y, zs[pp - (i - 1)]? = some x ∧ zs[i - 1]? = some y ∧ kLt fK x y = false) ∧ (j = mid ∨ ∃ x y, zs[pp - j]? = some x ∧ zs[j]? = some y ∧ kLt fK x y = true)) ∧ Own fr al W [rowI 26 5 (.slice (some ⟨g, 0, none⟩) n c) n (cellsL zs), fmsI base] wr)
        case atStart => exact ⟨nb, mid, rfl, by have := HST.out; omega, rfl, rfl, Lib.hid ⟨.inl rfl, .inl rfl⟩, st⟩
        case round =>
          obtain ⟨i, j, rfl, hij, rfl, rfl, HIJ, st'⟩ := hrel
          clear st hc
          have st := st'
          clear st'
          have hSTo := HST.out
          have hMo := HMID.out
          have hDo := HD.out
          by_cases hlt : i < j
          · skip
            obtain ⟨s, hs⟩ : ∃ q, i + j = q := ⟨_, rfl⟩
            have w3 : IntKind.i64.wrap ((i : Int) + (j : Int)) = (s : Int) := by rw [← hs]; exact IntWalk.i64_in _ ⟨by omega, by omega⟩
            obtain ⟨h, hh⟩ : ∃ q, s / 2 = q := ⟨_, rfl⟩
            have w4 : (s : Int) / 2 = (h : Int) := by omega
            have hhr : i ≤ h ∧ h < j := by omega
            have w5 : IntKind.i64.wrap ((h : Int) + 1) = ((h + 1 : Nat) : Int) := IntWalk.i64_in _ ⟨by omega, by omega⟩
            have hsn : s ≤ 4000000 := by omega
            obtain ⟨e, he⟩ : ∃ q, pp - h = q := ⟨_, rfl⟩
            have heb : m ≤ e ∧ e < b ∧ h < m ∧ a ≤ h := by omega
            have w8 : IntKind.i64.wrap ((pp : Int) - (h : Int)) = (e : Int) := by rw [← he, show (((pp - h : Nat)) : Int) = (pp : Int) - (h : Int) by omega]; exact IntWalk.i64_in _ ⟨by omega, by omega⟩
            obtain ⟨x, hx⟩ : ∃ x, zs[e]? = some x := ⟨_, List.getElem?_eq_getElem (by have := HZL.out; omega)⟩
            obtain ⟨y, hy⟩ : ∃ x, zs[h]? = some x := ⟨_, List.getElem?_eq_getElem (by have := HZL.out; omega)⟩
            have hxb := HIN.out e x (by omega) (by omega) hx
            have hyb := HIN.out h y (by omega) (by omega) hy
            obtain ⟨cv, hcv⟩ : ∃ z, cmp2 (fK x) (fK y) = z := ⟨_, rfl⟩
            have HC2 := Lib.hid (fun W' hw => HCM.out x y hxb hyb W' hw)
            have hneg := cmp2_neg (fK x) (fK y)
            rw [hcv] at HC2 hneg
            obtain ⟨lv, hlv⟩ : ∃ z, kLt fK x y = z := ⟨_, rfl⟩
            have hlv2 : strLt (fK x) (fK y) = lv := hlv
            rw [hlv2] at hneg
            have HE : Hid (∃ x y, zs[pp - h]? = some x ∧ zs[h]? = some y ∧ kLt fK x y = lv) := Lib.hid ⟨x, y, by rw [he]; exact hx, hy, hlv⟩
            have hhn : h < n := by omega
            have hen : e < n := by omega
            clear hcv hlv hlv2 hs hh hxb hyb he hSTo hMo hDo
            obtain ⟨op2, k2, ⟨o2, d2⟩, fa2, fn2, fc2, kids2⟩ := x
            obtain ⟨op, k, ⟨o, d⟩, fa, fn, fc, kids⟩ := y
            have HU := Lib.hid (fm_cells hx)
            have HV := Lib.hid (fm_cells hy)
            clear hx hy
            unfold fmV S at HC2
            simp only at HC2
            cases lv with
            | false =>
              have hng : ¬ cv < 0 := fun q => by have := hneg.1 q; cases this
              have hdc : decide (cv < 0) = false := decide_eq_false hng
              have HIJ2 : Hid ((h + 1 = nb ∨ ∃ x y, zs[pp - (h + 1 - 1)]? = some x ∧ zs[h + 1 - 1]? = some y ∧ kLt fK x y = false) ∧ (j = mid ∨ ∃ x y, zs[pp - j]? = some x ∧ zs[j]? = some y ∧ kLt fK x y = true)) := Lib.hid ⟨.inr (by simpa using HE.out), HIJ.out.2⟩
              clear hneg
              (try simp only [nsl, Value.cells, unB] at st)
              (try clear hc); have hc := st.facts; (try simp only [nfl, nft, Nat.reduceAdd] at hc)
              go_wp2_with fail
              refine Rg4.wp_region4_eq #[0, 0, 0, 0, 12, 30, 62, 0, 0, 384, 896, 2047, 4095, 8191] [11] [6, 10] (fun _ => True) [0, 1, 2, 3, 4, 5, 6, 7, 8, 9, 10, 11, 12, 13] (by kernel_rfl) (by kernel_rfl) (by kernel_rfl) (by kernel_rfl) (show Rg4.PB _ by repeat (first | with_reducible exact Rg4.pb_body | with_reducible exact Rg4.pb_bodyD rfl | with_reducible refine Rg4.pb_then ?_ | with_reducible refine Rg4.pb_inBlock ?_ | with_reducible refine Rg4.pb_noGoto ?_)) (trivial) ?_
              replace st := st.drew
              change Rg4.wp4 _ _ _ _ _ _ _ _ _ (World.drew _) _ _
              generalize World.drew _ = w at st ⊢
              (try clear hc); have hc := st.facts; (try simp only [nfl, nft, Nat.reduceAdd] at hc)
              iterate 6 (refine Rg4.w4_any (Rg4.want_none rfl) rfl ?_; apply Exists.intro; refine ⟨fun w' => ?_, ?_⟩; (focus (first | (go_simp; done) | (go_simp; first | rfl | (rw [if_neg] <;> first | rfl | omega) | (rw [if_pos] <;> first | rfl | omega)))); (try simp only [Rg4.nrm]))
              (refine Rg4.w4_read (Rg4.want_none rfl) rfl rfl ?_; apply Exists.intro; refine ⟨fun w' hw' hcl' => ?_, ?_⟩; focus (subst hw'; have r0 := st.rowC (i := 0) get0 _ _ HU.out.1; have r1 := st.rowC (i := 0) get0 _ _ HU.out.2.1; have r2 := st.rowC (i := 0) get0 _ _ HU.out.2.2.1; have r3 := st.rowC (i := 0) get0 _ _ HU.out.2.2.2.1; have r4 := st.rowC (i := 0) get0 _ _ HU.out.2.2.2.2; have q0 := st.rowC (i := 0) get0 _ _ HV.out.1; have q1 := st.rowC (i := 0) get0 _ _ HV.out.2.1; have q2 := st.rowC (i := 0) get0 _ _ HV.out.2.2.1; have q3 := st.rowC (i := 0) get0 _ _ HV.out.2.2.2.1; have q4 := st.rowC (i := 0) get0 _ _ HV.out.2.2.2.2; (focus (first | (go_simp; done) | (go_simp; first | rfl | (rw [if_neg] <;> first | rfl | omega) | (rw [if_pos] <;> first | rfl | omega))))); (try simp only [Rg4.nrm]))
              iterate 3 (refine Rg4.w4_any (Rg4.want_none rfl) rfl ?_; apply Exists.intro; refine ⟨fun w' => ?_, ?_⟩; (focus (first | (go_simp; done) | (go_simp; first | rfl | (rw [if_neg] <;> first | rfl | omega) | (rw [if_pos] <;> first | rfl | omega)))); (try simp only [Rg4.nrm]))
              (refine Rg4.w4_read (Rg4.want_none rfl) rfl rfl ?_; apply Exists.intro; refine ⟨fun w' hw' hcl' => ?_, ?_⟩; focus (subst hw'; have r0 := st.rowC (i := 0) get0 _ _ HU.out.1; have r1 := st.rowC (i := 0) get0 _ _ HU.out.2.1; have r2 := st.rowC (i := 0) get0 _ _ HU.out.2.2.1; have r3 := st.rowC (i := 0) get0 _ _ HU.out.2.2.2.1; have r4 := st.rowC (i := 0) get0 _ _ HU.out.2.2.2.2; have q0 := st.rowC (i := 0) get0 _ _ HV.out.1; have q1 := st.rowC (i := 0) get0 _ _ HV.out.2.1; have q2 := st.rowC (i := 0) get0 _ _ HV.out.2.2.1; have q3 := st.rowC (i := 0) get0 _ _ HV.out.2.2.2.1; have q4 := st.rowC (i := 0) get0 _ _ HV.out.2.2.2.2; (focus (first | (go_simp; done) | (go_simp; first | rfl | (rw [if_neg] <;> first | rfl | omega) | (rw [if_pos] <;> first | rfl | omega))))); (try simp only [Rg4.nrm]))
              refine Rg4.w4_bar (Rg4.want_none rfl) rfl (fun w' hw' hcl _ K hK => ?_)
              subst hw'
              go_wp2_with fail
              refine (HC2.out _ (st.fms (i := 1) get1)).mono ?_
              rintro en w ⟨rfl, hx⟩
              replace st := st.ext hx
              clear hx
              (try clear hc); have hc := st.facts; (try simp only [nfl, nft, Nat.reduceAdd] at hc)
              refine hK _ _ ⟨trivial, ?_⟩
              clear hK
              (try simp only [Rg4.nrm])
              iterate 2 (refine Rg4.w4_any (Rg4.want_none rfl) rfl ?_; apply Exists.intro; refine ⟨fun w' => ?_, ?_⟩; (focus (first | (go_simp; done) | (go_simp; first | rfl | (rw [if_neg] <;> first | rfl | omega) | (rw [if_pos] <;> first | rfl | omega)))); (try simp only [Rg4.nrm]))
              refine Rg4.w4_nil (fun w' hw' hcl' _ => ?_); subst hw'; clear hcl'
              go_wp2_with fail
              go_roundg (j - (h + 1))
              case measure => omega
              case rel => exact ⟨h + 1, j, rfl, by omega, rfl, rfl, HIJ2, st⟩
            | true =>
              have hng : cv < 0 := hneg.2 rfl
              have hdc : decide (cv < 0) = true := decide_eq_true hng
              have HIJ2 : Hid ((i = nb ∨ ∃ x y, zs[pp - (i - 1)]? = some x ∧ zs[i - 1]? = some y ∧ kLt fK x y = false) ∧ (h = mid ∨ ∃ x y, zs[pp - h]? = some x ∧ zs[h]? = some y ∧ kLt fK x y = true)) := Lib.hid ⟨HIJ.out.1, .inr HE.out⟩
              clear hneg
              (try simp only [nsl, Value.cells, unB] at st)
              (try clear hc); have hc := st.facts; (try simp only [nfl, nft, Nat.reduceAdd] at hc)
              go_wp2_with fail
              refine Rg4.wp_region4_eq #[0, 0, 0, 0, 12, 30, 62, 0, 0, 384, 896, 2047, 4095, 8191] [11] [6, 10] (fun _ => True) [0, 1, 2, 3, 4, 5, 6, 7, 8, 9, 10, 11, 12, 13] (by kernel_rfl) (by kernel_rfl) (by kernel_rfl) (by kernel_rfl) (show Rg4.PB _ by repeat (first | with_reducible exact Rg4.pb_body | with_reducible exact Rg4.pb_bodyD rfl | with_reducible refine Rg4.pb_then ?_ | with_reducible refine Rg4.pb_inBlock ?_ | with_reducible refine Rg4.pb_noGoto ?_)) (trivial) ?_
              replace st := st.drew
              change Rg4.wp4 _ _ _ _ _ _ _ _ _ (World.drew _) _ _
              generalize World.drew _ = w at st ⊢
              (try clear hc); have hc := st.facts; (try simp only [nfl, nft, Nat.reduceAdd] at hc)
              iterate 6 (refine Rg4.w4_any (Rg4.want_none rfl) rfl ?_; apply Exists.intro; refine ⟨fun w' => ?_, ?_⟩; (focus (first | (go_simp; done) | (go_simp; first | rfl | (rw [if_neg] <;> first | rfl | omega) | (rw [if_pos] <;> first | rfl | omega)))); (try simp only [Rg4.nrm]))
              (refine Rg4.w4_read (Rg4.want_none rfl) rfl rfl ?_; apply Exists.intro; refine ⟨fun w' hw' hcl' => ?_, ?_⟩; focus (subst hw'; have r0 := st.rowC (i := 0) get0 _ _ HU.out.1; have r1 := st.rowC (i := 0) get0 _ _ HU.out.2.1; have r2 := st.rowC (i := 0) get0 _ _ HU.out.2.2.1; have r3 := st.rowC (i := 0) get0 _ _ HU.out.2.2.2.1; have r4 := st.rowC (i := 0) get0 _ _ HU.out.2.2.2.2; have q0 := st.rowC (i := 0) get0 _ _ HV.out.1; have q1 := st.rowC (i := 0) get0 _ _ HV.out.2.1; have q2 := st.rowC (i := 0) get0 _ _ HV.out.2.2.1; have q3 := st.rowC (i := 0) get0 _ _ HV.out.2.2.2.1; have q4 := st.rowC (i := 0) get0 _ _ HV.out.2.2.2.2; (focus (first | (go_simp; done) | (go_simp; first | rfl | (rw [if_neg] <;> first | rfl | omega) | (rw [if_pos] <;> first | rfl | omega))))); (try simp only [Rg4.nrm]))
              iterate 3 (refine Rg4.w4_any (Rg4.want_none rfl) rfl ?_; apply Exists.intro; refine ⟨fun w' => ?_, ?_⟩; (focus (first | (go_simp; done) | (go_simp; first | rfl | (rw [if_neg] <;> first | rfl | omega) | (rw [if_pos] <;> first | rfl | omega)))); (try simp only [Rg4.nrm]))
              (refine Rg4.w4_read (Rg4.want_none rfl) rfl rfl ?_; apply Exists.intro; refine ⟨fun w' hw' hcl' => ?_, ?_⟩; focus (subst hw'; have r0 := st.rowC (i := 0) get0 _ _ HU.out.1; have r1 := st.rowC (i := 0) get0 _ _ HU.out.2.1; have r2 := st.rowC (i := 0) get0 _ _ HU.out.2.2.1; have r3 := st.rowC (i := 0) get0 _ _ HU.out.2.2.2.1; have r4 := st.rowC (i := 0) get0 _ _ HU.out.2.2.2.2; have q0 := st.rowC (i := 0) get0 _ _ HV.out.1; have q1 := st.rowC (i := 0) get0 _ _ HV.out.2.1; have q2 := st.rowC (i := 0) get0 _ _ HV.out.2.2.1; have q3 := st.rowC (i := 0) get0 _ _ HV.out.2.2.2.1; have q4 := st.rowC (i := 0) get0 _ _ HV.out.2.2.2.2; (focus (first | (go_simp; done) | (go_simp; first | rfl | (rw [if_neg] <;> first | rfl | omega) | (rw [if_pos] <;> first | rfl | omega))))); (try simp only [Rg4.nrm]))
              refine Rg4.w4_bar (Rg4.want_none rfl) rfl (fun w' hw' hcl _ K hK => ?_)
              subst hw'
              go_wp2_with fail
              refine (HC2.out _ (st.fms (i := 1) get1)).mono ?_
              rintro en w ⟨rfl, hx⟩
              replace st := st.ext hx
              clear hx
              (try clear hc); have hc := st.facts; (try simp only [nfl, nft, Nat.reduceAdd] at hc)
              refine hK _ _ ⟨trivial, ?_⟩
              clear hK
              (try simp only [Rg4.nrm])
              iterate 2 (refine Rg4.w4_any (Rg4.want_none rfl) rfl ?_; apply Exists.intro; refine ⟨fun w' => ?_, ?_⟩; (focus (first | (go_simp; done) | (go_simp; first | rfl | (rw [if_neg] <;> first | rfl | omega) | (rw [if_pos] <;> first | rfl | omega)))); (try simp only [Rg4.nrm]))
              refine Rg4.w4_nil (fun w' hw' hcl' _ => ?_); subst hw'; clear hcl'
              go_wp2_with fail
              go_roundg (h - i)
              case measure => omega
              case rel => exact ⟨i, h, rfl, by omega, rfl, rfl, HIJ2, st⟩
          · obtain rfl : i = j := by omega
            obtain ⟨en, hen⟩ : ∃ q, nn - i = q := ⟨_, rfl⟩
            have w8 : IntKind.i64.wrap ((nn : Int) - (i : Int)) = (en : Int) := by rw [← hen, show (((nn - i : Nat)) : Int) = (nn : Int) - (i : Int) by omega]; exact IntWalk.i64_in _ ⟨by omega, by omega⟩
            have hrg : a ≤ i ∧ i ≤ m ∧ m ≤ en ∧ en ≤ b ∧ (i - a) + (en - m) = mid - a ∧ a < mid ∧ mid < b := by omega
            obtain ⟨t, ht⟩ : ∃ q, i - a = q := ⟨_, rfl⟩
            obtain ⟨t2, ht2⟩ : ∃ q, en - m = q := ⟨_, rfl⟩
            have hc1 : ∀ l ∈ L.take t, ∀ r ∈ R.drop t2, kLt fK r l = false := by
              rcases HIJ.out.1 with q | ⟨x, y, q1, q2, q3⟩
              · rcases hSTo.2.2 with q4 | q4
                · rw [List.drop_of_length_le (l := R) (by omega)]; simp
                · have : t = 0 := by omega
                  subst this; simp
              · rcases Nat.eq_zero_or_pos t with t0 | t0
                · subst t0; simp
                · rcases Nat.lt_or_ge en b with e0 | e0
                  · rw [← HZ.out, at_R (by omega) (by omega), show pp - (i - 1) - (P.length + L.length) = t2 by omega] at q1
                    rw [← HZ.out, at_L (by omega) (by omega), show i - 1 - P.length = t - 1 by omega] at q2
                    have h1 := take_le HSL.out q2
                    rw [show t - 1 + 1 = t by omega] at h1
                    have h2 := drop_ge HSR.out q1
                    exact fun l hl r hr => kLe_tr (h1 l hl) (kLe_tr q3 (h2 r hr))
                  · rw [List.drop_of_length_le (l := R) (by omega)]; simp
            have hc2 : ∀ r ∈ R.take t2, ∀ l ∈ L.drop t, kLt fK r l = true := by
              rcases HIJ.out.2 with q | ⟨x, y, q1, q2, q3⟩
              · rcases hSTo.2.2 with q4 | q4
                · have : t2 = 0 := by omega
                  subst this; simp
                · rw [List.drop_of_length_le (l := L) (by omega)]; simp
              · rcases Nat.eq_zero_or_pos t2 with t0 | t0
                · subst t0; simp
                · rcases Nat.lt_or_ge i m with e0 | e0
                  · rw [← HZ.out, at_R (by omega) (by omega), show pp - i - (P.length + L.length) = t2 - 1 by omega] at q1
                    rw [← HZ.out, at_L (by omega) (by omega), show i - P.length = t by omega] at q2
                    have h1 := take_le HSR.out q1
                    rw [show t2 - 1 + 1 = t2 by omega] at h1
                    have h2 := drop_ge HSL.out q2
                    exact fun r hr l hl => kLt_le (kLe_lt (h1 r hr) q3) (h2 l hl)
                  · rw [List.drop_of_length_le (l := L) (by omega)]; simp
            have eL : L = L.take t ++ L.drop t := (List.take_append_drop _ _).symm
            have eR : R = R.take t2 ++ R.drop t2 := (List.take_append_drop _ _).symm
            have l1 : (L.take t).length = t := by simp; omega
            have l2 : (L.drop t).length = L.length - t := by simp
            have r1 : (R.take t2).length = t2 := by simp; omega
            have r2 : (R.drop t2).length = R.length - t2 := by simp
            generalize L.take t = L1 at *
            generalize L.drop t = L2 at *
            generalize R.take t2 = R1 at *
            generalize R.drop t2 = R2 at *
            have hsz : P.length = a ∧ i = a + L1.length ∧ m = i + L2.length ∧ en = m + R1.length ∧ b = en + R2.length ∧ mid = a + L1.length + R1.length ∧ 0 < L1.length + R1.length ∧ 0 < L2.length + R2.length ∧ L1.length + R1.length + (L2.length + R2.length) ≤ N + 1 := by omega
            have HSZ := Lib.hid hsz
            subst eL eR
            have HCC := Lib.hid (And.intro hc1 hc2)
            have st0 : Own fr al W [rowI 26 5 (.slice (some ⟨g, 0, none⟩) n c) n (cellsL ((P ++ L1) ++ (L2 ++ (R1 ++ (R2 ++ Q))))), fmsI base] wr := by
              have := HZ.out
              rw [← this] at st
              simpa using st
            have HROT := Lib.hid (fun (h1 : 0 < L2.length) (h2 : 0 < R1.length) fr al W st => rotate_c (fr := fr) (al := al) (W := W) (g := g) (n := n) (c := c) (.func (.func 47) #[] #[]) base (P ++ L1) L2 R1 (R2 ++ Q) i m en (by simp; omega) (by simp; omega) (by simp; omega) h1 h2 st hn)
            have HI1 := Lib.hid (fun (h1 : 0 < L1.length) (h2 : 0 < R1.length) fr al W st => HIH.out P L1 R1 (L2 ++ (R2 ++ Q)) (by omega) h1 h2 HSL.out.left HSR.out.left (fun x hx => HMB.out x (by rcases List.mem_append.1 hx with q | q <;> simp [q])) fr al W a i mid (by omega) (by omega) (by omega) st)
            have HI2 := Lib.hid (fun (h1 : 0 < L2.length) (h2 : 0 < R2.length) (A : List Fm) (hA : A.length = L1.length + R1.length) fr al W st => HIH.out (P ++ A) L2 R2 Q (by omega) h1 h2 HSL.out.right HSR.out.right (fun x hx => HMB.out x (by rcases List.mem_append.1 hx with q | q <;> simp [q])) fr al W mid en b (by simp; omega) (by simp; omega) (by simp; omega) st)
            clear st hc1 hc2 HIJ HZ l1 l2 r1 r2 hSTo hMo hDo hen ht ht2 hrg hij hsz HIH HIN HD HST HMID
            have st := st0
            clear st0
            rcases Nat.eq_zero_or_pos L1.length with pL1 | pL1
            · have pR1 : 0 < R1.length := by have := HSZ.out; omega
              rcases Nat.eq_zero_or_pos L2.length with pL2 | pL2
              · have pR2 : 0 < R2.length := by have := HSZ.out; omega
                have hsz := HSZ.out
                have ca1 : ¬ (a : Int) < (i : Int) := by omega
                have ca2 : (i : Int) < (mid : Int) := by omega
                have cb1 : ¬ (i : Int) < (m : Int) := by omega
                have cb2 : (m : Int) < (en : Int) := by omega
                have cc1 : ¬ (mid : Int) < (en : Int) := by omega
                have cc2 : (en : Int) < (b : Int) := by omega
                clear hsz
                have HXA0 : Hid (SP fK (L1 ++ R1) (L1 ++ R1) ∧ Srt fK (L1 ++ R1)) := Lib.hid ⟨SP.refl _, by
                  have hnil : L1 = [] := List.eq_nil_of_length_eq_zero (by have := HSZ.out; omega)
                  rw [hnil]; simpa using HSR.out.left⟩
                have HYA : Hid (SP fK (L2 ++ R2) (L2 ++ R2) ∧ Srt fK (L2 ++ R2)) := Lib.hid ⟨SP.refl _, by
                  have hnil : L2 = [] := List.eq_nil_of_length_eq_zero (by have := HSZ.out; omega)
                  rw [hnil]; simpa using HSR.out.right⟩
                rw [show L2 ++ (R1 ++ (R2 ++ Q)) = R1 ++ (L2 ++ (R2 ++ Q)) by rw [List.eq_nil_of_length_eq_zero (l := L2) (by have := HSZ.out; omega)]; simp] at st
                (try simp only [nsl, Value.cells, unB] at st)
                (try clear hc); have hc := st.facts; (try simp only [nfl, nft, Nat.reduceAdd] at hc)
                go_wp2_with fail
                rw [List.append_assoc P L1] at st
                rw [← List.append_assoc L1 R1] at st
                obtain ⟨X, hX⟩ : ∃ X, L1 ++ R1 = X := ⟨_, rfl⟩
                have HXA : Hid (SP fK (L1 ++ R1) X ∧ Srt fK X) := Lib.hid (by rw [← hX]; exact HXA0.out)
                rw [hX] at st
                clear hX HXA0
                all_goals (go_end0; exact ⟨rfl, X ++ (L2 ++ R2), ⟨(by have h9 := (sym_sp HCC.out.2).trans (HXA.out.1.app HYA.out.1); simpa only [List.append_assoc] using h9), sym_srt HSL.out HSR.out HCC.out.1 HCC.out.2 HXA.out.1 HXA.out.2 HYA.out.1 HYA.out.2⟩, by simpa using st⟩)
              · rcases Nat.eq_zero_or_pos R2.length with pR2 | pR2
                · have hsz := HSZ.out
                  have ca1 : ¬ (a : Int) < (i : Int) := by omega
                  have ca2 : (i : Int) < (mid : Int) := by omega
                  have cb1 : (i : Int) < (m : Int) := by omega
                  have cb2 : (m : Int) < (en : Int) := by omega
                  have cc1 : (mid : Int) < (en : Int) := by omega
                  have cc2 : ¬ (en : Int) < (b : Int) := by omega
                  clear hsz
                  have HXA0 : Hid (SP fK (L1 ++ R1) (L1 ++ R1) ∧ Srt fK (L1 ++ R1)) := Lib.hid ⟨SP.refl _, by
                    have hnil : L1 = [] := List.eq_nil_of_length_eq_zero (by have := HSZ.out; omega)
                    rw [hnil]; simpa using HSR.out.left⟩
                  have HYA : Hid (SP fK (L2 ++ R2) (L2 ++ R2) ∧ Srt fK (L2 ++ R2)) := Lib.hid ⟨SP.refl _, by
                    have hnil : R2 = [] := List.eq_nil_of_length_eq_zero (by have := HSZ.out; omega)
                    rw [hnil]; simpa using HSL.out.right⟩
                  (try simp only [nsl, Value.cells, unB] at st)
                  (try clear hc); have hc := st.facts; (try simp only [nfl, nft, Nat.reduceAdd] at hc)
                  go_wp2_with fail
                  obtain ⟨fr', al', st', back⟩ := st.sub [0, 1] (by decide) (by simp)
                  (try simp only [nsl, Value.cells, unB] at st')
                  refine (HROT.out (by have := HSZ.out; omega) (by have := HSZ.out; omega) _ _ _ st').mono ?_
                  clear st'
                  rintro en w ⟨rfl, st'⟩
                  replace st := back _ _ (by simp) st'
                  clear back st'
                  (try simp only [nsl, Value.cells, unB] at st)
                  (try clear hc); have hc := st.facts; (try simp only [nfl, nft, Nat.reduceAdd] at hc)
                  go_wp2_with fail
                  rw [List.append_assoc P L1] at st
                  rw [← List.append_assoc L1 R1] at st
                  obtain ⟨X, hX⟩ : ∃ X, L1 ++ R1 = X := ⟨_, rfl⟩
                  have HXA : Hid (SP fK (L1 ++ R1) X ∧ Srt fK X) := Lib.hid (by rw [← hX]; exact HXA0.out)
                  rw [hX] at st
                  clear hX HXA0
                  all_goals (go_end0; exact ⟨rfl, X ++ (L2 ++ R2), ⟨(by have h9 := (sym_sp HCC.out.2).trans (HXA.out.1.app HYA.out.1); simpa only [List.append_assoc] using h9), sym_srt HSL.out HSR.out HCC.out.1 HCC.out.2 HXA.out.1 HXA.out.2 HYA.out.1 HYA.out.2⟩, by simpa using st⟩)
                · have hsz := HSZ.out
                  have ca1 : ¬ (a : Int) < (i : Int) := by omega
                  have ca2 : (i : Int) < (mid : Int) := by omega
                  have cb1 : (i : Int) < (m : Int) := by omega
                  have cb2 : (m : Int) < (en : Int) := by omega
                  have cc1 : (mid : Int) < (en : Int) := by omega
                  have cc2 : (en : Int) < (b : Int) := by omega
                  clear hsz
                  have HXA0 : Hid (SP fK (L1 ++ R1) (L1 ++ R1) ∧ Srt fK (L1 ++ R1)) := Lib.hid ⟨SP.refl _, by
                    have hnil : L1 = [] := List.eq_nil_of_length_eq_zero (by have := HSZ.out; omega)
                    rw [hnil]; simpa using HSR.out.left⟩
                  (try simp only [nsl, Value.cells, unB] at st)
                  (try clear hc); have hc := st.facts; (try simp only [nfl, nft, Nat.reduceAdd] at hc)
                  go_wp2_with fail
                  obtain ⟨fr', al', st', back⟩ := st.sub [0, 1] (by decide) (by simp)
                  (try simp only [nsl, Value.cells, unB] at st')
                  refine (HROT.out (by have := HSZ.out; omega) (by have := HSZ.out; omega) _ _ _ st').mono ?_
                  clear st'
                  rintro en w ⟨rfl, st'⟩
                  replace st := back _ _ (by simp) st'
                  clear back st'
                  (try simp only [nsl, Value.cells, unB] at st)
                  (try clear hc); have hc := st.facts; (try simp only [nfl, nft, Nat.reduceAdd] at hc)
                  go_wp2_with fail
                  rw [List.append_assoc P L1] at st
                  rw [← List.append_assoc L1 R1] at st
                  obtain ⟨X, hX⟩ : ∃ X, L1 ++ R1 = X := ⟨_, rfl⟩
                  have HXA : Hid (SP fK (L1 ++ R1) X ∧ Srt fK X) := Lib.hid (by rw [← hX]; exact HXA0.out)
                  rw [hX] at st
                  clear hX HXA0
                  rw [← List.append_assoc P X] at st
                  obtain ⟨fr', al', st', back⟩ := st.sub [0, 1] (by decide) (by simp)
                  (try simp only [nsl, Value.cells, unB] at st')
                  refine (HI2.out (by have := HSZ.out; omega) (by have := HSZ.out; omega) X (by have := HXA.out.1.len; simpa using this) _ _ _ st').mono ?_
                  clear st'
                  rintro en w ⟨rfl, Y, hY, st'⟩
                  replace st := back _ _ (by simp) st'
                  clear back st'
                  (try simp only [nsl, Value.cells, unB] at st)
                  (try clear hc); have hc := st.facts; (try simp only [nfl, nft, Nat.reduceAdd] at hc)
                  have HYA := Lib.hid hY
                  clear hY
                  go_wp2_with fail
                  all_goals (go_end0; exact ⟨rfl, X ++ Y, ⟨(by have h9 := (sym_sp HCC.out.2).trans (HXA.out.1.app HYA.out.1); simpa only [List.append_assoc] using h9), sym_srt HSL.out HSR.out HCC.out.1 HCC.out.2 HXA.out.1 HXA.out.2 HYA.out.1 HYA.out.2⟩, by simpa using st⟩)
            · rcases Nat.eq_zero_or_pos R1.length with pR1 | pR1
              · rcases Nat.eq_zero_or_pos L2.length with pL2 | pL2
                · have pR2 : 0 < R2.length := by have := HSZ.out; omega
                  have hsz := HSZ.out
                  have ca1 : (a : Int) < (i : Int) := by omega
                  have ca2 : ¬ (i : Int) < (mid : Int) := by omega
                  have cb1 : ¬ (i : Int) < (m : Int) := by omega
                  have cb2 : ¬ (m : Int) < (en : Int) := by omega
                  have cc1 : ¬ (mid : Int) < (en : Int) := by omega
                  have cc2 : (en : Int) < (b : Int) := by omega
                  clear hsz
                  have HXA0 : Hid (SP fK (L1 ++ R1) (L1 ++ R1) ∧ Srt fK (L1 ++ R1)) := Lib.hid ⟨SP.refl _, by
                    have hnil : R1 = [] := List.eq_nil_of_length_eq_zero (by have := HSZ.out; omega)
                    rw [hnil]; simpa using HSL.out.left⟩
                  have HYA : Hid (SP fK (L2 ++ R2) (L2 ++ R2) ∧ Srt fK (L2 ++ R2)) := Lib.hid ⟨SP.refl _, by
                    have hnil : L2 = [] := List.eq_nil_of_length_eq_zero (by have := HSZ.out; omega)
                    rw [hnil]; simpa using HSR.out.right⟩
                  rw [show L2 ++ (R1 ++ (R2 ++ Q)) = R1 ++ (L2 ++ (R2 ++ Q)) by rw [List.eq_nil_of_length_eq_zero (l := L2) (by have := HSZ.out; omega)]; simp] at st
                  (try simp only [nsl, Value.cells, unB] at st)
                  (try clear hc); have hc := st.facts; (try simp only [nfl, nft, Nat.reduceAdd] at hc)
                  go_wp2_with fail
                  rw [List.append_assoc P L1] at st
                  rw [← List.append_assoc L1 R1] at st
                  obtain ⟨X, hX⟩ : ∃ X, L1 ++ R1 = X := ⟨_, rfl⟩
                  have HXA : Hid (SP fK (L1 ++ R1) X ∧ Srt fK X) := Lib.hid (by rw [← hX]; exact HXA0.out)
                  rw [hX] at st
                  clear hX HXA0
                  all_goals (go_end0; exact ⟨rfl, X ++ (L2 ++ R2), ⟨(by have h9 := (sym_sp HCC.out.2).trans (HXA.out.1.app HYA.out.1); simpa only [List.append_assoc] using h9), sym_srt HSL.out HSR.out HCC.out.1 HCC.out.2 HXA.out.1 HXA.out.2 HYA.out.1 HYA.out.2⟩, by simpa using st⟩)
                · rcases Nat.eq_zero_or_pos R2.length with pR2 | pR2
                  · have hsz := HSZ.out
                    have ca1 : (a : Int) < (i : Int) := by omega
                    have ca2 : ¬ (i : Int) < (mid : Int) := by omega
                    have cb1 : (i : Int) < (m : Int) := by omega
                    have cb2 : ¬ (m : Int) < (en : Int) := by omega
                    have cc1 : (mid : Int) < (en : Int) := by omega
                    have cc2 : ¬ (en : Int) < (b : Int) := by omega
                    clear hsz
                    have HXA0 : Hid (SP fK (L1 ++ R1) (L1 ++ R1) ∧ Srt fK (L1 ++ R1)) := Lib.hid ⟨SP.refl _, by
                      have hnil : R1 = [] := List.eq_nil_of_length_eq_zero (by have := HSZ.out; omega)
                      rw [hnil]; simpa using HSL.out.left⟩
                    have HYA : Hid (SP fK (L2 ++ R2) (L2 ++ R2) ∧ Srt fK (L2 ++ R2)) := Lib.hid ⟨SP.refl _, by
                      have hnil : R2 = [] := List.eq_nil_of_length_eq_zero (by have := HSZ.out; omega)
                      rw [hnil]; simpa using HSL.out.right⟩
                    rw [show L2 ++ (R1 ++ (R2 ++ Q)) = R1 ++ (L2 ++ (R2 ++ Q)) by rw [List.eq_nil_of_length_eq_zero (l := R1) (by have := HSZ.out; omega)]; simp] at st
                    (try simp only [nsl, Value.cells, unB] at st)
                    (try clear hc); have hc := st.facts; (try simp only [nfl, nft, Nat.reduceAdd] at hc)
                    go_wp2_with fail
                    rw [List.append_assoc P L1] at st
                    rw [← List.append_assoc L1 R1] at st
                    obtain ⟨X, hX⟩ : ∃ X, L1 ++ R1 = X := ⟨_, rfl⟩
                    have HXA : Hid (SP fK (L1 ++ R1) X ∧ Srt fK X) := Lib.hid (by rw [← hX]; exact HXA0.out)
                    rw [hX] at st
                    clear hX HXA0
                    all_goals (go_end0; exact ⟨rfl, X ++ (L2 ++ R2), ⟨(by have h9 := (sym_sp HCC.out.2).trans (HXA.out.1.app HYA.out.1); simpa only [List.append_assoc] using h9), sym_srt HSL.out HSR.out HCC.out.1 HCC.out.2 HXA.out.1 HXA.out.2 HYA.out.1 HYA.out.2⟩, by simpa using st⟩)
                  · have hsz := HSZ.out
                    have ca1 : (a : Int) < (i : Int) := by omega
                    have ca2 : ¬ (i : Int) < (mid : Int) := by omega
                    have cb1 : (i : Int) < (m : Int) := by omega
                    have cb2 : ¬ (m : Int) < (en : Int) := by omega
                    have cc1 : (mid : Int) < (en : Int) := by omega
                    have cc2 : (en : Int) < (b : Int) := by omega
                    clear hsz
                    have HXA0 : Hid (SP fK (L1 ++ R1) (L1 ++ R1) ∧ Srt fK (L1 ++ R1)) := Lib.hid ⟨SP.refl _, by
                      have hnil : R1 = [] := List.eq_nil_of_length_eq_zero (by have := HSZ.out; omega)
                      rw [hnil]; simpa using HSL.out.left⟩
                    rw [show L2 ++ (R1 ++ (R2 ++ Q)) = R1 ++ (L2 ++ (R2 ++ Q)) by rw [List.eq_nil_of_length_eq_zero (l := R1) (by have := HSZ.out; omega)]; simp] at st
                    (try simp only [nsl, Value.cells, unB] at st)
                    (try clear hc); have hc := st.facts; (try simp only [nfl, nft, Nat.reduceAdd] at hc)
                    go_wp2_with fail
                    rw [List.append_assoc P L1] at st
                    rw [← List.append_assoc L1 R1] at st
                    obtain ⟨X, hX⟩ : ∃ X, L1 ++ R1 = X := ⟨_, rfl⟩
                    have HXA : Hid (SP fK (L1 ++ R1) X ∧ Srt fK X) := Lib.hid (by rw [← hX]; exact HXA0.out)
                    rw [hX] at st
                    clear hX HXA0
                    rw [← List.append_assoc P X] at st
                    obtain ⟨fr', al', st', back⟩ := st.sub [0, 1] (by decide) (by simp)
                    (try simp only [nsl, Value.cells, unB] at st')
                    refine (HI2.out (by have := HSZ.out; omega) (by have := HSZ.out; omega) X (by have := HXA.out.1.len; simpa using this) _ _ _ st').mono ?_
                    clear st'
                    rintro en w ⟨rfl, Y, hY, st'⟩
                    replace st := back _ _ (by simp) st'
                    clear back st'
                    (try simp only [nsl, Value.cells, unB] at st)
                    (try clear hc); have hc := st.facts; (try simp only [nfl, nft, Nat.reduceAdd] at hc)
                    have HYA := Lib.hid hY
                    clear hY
                    go_wp2_with fail
                    all_goals (go_end0; exact ⟨rfl, X ++ Y, ⟨(by have h9 := (sym_sp HCC.out.2).trans (HXA.out.1.app HYA.out.1); simpa only [List.append_assoc] using h9), sym_srt HSL.out HSR.out HCC.out.1 HCC.out.2 HXA.out.1 HXA.out.2 HYA.out.1 HYA.out.2⟩, by simpa using st⟩)
              · rcases Nat.eq_zero_or_pos L2.length with pL2 | pL2
                · have pR2 : 0 < R2.length := by have := HSZ.out; omega
                  have hsz := HSZ.out
                  have ca1 : (a : Int) < (i : Int) := by omega
                  have ca2 : (i : Int) < (mid : Int) := by omega
                  have cb1 : ¬ (i : Int) < (m : Int) := by omega
                  have cb2 : (m : Int) < (en : Int) := by omega
                  have cc1 : ¬ (mid : Int) < (en : Int) := by omega
                  have cc2 : (en : Int) < (b : Int) := by omega
                  clear hsz
                  have HYA : Hid (SP fK (L2 ++ R2) (L2 ++ R2) ∧ Srt fK (L2 ++ R2)) := Lib.hid ⟨SP.refl _, by
                    have hnil : L2 = [] := List.eq_nil_of_length_eq_zero (by have := HSZ.out; omega)
                    rw [hnil]; simpa using HSR.out.right⟩
                  rw [show L2 ++ (R1 ++ (R2 ++ Q)) = R1 ++ (L2 ++ (R2 ++ Q)) by rw [List.eq_nil_of_length_eq_zero (l := L2) (by have := HSZ.out; omega)]; simp] at st
                  (try simp only [nsl, Value.cells, unB] at st)
                  (try clear hc); have hc := st.facts; (try simp only [nfl, nft, Nat.reduceAdd] at hc)
                  go_wp2_with fail
                  rw [List.append_assoc P L1] at st
                  obtain ⟨fr', al', st', back⟩ := st.sub [0, 1] (by decide) (by simp)
                  (try simp only [nsl, Value.cells, unB] at st')
                  refine (HI1.out (by have := HSZ.out; omega) (by have := HSZ.out; omega) _ _ _ st').mono ?_
                  clear st'
                  rintro en w ⟨rfl, X, hX, st'⟩
                  replace st := back _ _ (by simp) st'
                  clear back st'
                  (try simp only [nsl, Value.cells, unB] at st)
                  (try clear hc); have hc := st.facts; (try simp only [nfl, nft, Nat.reduceAdd] at hc)
                  have HXA := Lib.hid hX
                  clear hX
                  go_wp2_with fail
                  all_goals (go_end0; exact ⟨rfl, X ++ (L2 ++ R2), ⟨(by have h9 := (sym_sp HCC.out.2).trans (HXA.out.1.app HYA.out.1); simpa only [List.append_assoc] using h9), sym_srt HSL.out HSR.out HCC.out.1 HCC.out.2 HXA.out.1 HXA.out.2 HYA.out.1 HYA.out.2⟩, by simpa using st⟩)
                · rcases Nat.eq_zero_or_pos R2.length with pR2 | pR2
                  · have hsz := HSZ.out
                    have ca1 : (a : Int) < (i : Int) := by omega
                    have ca2 : (i : Int) < (mid : Int) := by omega
                    have cb1 : (i : Int) < (m : Int) := by omega
                    have cb2 : (m : Int) < (en : Int) := by omega
                    have cc1 : (mid : Int) < (en : Int) := by omega
                    have cc2 : ¬ (en : Int) < (b : Int) := by omega
                    clear hsz
                    have HYA : Hid (SP fK (L2 ++ R2) (L2 ++ R2) ∧ Srt fK (L2 ++ R2)) := Lib.hid ⟨SP.refl _, by
                      have hnil : R2 = [] := List.eq_nil_of_length_eq_zero (by have := HSZ.out; omega)
                      rw [hnil]; simpa using HSL.out.right⟩
                    (try simp only [nsl, Value.cells, unB] at st)
                    (try clear hc); have hc := st.facts; (try simp only [nfl, nft, Nat.reduceAdd] at hc)
                    go_wp2_with fail
                    obtain ⟨fr', al', st', back⟩ := st.sub [0, 1] (by decide) (by simp)
                    (try simp only [nsl, Value.cells, unB] at st')
                    refine (HROT.out (by have := HSZ.out; omega) (by have := HSZ.out; omega) _ _ _ st').mono ?_
                    clear st'
                    rintro en w ⟨rfl, st'⟩
                    replace st := back _ _ (by simp) st'
                    clear back st'
                    (try simp only [nsl, Value.cells, unB] at st)
                    (try clear hc); have hc := st.facts; (try simp only [nfl, nft, Nat.reduceAdd] at hc)
                    go_wp2_with fail
                    rw [List.append_assoc P L1] at st
                    obtain ⟨fr', al', st', back⟩ := st.sub [0, 1] (by decide) (by simp)
                    (try simp only [nsl, Value.cells, unB] at st')
                    refine (HI1.out (by have := HSZ.out; omega) (by have := HSZ.out; omega) _ _ _ st').mono ?_
                    clear st'
                    rintro en w ⟨rfl, X, hX, st'⟩
                    replace st := back _ _ (by simp) st'
                    clear back st'
                    (try simp only [nsl, Value.cells, unB] at st)
                    (try clear hc); have hc := st.facts; (try simp only [nfl, nft, Nat.reduceAdd] at hc)
                    have HXA := Lib.hid hX
                    clear hX
                    go_wp2_with fail
                    all_goals (go_end0; exact ⟨rfl, X ++ (L2 ++ R2), ⟨(by have h9 := (sym_sp HCC.out.2).trans (HXA.out.1.app HYA.out.1); simpa only [List.append_assoc] using h9), sym_srt HSL.out HSR.out HCC.out.1 HCC.out.2 HXA.out.1 HXA.out.2 HYA.out.1 HYA.out.2⟩, by simpa using st⟩)
                  · have hsz := HSZ.out
                    have ca1 : (a : Int) < (i : Int) := by omega
                    have ca2 : (i : Int) < (mid : Int) := by omega
                    have cb1 : (i : Int) < (m : Int) := by omega
                    have cb2 : (m : Int) < (en : Int) := by omega
                    have cc1 : (mid : Int) < (en : Int) := by omega
                    have cc2 : (en : Int) < (b : Int) := by omega
                    clear hsz
                    (try simp only [nsl, Value.cells, unB] at st)
                    (try clear hc); have hc := st.facts; (try simp only [nfl, nft, Nat.reduceAdd] at hc)
                    go_wp2_with fail
                    obtain ⟨fr', al', st', back⟩ := st.sub [0, 1] (by decide) (by simp)
                    (try simp only [nsl, Value.cells, unB] at st')
                    refine (HROT.out (by have := HSZ.out; omega) (by have := HSZ.out; omega) _ _ _ st').mono ?_
                    clear st'
                    rintro en w ⟨rfl, st'⟩
                    replace st := back _ _ (by simp) st'
                    clear back st'
                    (try simp only [nsl, Value.cells, unB] at st)
                    (try clear hc); have hc := st.facts; (try simp only [nfl, nft, Nat.reduceAdd] at hc)
                    go_wp2_with fail
                    rw [List.append_assoc P L1] at st
                    obtain ⟨fr', al', st', back⟩ := st.sub [0, 1] (by decide) (by simp)
                    (try simp only [nsl, Value.cells, unB] at st')
                    refine (HI1.out (by have := HSZ.out; omega) (by have := HSZ.out; omega) _ _ _ st').mono ?_
                    clear st'
                    rintro en w ⟨rfl, X, hX, st'⟩
                    replace st := back _ _ (by simp) st'
                    clear back st'
                    (try simp only [nsl, Value.cells, unB] at st)
                    (try clear hc); have hc := st.facts; (try simp only [nfl, nft, Nat.reduceAdd] at hc)
                    have HXA := Lib.hid hX
                    clear hX
                    go_wp2_with fail
                    rw [← List.append_assoc P X] at st
                    obtain ⟨fr', al', st', back⟩ := st.sub [0, 1] (by decide) (by simp)
                    (try simp only [nsl, Value.cells, unB] at st')
                    refine (HI2.out (by have := HSZ.out; omega) (by have := HSZ.out; omega) X (by have := HXA.out.1.len; simpa using this) _ _ _ st').mono ?_
                    clear st'
                    rintro en w ⟨rfl, Y, hY, st'⟩
                    replace st := back _ _ (by simp) st'
                    clear back st'
                    (try simp only [nsl, Value.cells, unB] at st)
                    (try clear hc); have hc := st.facts; (try simp only [nfl, nft, Nat.reduceAdd] at hc)
                    have HYA := Lib.hid hY
                    clear hY
                    go_wp2_with fail
                    all_goals (go_end0; exact ⟨rfl, X ++ Y, ⟨(by have h9 := (sym_sp HCC.out.2).trans (HXA.out.1.app HYA.out.1); simpa only [List.append_assoc] using h9), sym_srt HSL.out HSR.out HCC.out.1 HCC.out.2 HXA.out.1 HXA.out.2 HYA.out.1 HYA.out.2⟩, by simpa using st⟩)
      · have hmmi : ¬ (mid : Int) < (m : Int) := by omega
        have HST : Hid (True ∧ (a ≤ a ∧ a ≤ m ∧ m ≤ m) ∧ ((nn = a + b ∧ m = mid) ∨ (a = a ∧ m = m))) := Lib.hid ⟨trivial, ⟨Nat.le_refl _, by omega, Nat.le_refl _⟩, .inr ⟨rfl, rfl⟩⟩
        clear hnb
        (try simp only [nsl, Value.cells, unB] at st)
        (try clear hc); have hc := st.facts; (try simp only [nfl, nft, Nat.reduceAdd] at hc)
        go_enter Try.func179, Try.ntmps179
        go_wp2_with fail
        go_loopg [20, 21] (m - a) (fun q iv jv wr => ∃ (i j : Nat), q = j - i ∧ (a ≤ i ∧ i ≤ j ∧ j ≤ m) ∧ iv = .int .i64 (i : Int) ∧ jv = .int .i64 (j : Int) ∧ Hid ((i = a ∨ ∃ x y, zs[pp - (i - 1)]? = some x ∧ zs[i - 1]? = some y ∧ kLt fK x y = false) ∧ (j = m ∨ ∃ x y, zs[pp - j]? = some x ∧ zs[j]? = some y ∧ kLt fK x y = true)) ∧ Own fr al W [rowI 26 5 (.slice (some ⟨g, 0, none⟩) n c) n (cellsL zs), fmsI base] wr)
        case atStart => exact ⟨a, m, rfl, by have := HST.out; omega, rfl, rfl, Lib.hid ⟨.inl rfl, .inl rfl⟩, st⟩
        case round =>
          obtain ⟨i, j, rfl, hij, rfl, rfl, HIJ, st'⟩ := hrel
          clear st hc
          have st := st'
          clear st'
          have hSTo := HST.out
          have hMo := HMID.out
          have hDo := HD.out
          by_cases hlt : i < j
          · skip
            obtain ⟨s, hs⟩ : ∃ q, i + j = q := ⟨_, rfl⟩
            have w3 : IntKind.i64.wrap ((i : Int) + (j : Int)) = (s : Int) := by rw [← hs]; exact IntWalk.i64_in _ ⟨by omega, by omega⟩
            obtain ⟨h, hh⟩ : ∃ q, s / 2 = q := ⟨_, rfl⟩
            have w4 : (s : Int) / 2 = (h : Int) := by omega
            have hhr : i ≤ h ∧ h < j := by omega
            have w5 : IntKind.i64.wrap ((h : Int) + 1) = ((h + 1 : Nat) : Int) := IntWalk.i64_in _ ⟨by omega, by omega⟩
            have hsn : s ≤ 4000000 := by omega
            obtain ⟨e, he⟩ : ∃ q, pp - h = q := ⟨_, rfl⟩
            have heb : m ≤ e ∧ e < b ∧ h < m ∧ a ≤ h := by omega
            have w8 : IntKind.i64.wrap ((pp : Int) - (h : Int)) = (e : Int) := by rw [← he, show (((pp - h : Nat)) : Int) = (pp : Int) - (h : Int) by omega]; exact IntWalk.i64_in _ ⟨by omega, by omega⟩
            obtain ⟨x, hx⟩ : ∃ x, zs[e]? = some x := ⟨_, List.getElem?_eq_getElem (by have := HZL.out; omega)⟩
            obtain ⟨y, hy⟩ : ∃ x, zs[h]? = some x := ⟨_, List.getElem?_eq_getElem (by have := HZL.out; omega)⟩
            have hxb := HIN.out e x (by omega) (by omega) hx
            have hyb := HIN.out h y (by omega) (by omega) hy
            obtain ⟨cv, hcv⟩ : ∃ z, cmp2 (fK x) (fK y) = z := ⟨_, rfl⟩
            have HC2 := Lib.hid (fun W' hw => HCM.out x y hxb hyb W' hw)
            have hneg := cmp2_neg (fK x) (fK y)
            rw [hcv] at HC2 hneg
            obtain ⟨lv, hlv⟩ : ∃ z, kLt fK x y = z := ⟨_, rfl⟩
            have hlv2 : strLt (fK x) (fK y) = lv := hlv
            rw [hlv2] at hneg
            have HE : Hid (∃ x y, zs[pp - h]? = some x ∧ zs[h]? = some y ∧ kLt fK x y = lv) := Lib.hid ⟨x, y, by rw [he]; exact hx, hy, hlv⟩
            have hhn : h < n := by omega
            have hen : e < n := by omega
            clear hcv hlv hlv2 hs hh hxb hyb he hSTo hMo hDo
            obtain ⟨op2, k2, ⟨o2, d2⟩, fa2, fn2, fc2, kids2⟩ := x
            obtain ⟨op, k, ⟨o, d⟩, fa, fn, fc, kids⟩ := y
            have HU := Lib.hid (fm_cells hx)
            have HV := Lib.hid (fm_cells hy)
            clear hx hy
            unfold fmV S at HC2
            simp only at HC2
            cases lv with
            | false =>
              have hng : ¬ cv < 0 := fun q => by have := hneg.1 q; cases this
              have hdc : decide (cv < 0) = false := decide_eq_false hng
              have HIJ2 : Hid ((h + 1 = a ∨ ∃ x y, zs[pp - (h + 1 - 1)]? = some x ∧ zs[h + 1 - 1]? = some y ∧ kLt fK x y = false) ∧ (j = m ∨ ∃ x y, zs[pp - j]? = some x ∧ zs[j]? = some y ∧ kLt fK x y = true)) := Lib.hid ⟨.inr (by simpa using HE.out), HIJ.out.2⟩
              clear hneg
              (try simp only [nsl, Value.cells, unB] at st)
              (try clear hc); have hc := st.facts; (try simp only [nfl, nft, Nat.reduceAdd] at hc)
              go_wp2_with fail
              refine Rg4.wp_region4_eq #[0, 0, 0, 0, 12, 30, 62, 0, 0, 384, 896, 2047, 4095, 8191] [11] [6, 10] (fun _ => True) [0, 1, 2, 3, 4, 5, 6, 7, 8, 9, 10, 11, 12, 13] (by kernel_rfl) (by kernel_rfl) (by kernel_rfl) (by kernel_rfl) (show Rg4.PB _ by repeat (first | with_reducible exact Rg4.pb_body | with_reducible exact Rg4.pb_bodyD rfl | with_reducible refine Rg4.pb_then ?_ | with_reducible refine Rg4.pb_inBlock ?_ | with_reducible refine Rg4.pb_noGoto ?_)) (trivial) ?_
              replace st := st.drew
              change Rg4.wp4 _ _ _ _ _ _ _ _ _ (World.drew _) _ _
              generalize World.drew _ = w at st ⊢
              (try clear hc); have hc := st.facts; (try simp only [nfl, nft, Nat.reduceAdd] at hc)
              iterate 6 (refine Rg4.w4_any (Rg4.want_none rfl) rfl ?_; apply Exists.intro; refine ⟨fun w' => ?_, ?_⟩; (focus (first | (go_simp; done) | (go_simp; first | rfl | (rw [if_neg] <;> first | rfl | omega) | (rw [if_pos] <;> first | rfl | omega)))); (try simp only [Rg4.nrm]))
              (refine Rg4.w4_read (Rg4.want_none rfl) rfl rfl ?_; apply Exists.intro; refine ⟨fun w' hw' hcl' => ?_, ?_⟩; focus (subst hw'; have r0 := st.rowC (i := 0) get0 _ _ HU.out.1; have r1 := st.rowC (i := 0) get0 _ _ HU.out.2.1; have r2 := st.rowC (i := 0) get0 _ _ HU.out.2.2.1; have r3 := st.rowC (i := 0) get0 _ _ HU.out.2.2.2.1; have r4 := st.rowC (i := 0) get0 _ _ HU.out.2.2.2.2; have q0 := st.rowC (i := 0) get0 _ _ HV.out.1; have q1 := st.rowC (i := 0) get0 _ _ HV.out.2.1; have q2 := st.rowC (i := 0) get0 _ _ HV.out.2.2.1; have q3 := st.rowC (i := 0) get0 _ _ HV.out.2.2.2.1; have q4 := st.rowC (i := 0) get0 _ _ HV.out.2.2.2.2; (focus (first | (go_simp; done) | (go_simp; first | rfl | (rw [if_neg] <;> first | rfl | omega) | (rw [if_pos] <;> first | rfl | omega))))); (try simp only [Rg4.nrm]))
              iterate 3 (refine Rg4.w4_any (Rg4.want_none rfl) rfl ?_; apply Exists.intro; refine ⟨fun w' => ?_, ?_⟩; (focus (first | (go_simp; done) | (go_simp; first | rfl | (rw [if_neg] <;> first | rfl | omega) | (rw [if_pos] <;> first | rfl | omega)))); (try simp only [Rg4.nrm]))
              (refine Rg4.w4_read (Rg4.want_none rfl) rfl rfl ?_; apply Exists.intro; refine ⟨fun w' hw' hcl' => ?_, ?_⟩; focus (subst hw'; have r0 := st.rowC (i := 0) get0 _ _ HU.out.1; have r1 := st.rowC (i := 0) get0 _ _ HU.out.2.1; have r2 := st.rowC (i := 0) get0 _ _ HU.out.2.2.1; have r3 := st.rowC (i := 0) get0 _ _ HU.out.2.2.2.1; have r4 := st.rowC (i := 0) get0 _ _ HU.out.2.2.2.2; have q0 := st.rowC (i := 0) get0 _ _ HV.out.1; have q1 := st.rowC (i := 0) get0 _ _ HV.out.2.1; have q2 := st.rowC (i := 0) get0 _ _ HV.out.2.2.1; have q3 := st.rowC (i := 0) get0 _ _ HV.out.2.2.2.1; have q4 := st.rowC (i := 0) get0 _ _ HV.out.2.2.2.2; (focus (first | (go_simp; done) | (go_simp; first | rfl | (rw [if_neg] <;> first | rfl | omega) | (rw [if_pos] <;> first | rfl | omega))))); (try simp only [Rg4.nrm]))
              refine Rg4.w4_bar (Rg4.want_none rfl) rfl (fun w' hw' hcl _ K hK => ?_)
              subst hw'
              go_wp2_with fail
              refine (HC2.out _ (st.fms (i := 1) get1)).mono ?_
              rintro en w ⟨rfl, hx⟩
              replace st := st.ext hx
              clear hx
              (try clear hc); have hc := st.facts; (try simp only [nfl, nft, Nat.reduceAdd] at hc)
              refine hK _ _ ⟨trivial, ?_⟩
              clear hK
              (try simp only [Rg4.nrm])
              iterate 2 (refine Rg4.w4_any (Rg4.want_none rfl) rfl ?_; apply Exists.intro; refine ⟨fun w' => ?_, ?_⟩; (focus (first | (go_simp; done) | (go_simp; first | rfl | (rw [if_neg] <;> first | rfl | omega) | (rw [if_pos] <;> first | rfl | omega)))); (try simp only [Rg4.nrm]))
              refine Rg4.w4_nil (fun w' hw' hcl' _ => ?_); subst hw'; clear hcl'
              go_wp2_with fail
              go_roundg (j - (h + 1))
              case measure => omega
              case rel => exact ⟨h + 1, j, rfl, by omega, rfl, rfl, HIJ2, st⟩
            | true =>
              have hng : cv < 0 := hneg.2 rfl
              have hdc : decide (cv < 0) = true := decide_eq_true hng
              have HIJ2 : Hid ((i = a ∨ ∃ x y, zs[pp - (i - 1)]? = some x ∧ zs[i - 1]? = some y ∧ kLt fK x y = false) ∧ (h = m ∨ ∃ x y, zs[pp - h]? = some x ∧ zs[h]? = some y ∧ kLt fK x y = true)) := Lib.hid ⟨HIJ.out.1, .inr HE.out⟩
              clear hneg
              (try simp only [nsl, Value.cells, unB] at st)
              (try clear hc); have hc := st.facts; (try simp only [nfl, nft, Nat.reduceAdd] at hc)
              go_wp2_with fail
              refine Rg4.wp_region4_eq #[0, 0, 0, 0, 12, 30, 62, 0, 0, 384, 896, 2047, 4095, 8191] [11] [6, 10] (fun _ => True) [0, 1, 2, 3, 4, 5, 6, 7, 8, 9, 10, 11, 12, 13] (by kernel_rfl) (by kernel_rfl) (by kernel_rfl) (by kernel_rfl) (show Rg4.PB _ by repeat (first | with_reducible exact Rg4.pb_body | with_reducible exact Rg4.pb_bodyD rfl | with_reducible refine Rg4.pb_then ?_ | with_reducible refine Rg4.pb_inBlock ?_ | with_reducible refine Rg4.pb_noGoto ?_)) (trivial) ?_
              replace st := st.drew
              change Rg4.wp4 _ _ _ _ _ _ _ _ _ (World.drew _) _ _
              generalize World.drew _ = w at st ⊢
              (try clear hc); have hc := st.facts; (try simp only [nfl, nft, Nat.reduceAdd] at hc)
              iterate 6 (refine Rg4.w4_any (Rg4.want_none rfl) rfl ?_; apply Exists.intro; refine ⟨fun w' => ?_, ?_⟩; (focus (first | (go_simp; done) | (go_simp; first | rfl | (rw [if_neg] <;> first | rfl | omega) | (rw [if_pos] <;> first | rfl | omega)))); (try simp only [Rg4.nrm]))
              (refine Rg4.w4_read (Rg4.want_none rfl) rfl rfl ?_; apply Exists.intro; refine ⟨fun w' hw' hcl' => ?_, ?_⟩; focus (subst hw'; have r0 := st.rowC (i := 0) get0 _ _ HU.out.1; have r1 := st.rowC (i := 0) get0 _ _ HU.out.2.1; have r2 := st.rowC (i := 0) get0 _ _ HU.out.2.2.1; have r3 := st.rowC (i := 0) get0 _ _ HU.out.2.2.2.1; have r4 := st.rowC (i := 0) get0 _ _ HU.out.2.2.2.2; have q0 := st.rowC (i := 0) get0 _ _ HV.out.1; have q1 := st.rowC (i := 0) get0 _ _ HV.out.2.1; have q2 := st.rowC (i := 0) get0 _ _ HV.out.2.2.1; have q3 := st.rowC (i := 0) get0 _ _ HV.out.2.2.2.1; have q4 := st.rowC (i := 0) get0 _ _ HV.out.2.2.2.2; (focus (first | (go_simp; done) | (go_simp; first | rfl | (rw [if_neg] <;> first | rfl | omega) | (rw [if_pos] <;> first | rfl | omega))))); (try simp only [Rg4.nrm]))
              iterate 3 (refine Rg4.w4_any (Rg4.want_none rfl) rfl ?_; apply Exists.intro; refine ⟨fun w' => ?_, ?_⟩; (focus (first | (go_simp; done) | (go_simp; first | rfl | (rw [if_neg] <;> first | rfl | omega) | (rw [if_pos] <;> first | rfl | omega)))); (try simp only [Rg4.nrm]))
              (refine Rg4.w4_read (Rg4.want_none rfl) rfl rfl ?_; apply Exists.intro; refine ⟨fun w' hw' hcl' => ?_, ?_⟩; focus (subst hw'; have r0 := st.rowC (i := 0) get0 _ _ HU.out.1; have r1 := st.rowC (i := 0) get0 _ _ HU.out.2.1; have r2 := st.rowC (i := 0) get0 _ _ HU.out.2.2.1; have r3 := st.rowC (i := 0) get0 _ _ HU.out.2.2.2.1; have r4 := st.rowC (i := 0) get0 _ _ HU.out.2.2.2.2; have q0 := st.rowC (i := 0) get0 _ _ HV.out.1; have q1 := st.rowC (i := 0) get0 _ _ HV.out.2.1; have q2 := st.rowC (i := 0) get0 _ _ HV.out.2.2.1; have q3 := st.rowC (i := 0) get0 _ _ HV.out.2.2.2.1; have q4 := st.rowC (i := 0) get0 _ _ HV.out.2.2.2.2; (focus (first | (go_simp; done) | (go_simp; first | rfl | (rw [if_neg] <;> first | rfl | omega) | (rw [if_pos] <;> first | rfl | omega))))); (try simp only [Rg4.nrm]))
              refine Rg4.w4_bar (Rg4.want_none rfl) rfl (fun w' hw' hcl _ K hK => ?_)
              subst hw'
              go_wp2_with fail
              refine (HC2.out _ (st.fms (i := 1) get1)).mono ?_
              rintro en w ⟨rfl, hx⟩
              replace st := st.ext hx
              clear hx
              (try clear hc); have hc := st.facts; (try simp only [nfl, nft, Nat.reduceAdd] at hc)
              refine hK _ _ ⟨trivial, ?_⟩
              clear hK
              (try simp only [Rg4.nrm])
              iterate 2 (refine Rg4.w4_any (Rg4.want_none rfl) rfl ?_; apply Exists.intro; refine ⟨fun w' => ?_, ?_⟩; (focus (first | (go_simp; done) | (go_simp; first | rfl | (rw [if_neg] <;> first | rfl | omega) | (rw [if_pos] <;> first | rfl | omega)))); (try simp only [Rg4.nrm]))
              refine Rg4.w4_nil (fun w' hw' hcl' _ => ?_); subst hw'; clear hcl'
              go_wp2_with fail
              go_roundg (h - i)
              case measure => omega
              case rel => exact ⟨i, h, rfl, by omega, rfl, rfl, HIJ2, st⟩
          · obtain rfl : i = j := by omega
            obtain ⟨en, hen⟩ : ∃ q, nn - i = q := ⟨_, rfl⟩
            have w8 : IntKind.i64.wrap ((nn : Int) - (i : Int)) = (en : Int) := by rw [← hen, show (((nn - i : Nat)) : Int) = (nn : Int) - (i : Int) by omega]; exact IntWalk.i64_in _ ⟨by omega, by omega⟩
            have hrg : a ≤ i ∧ i ≤ m ∧ m ≤ en ∧ en ≤ b ∧ (i - a) + (en - m) = mid - a ∧ a < mid ∧ mid < b := by omega
            obtain ⟨t, ht⟩ : ∃ q, i - a = q := ⟨_, rfl⟩
            obtain ⟨t2, ht2⟩ : ∃ q, en - m = q := ⟨_, rfl⟩
            have hc1 : ∀ l ∈ L.take t, ∀ r ∈ R.drop t2, kLt fK r l = false := by
              rcases HIJ.out.1 with q | ⟨x, y, q1, q2, q3⟩
              · rcases hSTo.2.2 with q4 | q4
                · rw [List.drop_of_length_le (l := R) (by omega)]; simp
                · have : t = 0 := by omega
                  subst this; simp
              · rcases Nat.eq_zero_or_pos t with t0 | t0
                · subst t0; simp
                · rcases Nat.lt_or_ge en b with e0 | e0
                  · rw [← HZ.out, at_R (by omega) (by omega), show pp - (i - 1) - (P.length + L.length) = t2 by omega] at q1
                    rw [← HZ.out, at_L (by omega) (by omega), show i - 1 - P.length = t - 1 by omega] at q2
                    have h1 := take_le HSL.out q2
                    rw [show t - 1 + 1 = t by omega] at h1
                    have h2 := drop_ge HSR.out q1
                    exact fun l hl r hr => kLe_tr (h1 l hl) (kLe_tr q3 (h2 r hr))
                  · rw [List.drop_of_length_le (l := R) (by omega)]; simp
            have hc2 : ∀ r ∈ R.take t2, ∀ l ∈ L.drop t, kLt fK r l = true := by
              rcases HIJ.out.2 with q | ⟨x, y, q1, q2, q3⟩
              · rcases hSTo.2.2 with q4 | q4
                · have : t2 = 0 := by omega
                  subst this; simp
                · rw [List.drop_of_length_le (l := L) (by omega)]; simp
              · rcases Nat.eq_zero_or_pos t2 with t0 | t0
                · subst t0; simp
                · rcases Nat.lt_or_ge i m with e0 | e0
                  · rw [← HZ.out, at_R (by omega) (by omega), show pp - i - (P.length + L.length) = t2 - 1 by omega] at q1
                    rw [← HZ.out, at_L (by omega) (by omega), show i - P.length = t by omega] at q2
                    have h1 := take_le HSR.out q1
                    rw [show t2 - 1 + 1 = t2 by omega] at h1
                    have h2 := drop_ge HSL.out q2
                    exact fun r hr l hl => kLt_le (kLe_lt (h1 r hr) q3) (h2 l hl)
                  · rw [List.drop_of_length_le (l := L) (by omega)]; simp
            have eL : L = L.take t ++ L.drop t := (List.take_append_drop _ _).symm
            have eR : R = R.take t2 ++ R.drop t2 := (List.take_append_drop _ _).symm
            have l1 : (L.take t).length = t := by simp; omega
            have l2 : (L.drop t).length = L.length - t := by simp
            have r1 : (R.take t2).length = t2 := by simp; omega
            have r2 : (R.drop t2).length = R.length - t2 := by simp
            generalize L.take t = L1 at *
            generalize L.drop t = L2 at *
            generalize R.take t2 = R1 at *
            generalize R.drop t2 = R2 at *
            have hsz : P.length = a ∧ i = a + L1.length ∧ m = i + L2.length ∧ en = m + R1.length ∧ b = en + R2.length ∧ mid = a + L1.length + R1.length ∧ 0 < L1.length + R1.length ∧ 0 < L2.length + R2.length ∧ L1.length + R1.length + (L2.length + R2.length) ≤ N + 1 := by omega
            have HSZ := Lib.hid hsz
            subst eL eR
            have HCC := Lib.hid (And.intro hc1 hc2)
            have st0 : Own fr al W [rowI 26 5 (.slice (some ⟨g, 0, none⟩) n c) n (cellsL ((P ++ L1) ++ (L2 ++ (R1 ++ (R2 ++ Q))))), fmsI base] wr := by
              have := HZ.out
              rw [← this] at st
              simpa using st
            have HROT := Lib.hid (fun (h1 : 0 < L2.length) (h2 : 0 < R1.length) fr al W st => rotate_c (fr := fr) (al := al) (W := W) (g := g) (n := n) (c := c) (.func (.func 47) #[] #[]) base (P ++ L1) L2 R1 (R2 ++ Q) i m en (by simp; omega) (by simp; omega) (by simp; omega) h1 h2 st hn)
            have HI1 := Lib.hid (fun (h1 : 0 < L1.length) (h2 : 0 < R1.length) fr al W st => HIH.out P L1 R1 (L2 ++ (R2 ++ Q)) (by omega) h1 h2 HSL.out.left HSR.out.left (fun x hx => HMB.out x (by rcases List.mem_append.1 hx with q | q <;> simp [q])) fr al W a i mid (by omega) (by omega) (by omega) st)
            have HI2 := Lib.hid (fun (h1 : 0 < L2.length) (h2 : 0 < R2.length) (A : List Fm) (hA : A.length = L1.length + R1.length) fr al W st => HIH.out (P ++ A) L2 R2 Q (by omega) h1 h2 HSL.out.right HSR.out.right (fun x hx => HMB.out x (by rcases List.mem_append.1 hx with q | q <;> simp [q])) fr al W mid en b (by simp; omega) (by simp; omega) (by simp; omega) st)
            clear st hc1 hc2 HIJ HZ l1 l2 r1 r2 hSTo hMo hDo hen ht ht2 hrg hij hsz HIH HIN HD HST HMID
            have st := st0
            clear st0
            rcases Nat.eq_zero_or_pos L1.length with pL1 | pL1
            · have pR1 : 0 < R1.length := by have := HSZ.out; omega
              rcases Nat.eq_zero_or_pos L2.length with pL2 | pL2
              · have pR2 : 0 < R2.length := by have := HSZ.out; omega
                have hsz := HSZ.out
                have ca1 : ¬ (a : Int) < (i : Int) := by omega
                have ca2 : (i : Int) < (mid : Int) := by omega
                have cb1 : ¬ (i : Int) < (m : Int) := by omega
                have cb2 : (m : Int) < (en : Int) := by omega
                have cc1 : ¬ (mid : Int) < (en : Int) := by omega
                have cc2 : (en : Int) < (b : Int) := by omega
                clear hsz
                have HXA0 : Hid (SP fK (L1 ++ R1) (L1 ++ R1) ∧ Srt fK (L1 ++ R1)) := Lib.hid ⟨SP.refl _, by
                  have hnil : L1 = [] := List.eq_nil_of_length_eq_zero (by have := HSZ.out; omega)
                  rw [hnil]; simpa using HSR.out.left⟩
                have HYA : Hid (SP fK (L2 ++ R2) (L2 ++ R2) ∧ Srt fK (L2 ++ R2)) := Lib.hid ⟨SP.refl _, by
                  have hnil : L2 = [] := List.eq_nil_of_length_eq_zero (by have := HSZ.out; omega)
                  rw [hnil]; simpa using HSR.out.right⟩
                rw [show L2 ++ (R1 ++ (R2 ++ Q)) = R1 ++ (L2 ++ (R2 ++ Q)) by rw [List.eq_nil_of_length_eq_zero (l := L2) (by have := HSZ.out; omega)]; simp] at st
                (try simp only [nsl, Value.cells, unB] at st)
                (try clear hc); have hc := st.facts; (try simp only [nfl, nft, Nat.reduceAdd] at hc)
                go_wp2_with fail
                rw [List.append_assoc P L1] at st
                rw [← List.append_assoc L1 R1] at st
                obtain ⟨X, hX⟩ : ∃ X, L1 ++ R1 = X := ⟨_, rfl⟩
                have HXA : Hid (SP fK (L1 ++ R1) X ∧ Srt fK X) := Lib.hid (by rw [← hX]; exact HXA0.out)
                rw [hX] at st
                clear hX HXA0
                all_goals (go_end0; exact ⟨rfl, X ++ (L2 ++ R2), ⟨(by have h9 := (sym_sp HCC.out.2).trans (HXA.out.1.app HYA.out.1); simpa only [List.append_assoc] using h9), sym_srt HSL.out HSR.out HCC.out.1 HCC.out.2 HXA.out.1 HXA.out.2 HYA.out.1 HYA.out.2⟩, by simpa using st⟩)
              · rcases Nat.eq_zero_or_pos R2.length with pR2 | pR2
                · have hsz := HSZ.out
                  have ca1 : ¬ (a : Int) < (i : Int) := by omega
                  have ca2 : (i : Int) < (mid : Int) := by omega
                  have cb1 : (i : Int) < (m : Int) := by omega
                  have cb2 : (m : Int) < (en : Int) := by omega
                  have cc1 : (mid : Int) < (en : Int) := by omega
                  have cc2 : ¬ (en : Int) < (b : Int) := by omega
                  clear hsz
                  have HXA0 : Hid (SP fK (L1 ++ R1) (L1 ++ R1) ∧ Srt fK (L1 ++ R1)) := Lib.hid ⟨SP.refl _, by
                    have hnil : L1 = [] := List.eq_nil_of_length_eq_zero (by have := HSZ.out; omega)
                    rw [hnil]; simpa using HSR.out.left⟩
                  have HYA : Hid (SP fK (L2 ++ R2) (L2 ++ R2) ∧ Srt fK (L2 ++ R2)) := Lib.hid ⟨SP.refl _, by
                    have hnil : R2 = [] := List.eq_nil_of_length_eq_zero (by have := HSZ.out; omega)
                    rw [hnil]; simpa using HSL.out.right⟩
                  (try simp only [nsl, Value.cells, unB] at st)
                  (try clear hc); have hc := st.facts; (try simp only [nfl, nft, Nat.reduceAdd] at hc)
                  go_wp2_with fail
                  obtain ⟨fr', al', st', back⟩ := st.sub [0, 1] (by decide) (by simp)
                  (try simp only [nsl, Value.cells, unB] at st')
                  refine (HROT.out (by have := HSZ.out; omega) (by have := HSZ.out; omega) _ _ _ st').mono ?_
                  clear st'
                  rintro en w ⟨rfl, st'⟩
                  replace st := back _ _ (by simp) st'
                  clear back st'
                  (try simp only [nsl, Value.cells, unB] at st)
                  (try clear hc); have hc := st.facts; (try simp only [nfl, nft, Nat.reduceAdd] at hc)
                  go_wp2_with fail
                  rw [List.append_assoc P L1] at st
                  rw [← List.append_assoc L1 R1] at st
                  obtain ⟨X, hX⟩ : ∃ X, L1 ++ R1 = X := ⟨_, rfl⟩
                  have HXA : Hid (SP fK (L1 ++ R1) X ∧ Srt fK X) := Lib.hid (by rw [← hX]; exact HXA0.out)
                  rw [hX] at st
                  clear hX HXA0
                  all_goals (go_end0; exact ⟨rfl, X ++ (L2 ++ R2), ⟨(by have h9 := (sym_sp HCC.out.2).trans (HXA.out.1.app HYA.out.1); simpa only [List.append_assoc] using h9), sym_srt HSL.out HSR.out HCC.out.1 HCC.out.2 HXA.out.1 HXA.out.2 HYA.out.1 HYA.out.2⟩, by simpa using st⟩)
                · have hsz := HSZ.out
                  have ca1 : ¬ (a : Int) < (i : Int) := by omega
                  have ca2 : (i : Int) < (mid : Int) := by omega
                  have cb1 : (i : Int) < (m : Int) := by omega
                  have cb2 : (m : Int) < (en : Int) := by omega
                  have cc1 : (mid : Int) < (en : Int) := by omega
                  have cc2 : (en : Int) < (b : Int) := by omega
                  clear hsz
                  have HXA0 : Hid (SP fK (L1 ++ R1) (L1 ++ R1) ∧ Srt fK (L1 ++ R1)) := Lib.hid ⟨SP.refl _, by
                    have hnil : L1 = [] := List.eq_nil_of_length_eq_zero (by have := HSZ.out; omega)
                    rw [hnil]; simpa using HSR.out.left⟩
                  (try simp only [nsl, Value.cells, unB] at st)
                  (try clear hc); have hc := st.facts; (try simp only [nfl, nft, Nat.reduceAdd] at hc)
                  go_wp2_with fail
                  obtain ⟨fr', al', st', back⟩ := st.sub [0, 1] (by decide) (by simp)
                  (try simp only [nsl, Value.cells, unB] at st')
                  refine (HROT.out (by have := HSZ.out; omega) (by have := HSZ.out; omega) _ _ _ st').mono ?_
                  clear st'
                  rintro en w ⟨rfl, st'⟩
                  replace st := back _ _ (by simp) st'
                  clear back st'
                  (try simp only [nsl, Value.cells, unB] at st)
                  (try clear hc); have hc := st.facts; (try simp only [nfl, nft, Nat.reduceAdd] at hc)
                  go_wp2_with fail
                  rw [List.append_assoc P L1] at st
                  rw [← List.append_assoc L1 R1] at st
                  obtain ⟨X, hX⟩ : ∃ X, L1 ++ R1 = X := ⟨_, rfl⟩
                  have HXA : Hid (SP fK (L1 ++ R1) X ∧ Srt fK X) := Lib.hid (by rw [← hX]; exact HXA0.out)
                  rw [hX] at st
                  clear hX HXA0
                  rw [← List.append_assoc P X] at st
                  obtain ⟨fr', al', st', back⟩ := st.sub [0, 1] (by decide) (by simp)
                  (try simp only [nsl, Value.cells, unB] at st')
                  refine (HI2.out (by have := HSZ.out; omega) (by have := HSZ.out; omega) X (by have := HXA.out.1.len; simpa using this) _ _ _ st').mono ?_
                  clear st'
                  rintro en w ⟨rfl, Y, hY, st'⟩
                  replace st := back _ _ (by simp) st'
                  clear back st'
                  (try simp only [nsl, Value.cells, unB] at st)
                  (try clear hc); have hc := st.facts; (try simp only [nfl, nft, Nat.reduceAdd] at hc)
                  have HYA := Lib.hid hY
                  clear hY
                  go_wp2_with fail
                  all_goals (go_end0; exact ⟨rfl, X ++ Y, ⟨(by have h9 := (sym_sp HCC.out.2).trans (HXA.out.1.app HYA.out.1); simpa only [List.append_assoc] using h9), sym_srt HSL.out HSR.out HCC.out.1 HCC.out.2 HXA.out.1 HXA.out.2 HYA.out.1 HYA.out.2⟩, by simpa using st⟩)
            · rcases Nat.eq_zero_or_pos R1.length with pR1 | pR1
              · rcases Nat.eq_zero_or_pos L2.length with pL2 | pL2
                · have pR2 : 0 < R2.length := by have := HSZ.out; omega
                  have hsz := HSZ.out
                  have ca1 : (a : Int) < (i : Int) := by omega
                  have ca2 : ¬ (i : Int) < (mid : Int) := by omega
                  have cb1 : ¬ (i : Int) < (m : Int) := by omega
                  have cb2 : ¬ (m : Int) < (en : Int) := by omega
                  have cc1 : ¬ (mid : Int) < (en : Int) := by omega
                  have cc2 : (en : Int) < (b : Int) := by omega
                  clear hsz
                  have HXA0 : Hid (SP fK (L1 ++ R1) (L1 ++ R1) ∧ Srt fK (L1 ++ R1)) := Lib.hid ⟨SP.refl _, by
                    have hnil : R1 = [] := List.eq_nil_of_length_eq_zero (by have := HSZ.out; omega)
                    rw [hnil]; simpa using HSL.out.left⟩
                  have HYA : Hid (SP fK (L2 ++ R2) (L2 ++ R2) ∧ Srt fK (L2 ++ R2)) := Lib.hid ⟨SP.refl _, by
                    have hnil : L2 = [] := List.eq_nil_of_length_eq_zero (by have := HSZ.out; omega)
                    rw [hnil]; simpa using HSR.out.right⟩
                  rw [show L2 ++ (R1 ++ (R2 ++ Q)) = R1 ++ (L2 ++ (R2 ++ Q)) by rw [List.eq_nil_of_length_eq_zero (l := L2) (by have := HSZ.out; omega)]; simp] at st
                  (try simp only [nsl, Value.cells, unB] at st)
                  (try clear hc); have hc := st.facts; (try simp only [nfl, nft, Nat.reduceAdd] at hc)
                  go_wp2_with fail
                  rw [List.append_assoc P L1] at st
                  rw [← List.append_assoc L1 R1] at st
                  obtain ⟨X, hX⟩ : ∃ X, L1 ++ R1 = X := ⟨_, rfl⟩
                  have HXA : Hid (SP fK (L1 ++ R1) X ∧ Srt fK X) := Lib.hid (by rw [← hX]; exact HXA0.out)
                  rw [hX] at st
                  clear hX HXA0
                  all_goals (go_end0; exact ⟨rfl, X ++ (L2 ++ R2), ⟨(by have h9 := (sym_sp HCC.out.2).trans (HXA.out.1.app HYA.out.1); simpa only [List.append_assoc] using h9), sym_srt HSL.out HSR.out HCC.out.1 HCC.out.2 HXA.out.1 HXA.out.2 HYA.out.1 HYA.out.2⟩, by simpa using st⟩)
                · rcases Nat.eq_zero_or_pos R2.length with pR2 | pR2
                  · have hsz := HSZ.out
                    have ca1 : (a : Int) < (i : Int) := by omega
                    have ca2 : ¬ (i : Int) < (mid : Int) := by omega
                    have cb1 : (i : Int) < (m : Int) := by omega
                    have cb2 : ¬ (m : Int) < (en : Int) := by omega
                    have cc1 : (mid : Int) < (en : Int) := by omega
                    have cc2 : ¬ (en : Int) < (b : Int) := by omega
                    clear hsz
                    have HXA0 : Hid (SP fK (L1 ++ R1) (L1 ++ R1) ∧ Srt fK (L1 ++ R1)) := Lib.hid ⟨SP.refl _, by
                      have hnil : R1 = [] := List.eq_nil_of_length_eq_zero (by have := HSZ.out; omega)
                      rw [hnil]; simpa using HSL.out.left⟩
                    have HYA : Hid (SP fK (L2 ++ R2) (L2 ++ R2) ∧ Srt fK (L2 ++ R2)) := Lib.hid ⟨SP.refl _, by
                      have hnil : R2 = [] := List.eq_nil_of_length_eq_zero (by have := HSZ.out; omega)
                      rw [hnil]; simpa using HSL.out.right⟩
                    rw [show L2 ++ (R1 ++ (R2 ++ Q)) = R1 ++ (L2 ++ (R2 ++ Q)) by rw [List.eq_nil_of_length_eq_zero (l := R1) (by have := HSZ.out; omega)]; simp] at st
                    (try simp only [nsl, Value.cells, unB] at st)
                    (try clear hc); have hc := st.facts; (try simp only [nfl, nft, Nat.reduceAdd] at hc)
                    go_wp2_with fail
                    rw [List.append_assoc P L1] at st
                    rw [← List.append_assoc L1 R1] at st
                    obtain ⟨X, hX⟩ : ∃ X, L1 ++ R1 = X := ⟨_, rfl⟩
                    have HXA : Hid (SP fK (L1 ++ R1) X ∧ Srt fK X) := Lib.hid (by rw [← hX]; exact HXA0.out)
                    rw [hX] at st
                    clear hX HXA0
                    all_goals (go_end0; exact ⟨rfl, X ++ (L2 ++ R2), ⟨(by have h9 := (sym_sp HCC.out.2).trans (HXA.out.1.app HYA.out.1); simpa only [List.append_assoc] using h9), sym_srt HSL.out HSR.out HCC.out.1 HCC.out.2 HXA.out.1 HXA.out.2 HYA.out.1 HYA.out.2⟩, by simpa using st⟩)
                  · have hsz := HSZ.out
                    have ca1 : (a : Int) < (i : Int) := by omega
                    have ca2 : ¬ (i : Int) < (mid : Int) := by omega
                    have cb1 : (i : Int) < (m : Int) := by omega
                    have cb2 : ¬ (m : Int) < (en : Int) := by omega
                    have cc1 : (mid : Int) < (en : Int) := by omega
                    have cc2 : (en : Int) < (b : Int) := by omega
                    clear hsz
                    have HXA0 : Hid (SP fK (L1 ++ R1) (L1 ++ R1) ∧ Srt fK (L1 ++ R1)) := Lib.hid ⟨SP.refl _, by
                      have hnil : R1 = [] := List.eq_nil_of_length_eq_zero (by have := HSZ.out; omega)
                      rw [hnil]; simpa using HSL.out.left⟩
                    rw [show L2 ++ (R1 ++ (R2 ++ Q)) = R1 ++ (L2 ++ (R2 ++ Q)) by rw [List.eq_nil_of_length_eq_zero (l := R1) (by have := HSZ.out; omega)]; simp] at st
                    (try simp only [nsl, Value.cells, unB] at st)
                    (try clear hc); have hc := st.facts; (try simp only [nfl, nft, Nat.reduceAdd] at hc)
                    go_wp2_with fail
                    rw [List.append_assoc P L1] at st
                    rw [← List.append_assoc L1 R1] at st
                    obtain ⟨X, hX⟩ : ∃ X, L1 ++ R1 = X := ⟨_, rfl⟩
                    have HXA : Hid (SP fK (L1 ++ R1) X ∧ Srt fK X) := Lib.hid (by rw [← hX]; exact HXA0.out)
                    rw [hX] at st
                    clear hX HXA0
                    rw [← List.append_assoc P X] at st
                    obtain ⟨fr', al', st', back⟩ := st.sub [0, 1] (by decide) (by simp)
                    (try simp only [nsl, Value.cells, unB] at st')
                    refine (HI2.out (by have := HSZ.out; omega) (by have := HSZ.out; omega) X (by have := HXA.out.1.len; simpa using this) _ _ _ st').mono ?_
                    clear st'
                    rintro en w ⟨rfl, Y, hY, st'⟩
                    replace st := back _ _ (by simp) st'
                    clear back st'
                    (try simp only [nsl, Value.cells, unB] at st)
                    (try clear hc); have hc := st.facts; (try simp only [nfl, nft, Nat.reduceAdd] at hc)
                    have HYA := Lib.hid hY
                    clear hY
                    go_wp2_with fail
                    all_goals (go_end0; exact ⟨rfl, X ++ Y, ⟨(by have h9 := (sym_sp HCC.out.2).trans (HXA.out.1.app HYA.out.1); simpa only [List.append_assoc] using h9), sym_srt HSL.out HSR.out HCC.out.1 HCC.out.2 HXA.out.1 HXA.out.2 HYA.out.1 HYA.out.2⟩, by simpa using st⟩)
              · rcases Nat.eq_zero_or_pos L2.length with pL2 | pL2
                · have pR2 : 0 < R2.length := by have := HSZ.out; omega
                  have hsz := HSZ.out
                  have ca1 : (a : Int) < (i : Int) := by omega
                  have ca2 : (i : Int) < (mid : Int) := by omega
                  have cb1 : ¬ (i : Int) < (m : Int) := by omega
                  have cb2 : (m : Int) < (en : Int) := by omega
                  have cc1 : ¬ (mid : Int) < (en : Int) := by omega
                  have cc2 : (en : Int) < (b : Int) := by omega
                  clear hsz
                  have HYA : Hid (SP fK (L2 ++ R2) (L2 ++ R2) ∧ Srt fK (L2 ++ R2)) := Lib.hid ⟨SP.refl _, by
                    have hnil : L2 = [] := List.eq_nil_of_length_eq_zero (by have := HSZ.out; omega)
                    rw [hnil]; simpa using HSR.out.right⟩
                  rw [show L2 ++ (R1 ++ (R2 ++ Q)) = R1 ++ (L2 ++ (R2 ++ Q)) by rw [List.eq_nil_of_length_eq_zero (l := L2) (by have := HSZ.out; omega)]; simp] at st
                  (try simp only [nsl, Value.cells, unB] at st)
                  (try clear hc); have hc := st.facts; (try simp only [nfl, nft, Nat.reduceAdd] at hc)
                  go_wp2_with fail
                  rw [List.append_assoc P L1] at st
                  obtain ⟨fr', al', st', back⟩ := st.sub [0, 1] (by decide) (by simp)
                  (try simp only [nsl, Value.cells, unB] at st')
                  refine (HI1.out (by have := HSZ.out; omega) (by have := HSZ.out; omega) _ _ _ st').mono ?_
                  clear st'
                  rintro en w ⟨rfl, X, hX, st'⟩
                  replace st := back _ _ (by simp) st'
                  clear back st'
                  (try simp only [nsl, Value.cells, unB] at st)
                  (try clear hc); have hc := st.facts; (try simp only [nfl, nft, Nat.reduceAdd] at hc)
                  have HXA := Lib.hid hX
                  clear hX
                  go_wp2_with fail
                  all_goals (go_end0; exact ⟨rfl, X ++ (L2 ++ R2), ⟨(by have h9 := (sym_sp HCC.out.2).trans (HXA.out.1.app HYA.out.1); simpa only [List.append_assoc] using h9), sym_srt HSL.out HSR.out HCC.out.1 HCC.out.2 HXA.out.1 HXA.out.2 HYA.out.1 HYA.out.2⟩, by simpa using st⟩)
                · rcases Nat.eq_zero_or_pos R2.length with pR2 | pR2
                  · have hsz := HSZ.out
                    have ca1 : (a : Int) < (i : Int) := by omega
                    have ca2 : (i : Int) < (mid : Int) := by omega
                    have cb1 : (i : Int) < (m : Int) := by omega
                    have cb2 : (m : Int) < (en : Int) := by omega
                    have cc1 : (mid : Int) < (en : Int) := by omega
                    have cc2 : ¬ (en : Int) < (b : Int) := by omega
                    clear hsz
                    have HYA : Hid (SP fK (L2 ++ R2) (L2 ++ R2) ∧ Srt fK (L2 ++ R2)) := Lib.hid ⟨SP.refl _, by
                      have hnil : R2 = [] := List.eq_nil_of_length_eq_zero (by have := HSZ.out; omega)
                      rw [hnil]; simpa using HSL.out.right⟩
                    (try simp only [nsl, Value.cells, unB] at st)
                    (try clear hc); have hc := st.facts; (try simp only [nfl, nft, Nat.reduceAdd] at hc)
                    go_wp2_with fail
                    obtain ⟨fr', al', st', back⟩ := st.sub [0, 1] (by decide) (by simp)
                    (try simp only [nsl, Value.cells, unB] at st')
                    refine (HROT.out (by have := HSZ.out; omega) (by have := HSZ.out; omega) _ _ _ st').mono ?_
                    clear st'
                    rintro en w ⟨rfl, st'⟩
                    replace st := back _ _ (by simp) st'
                    clear back st'
                    (try simp only [nsl, Value.cells, unB] at st)
                    (try clear hc); have hc := st.facts; (try simp only [nfl, nft, Nat.reduceAdd] at hc)
                    go_wp2_with fail
                    rw [List.append_assoc P L1] at st
                    obtain ⟨fr', al', st', back⟩ := st.sub [0, 1] (by decide) (by simp)
                    (try simp only [nsl, Value.cells, unB] at st')
                    refine (HI1.out (by have := HSZ.out; omega) (by have := HSZ.out; omega) _ _ _ st').mono ?_
                    clear st'
                    rintro en w ⟨rfl, X, hX, st'⟩
                    replace st := back _ _ (by simp) st'
                    clear back st'
                    (try simp only [nsl, Value.cells, unB] at st)
                    (try clear hc); have hc := st.facts; (try simp only [nfl, nft, Nat.reduceAdd] at hc)
                    have HXA := Lib.hid hX
                    clear hX
                    go_wp2_with fail
                    all_goals (go_end0; exact ⟨rfl, X ++ (L2 ++ R2), ⟨(by have h9 := (sym_sp HCC.out.2).trans (HXA.out.1.app HYA.out.1); simpa only [List.append_assoc] using h9), sym_srt HSL.out HSR.out HCC.out.1 HCC.out.2 HXA.out.1 HXA.out.2 HYA.out.1 HYA.out.2⟩, by simpa using st⟩)
                  · have hsz := HSZ.out
                    have ca1 : (a : Int) < (i : Int) := by omega
                    have ca2 : (i : Int) < (mid : Int) := by omega
                    have cb1 : (i : Int) < (m : Int) := by omega
                    have cb2 : (m : Int) < (en : Int) := by omega
                    have cc1 : (mid : Int) < (en : Int) := by omega
                    have cc2 : (en : Int) < (b : Int) := by omega
                    clear hsz
                    (try simp only [nsl, Value.cells, unB] at st)
                    (try clear hc); have hc := st.facts; (try simp only [nfl, nft, Nat.reduceAdd] at hc)
                    go_wp2_with fail
                    obtain ⟨fr', al', st', back⟩ := st.sub [0, 1] (by decide) (by simp)
                    (try simp only [nsl, Value.cells, unB] at st')
                    refine (HROT.out (by have := HSZ.out; omega) (by have := HSZ.out; omega) _ _ _ st').mono ?_
                    clear st'
                    rintro en w ⟨rfl, st'⟩
                    replace st := back _ _ (by simp) st'
                    clear back st'
                    (try simp only [nsl, Value.cells, unB] at st)
                    (try clear hc); have hc := st.facts; (try simp only [nfl, nft, Nat.reduceAdd] at hc)
                    go_wp2_with fail
                    rw [List.append_assoc P L1] at st
                    obtain ⟨fr', al', st', back⟩ := st.sub [0, 1] (by decide) (by simp)
                    (try simp only [nsl, Value.cells, unB] at st')
                    refine (HI1.out (by have := HSZ.out; omega) (by have := HSZ.out; omega) _ _ _ st').mono ?_
                    clear st'
                    rintro en w ⟨rfl, X, hX, st'⟩
                    replace st := back _ _ (by simp) st'
                    clear back st'
                    (try simp only [nsl, Value.cells, unB] at st)
                    (try clear hc); have hc := st.facts; (try simp only [nfl, nft, Nat.reduceAdd] at hc)
                    have HXA := Lib.hid hX
                    clear hX
                    go_wp2_with fail
                    rw [← List.append_assoc P X] at st
                    obtain ⟨fr', al', st', back⟩ := st.sub [0, 1] (by decide) (by simp)
                    (try simp only [nsl, Value.cells, unB] at st')
                    refine (HI2.out (by have := HSZ.out; omega) (by have := HSZ.out; omega) X (by have := HXA.out.1.len; simpa using this) _ _ _ st').mono ?_
                    clear st'
                    rintro en w ⟨rfl, Y, hY, st'⟩
                    replace st := back _ _ (by simp) st'
                    clear back st'
                    (try simp only [nsl, Value.cells, unB] at st)
                    (try clear hc); have hc := st.facts; (try simp only [nfl, nft, Nat.reduceAdd] at hc)
                    have HYA := Lib.hid hY
                    clear hY
                    go_wp2_with fail
                    all_goals (go_end0; exact ⟨rfl, X ++ Y, ⟨(by have h9 := (sym_sp HCC.out.2).trans (HXA.out.1.app HYA.out.1); simpa only [List.append_assoc] using h9), sym_srt HSL.out HSR.out HCC.out.1 HCC.out.2 HXA.out.1 HXA.out.2 HYA.out.1 HYA.out.2⟩, by simpa using st⟩)
end Go.Proofs.Ythjaopojlhdjpaa

namespace Go.Proofs.Ythjaopojlhdjpaa
set_option linter.unusedSimpArgs false
set_option linter.unusedVariables false
open Go Go.RowKit
/-- Runs of so many, each sorted; the last may be shorter. -/
inductive Chk (s : Nat) : List Fm → Prop
  | last {l : List Fm} (h : l.length ≤ s) (hs : Srt fK l) : Chk s l
  | cons {c l : List Fm} (h : c.length = s) (hs : Srt fK c) (k : Chk s l) : Chk s (c ++ l)
inductive Full (s : Nat) : List Fm → Prop
  | nil : Full s []
  | snoc {l c : List Fm} (k : Full s l) (h : c.length = s) (hs : Srt fK c) : Full s (l ++ c)
theorem Full.chk {s : Nat} {D : List Fm} (h : Full s D) : ∀ {E : List Fm}, Chk s E → Chk s (D ++ E) := by
  induction h with
  | nil => intro E hE; exact hE
  | snoc k h hs ih => intro E hE; rw [List.append_assoc]; exact ih (.cons h hs hE)
theorem Chk.one {s : Nat} {l : List Fm} (h : Chk s l) (hl : l.length ≤ s) : Srt fK l := by
  cases h with
  | last h hs => exact hs
  | @cons c l h hs k =>
    have : l = [] := List.eq_nil_of_length_eq_zero (by simp at hl; omega)
    subst this
    simpa using hs
theorem Chk.cut {s : Nat} {l : List Fm} (h : Chk s l) (hl : s < l.length) : ∃ c E, l = c ++ E ∧ c.length = s ∧ Srt fK c ∧ Chk s E := by
  cases h with
  | last h hs => omega
  | @cons c l h hs k => exact ⟨c, l, rfl, h, hs, k⟩
theorem Chk.two {s : Nat} (h0 : 0 < s) {l : List Fm} (h : Chk s l) (hl : 2 * s ≤ l.length) : ∃ c d E, l = c ++ (d ++ E) ∧ c.length = s ∧ d.length = s ∧ Srt fK c ∧ Srt fK d ∧ Chk s E := by
  obtain ⟨c, E, rfl, h1, h2, h3⟩ := h.cut (by omega)
  simp only [List.length_append] at hl
  by_cases he : E.length = s
  · exact ⟨c, E, [], by simp, h1, he, h2, h3.one (by omega), .last (by simp) List.Pairwise.nil⟩
  · obtain ⟨d, E2, rfl, k1, k2, k3⟩ := h3.cut (by omega)
    exact ⟨c, d, E2, rfl, h1, k1, h2, k2, k3⟩
set_option maxRecDepth 100000 in
set_option maxHeartbeats 8000000 in
theorem stableFm_c {fr al : Nat → Prop} {W : World} {g n c : Nat} (base xs : List Fm) (hn : n ≤ 2000000) (hB : FmsR base) (hx : ∀ x ∈ xs, x ∈ base)
    (st : Own fr al W [rowI 26 5 (.slice (some ⟨g, 0, none⟩) n c) n (cellsL xs), fmsI base] W) :
    Calls Try.prog 169 #[.slice (some ⟨g, 0, none⟩) n c, .int .i64 (n : Int), .func (.func 47) #[] #[]] W fun e w' => e = .returned (.tuple #[]) ∧ ∃ ys, (SP fK xs ys ∧ Srt fK ys) ∧ Own fr al W [rowI 26 5 (.slice (some ⟨g, 0, none⟩) n c) n (cellsL ys), fmsI base] w' := by
  have hlen := st.rowLen (i := 0) get0
  have HN := Lib.hid hlen
  have HINS := Lib.hid (fun P M Q a b ha hb hM fr al W st => insertFm_c (fr := fr) (al := al) (W := W) (g := g) (n := n) (c := c) base P M Q a b ha hb hB hM st hn)
  have HSYM := Lib.hid (fun P L R Q h1 h2 h3 h4 h5 fr al W a m b ha hm hb st => symMerge_c (g := g) (n := n) (c := c) base hn hB (L.length + R.length) P L R Q (Nat.le_refl _) h1 h2 h3 h4 h5 fr al W a m b ha hm hb st)
  have HX := Lib.hid hx
  clear hlen hB hx
  (try simp only [nsl, Value.cells, unB] at st)
  (try clear hc); have hc := st.facts; (try simp only [nfl, nft, Nat.reduceAdd] at hc)
  go_enter Try.func169, Try.ntmps169
  go_wp2_with fail
  go_loopg [7, 8] (n + 1) (fun q av bv wr => ∃ (a : Nat) (D E : List Fm), q = n + 1 - a ∧ a ≤ n ∧ av = .int .i64 (a : Int) ∧ bv = .int .i64 ((a + 20 : Nat) : Int) ∧ Hid (Full 20 D ∧ SP fK xs (D ++ E) ∧ a = D.length) ∧ Own fr al W [rowI 26 5 (.slice (some ⟨g, 0, none⟩) n c) n (cellsL (D ++ E)), fmsI base] wr)
  case atStart => exact ⟨0, [], xs, rfl, by omega, rfl, rfl, Lib.hid ⟨.nil, SP.refl _, rfl⟩, st⟩
  case round =>
    obtain ⟨a, D, E, rfl, han, rfl, rfl, HR, st'⟩ := hrel
    clear st hc
    have st := st'
    clear st'
    have hl := st.rowLen (i := 0) get0
    simp only [List.length_append] at hl
    obtain ⟨h1, h2, h3⟩ := HR.out
    obtain ⟨b, hb⟩ : ∃ q, a + 20 = q := ⟨_, rfl⟩
    rw [hb]
    by_cases hbn : b ≤ n
    · have hbi : (b : Int) ≤ (n : Int) := by omega
      have eE : E = E.take 20 ++ E.drop 20 := (List.take_append_drop _ _).symm
      have lE : (E.take 20).length = 20 := by simp; omega
      generalize E.take 20 = M at *
      generalize E.drop 20 = E2 at *
      subst eE
      have HI := Lib.hid (fun fr al W st => HINS.out D M E2 a b h3 (by omega) (fun x hx => HX.out x (h2.mem.1 (by simp [hx]))) fr al W st)
      have w1 : IntKind.i64.wrap ((b : Int) + 20) = ((b + 20 : Nat) : Int) := IntWalk.i64_in _ ⟨by omega, by omega⟩
      have hD : a = D.length := h3
      have HD := Lib.hid hD
      have HM := Lib.hid lE
      clear hl h1 h2 h3 lE hD
      (try simp only [nsl, Value.cells, unB] at st)
      (try clear hc); have hc := st.facts; (try simp only [nfl, nft, Nat.reduceAdd] at hc)
      go_wp2_with fail
      obtain ⟨fr', al', st', back⟩ := st.sub [0, 1] (by decide) (by simp)
      (try simp only [nsl, Value.cells, unB] at st')
      refine (HI.out _ _ _ st').mono ?_
      clear st'
      rintro en w ⟨rfl, M2, hM2, st'⟩
      replace st := back _ _ (by simp) st'
      clear back st'
      (try simp only [nsl, Value.cells, unB] at st)
      (try clear hc); have hc := st.facts; (try simp only [nfl, nft, Nat.reduceAdd] at hc)
      have HR2 : Hid (Full 20 (D ++ M2) ∧ SP fK xs ((D ++ M2) ++ E2) ∧ b = (D ++ M2).length) := Lib.hid ⟨.snoc HR.out.1 (by rw [hM2.1.len]; exact HM.out) hM2.2, by
        have h2 := HR.out.2.1
        rw [← List.append_assoc] at h2
        exact h2.trans (((SP.refl D).app hM2.1).app (SP.refl E2)), by
        have h5 := hM2.1.len
        have h6 := HD.out
        have h7 := HM.out
        simp; omega⟩
      clear hM2
      go_wp2_with fail
      go_roundg (n + 1 - b)
      case measure => omega
      case rel => exact ⟨b, D ++ M2, E2, rfl, hbn, rfl, by go_num, HR2, by rw [List.append_assoc]; exact st⟩
    · have hbi : ¬ (b : Int) ≤ (n : Int) := by omega
      have HI := Lib.hid (fun fr al W (st : Own fr al W [rowI 26 5 (.slice (some ⟨g, 0, none⟩) n c) n (cellsL (D ++ E)), fmsI base] W) => HINS.out D E [] a n h3 (by omega) (fun x hx => HX.out x (h2.mem.1 (by simp [hx]))) fr al W (by rw [List.append_nil]; exact st))
      have hEl : E.length ≤ 20 := by omega
      have HE := Lib.hid hEl
      clear hl h1 h2 h3 hb hEl
      (try simp only [nsl, Value.cells, unB] at st)
      (try clear hc); have hc := st.facts; (try simp only [nfl, nft, Nat.reduceAdd] at hc)
      go_wp2_with fail
      obtain ⟨fr', al', st', back⟩ := st.sub [0, 1] (by decide) (by simp)
      (try simp only [nsl, Value.cells, unB] at st')
      refine (HI.out _ _ _ st').mono ?_
      clear st'
      rintro en w ⟨rfl, E2, hE2, st'⟩
      replace st := back _ _ (by simp) st'
      clear back st'
      (try simp only [nsl, Value.cells, unB] at st)
      (try clear hc); have hc := st.facts; (try simp only [nfl, nft, Nat.reduceAdd] at hc)
      (try rw [List.append_nil] at st)
      have HR2 : Hid (Chk 20 (D ++ E2) ∧ SP fK xs (D ++ E2)) := Lib.hid ⟨HR.out.1.chk (.last (by rw [hE2.1.len]; exact HE.out) hE2.2), HR.out.2.1.trans ((SP.refl D).app hE2.1)⟩
      clear hE2 HI HE HR
      obtain ⟨zs, hz⟩ : ∃ z, D ++ E2 = z := ⟨_, rfl⟩
      rw [hz] at st HR2
      clear hz
      go_wp2_with fail
      go_loopg [6] (n - 20) (fun q sv wr => ∃ (s : Nat) (zs : List Fm), q = n - s ∧ 20 ≤ s ∧ s ≤ 4000000 ∧ sv = .int .i64 (s : Int) ∧ Hid (Chk s zs ∧ SP fK xs zs) ∧ Own fr al W [rowI 26 5 (.slice (some ⟨g, 0, none⟩) n c) n (cellsL zs), fmsI base] wr)
      case atStart => exact ⟨20, zs, rfl, by omega, by omega, rfl, HR2, st⟩
      case round =>
        obtain ⟨s, ws, rfl, hs20, hs4, rfl, HS, st'⟩ := hrel
        clear st hc HR2
        have st := st'
        clear st'
        by_cases hsn : s < n
        · have hsi : (s : Int) < (n : Int) := by omega
          obtain ⟨s2, hs2⟩ : ∃ q, 2 * s = q := ⟨_, rfl⟩
          have w2 : IntKind.i64.wrap (2 * (s : Int)) = (s2 : Int) := by rw [← hs2, show ((2 * s : Nat) : Int) = 2 * (s : Int) by omega]; exact IntWalk.i64_in _ ⟨by omega, by omega⟩
          have w3 : IntKind.i64.wrap ((s : Int) * 2) = (s2 : Int) := by rw [← hs2, show ((2 * s : Nat) : Int) = (s : Int) * 2 by omega]; exact IntWalk.i64_in _ ⟨by omega, by omega⟩
          have hs2b : s2 ≤ 4000000 ∧ s < s2 := by omega
          have HS2 := Lib.hid hs2
          clear hs2
          (try simp only [nsl, Value.cells, unB] at st)
          (try clear hc); have hc := st.facts; (try simp only [nfl, nft, Nat.reduceAdd] at hc)
          go_wp2_with fail
          go_loopg [7, 8] (n + 1) (fun q av bv wr => ∃ (a : Nat) (D E : List Fm), q = n + 1 - a ∧ a ≤ n ∧ av = .int .i64 (a : Int) ∧ bv = .int .i64 ((a + s2 : Nat) : Int) ∧ Hid (Full s2 D ∧ Chk s E ∧ SP fK xs (D ++ E) ∧ a = D.length) ∧ Own fr al W [rowI 26 5 (.slice (some ⟨g, 0, none⟩) n c) n (cellsL (D ++ E)), fmsI base] wr)
          case atStart => exact ⟨0, [], ws, rfl, by omega, rfl, by simp, Lib.hid ⟨.nil, HS.out.1, HS.out.2, rfl⟩, st⟩
          case round =>
            obtain ⟨a, D, E, rfl, han, rfl, rfl, HR, st'⟩ := hrel
            clear st hc
            have st := st'
            clear st'
            have hl := st.rowLen (i := 0) get0
            simp only [List.length_append] at hl
            obtain ⟨h1, h2, h3, h4⟩ := HR.out
            have hs2 := HS2.out
            obtain ⟨b, hb⟩ : ∃ q, a + s2 = q := ⟨_, rfl⟩
            rw [hb]
            obtain ⟨m, hm⟩ : ∃ q, a + s = q := ⟨_, rfl⟩
            have w4 : IntKind.i64.wrap ((a : Int) + (s : Int)) = (m : Int) := by rw [← hm]; exact IntWalk.i64_in _ ⟨by omega, by omega⟩
            by_cases hbn : b ≤ n
            · have hbi : (b : Int) ≤ (n : Int) := by omega
              obtain ⟨c1, c2, E2, rfl, k1, k2, k3, k4, k5⟩ := h2.two (by omega) (by omega)
              have HI := Lib.hid (fun fr al W st => HSYM.out D c1 c2 E2 (by omega) (by omega) k3 k4 (fun x hx => HX.out x (h3.mem.1 (by
                rcases List.mem_append.1 hx with q | q <;> simp [q]))) fr al W a m b h4 (by omega) (by omega) st)
              have w5 : IntKind.i64.wrap ((b : Int) + (s2 : Int)) = ((b + s2 : Nat) : Int) := IntWalk.i64_in _ ⟨by omega, by omega⟩
              have HK := Lib.hid (And.intro (show c1.length + c2.length = s2 by omega) (And.intro k5 (show a + s2 = b from hb)))
              clear hl h1 h2 h3 h4 k1 k2 k3 k4 k5 hs2 hm
              (try simp only [nsl, Value.cells, unB] at st)
              (try clear hc); have hc := st.facts; (try simp only [nfl, nft, Nat.reduceAdd] at hc)
              go_wp2_with fail
              obtain ⟨fr', al', st', back⟩ := st.sub [0, 1] (by decide) (by simp)
              (try simp only [nsl, Value.cells, unB] at st')
              refine (HI.out _ _ _ st').mono ?_
              clear st'
              rintro en w ⟨rfl, M2, hM2, st'⟩
              replace st := back _ _ (by simp) st'
              clear back st'
              (try simp only [nsl, Value.cells, unB] at st)
              (try clear hc); have hc := st.facts; (try simp only [nfl, nft, Nat.reduceAdd] at hc)
              have HR2 : Hid (Full s2 (D ++ M2) ∧ Chk s E2 ∧ SP fK xs ((D ++ M2) ++ E2) ∧ b = (D ++ M2).length) := Lib.hid ⟨.snoc HR.out.1 (by rw [hM2.1.len]; simpa using HK.out.1) hM2.2, HK.out.2.1, by
                have h2 := HR.out.2.2.1
                have h3 := ((SP.refl D).app hM2.1).app (SP.refl (key := fK) E2)
                refine h2.trans ?_
                simpa only [List.append_assoc] using h3, by
                have h5 := hM2.1.len
                have h6 := HR.out.2.2.2
                have h7 := HK.out
                simp at h5 ⊢; omega⟩
              clear hM2
              go_wp2_with fail
              go_roundg (n + 1 - b)
              case measure => have := HK.out.2.2; omega
              case rel => exact ⟨b, D ++ M2, E2, rfl, hbn, rfl, by go_num, HR2, by rw [List.append_assoc]; exact st⟩
            · have hbi : ¬ (b : Int) ≤ (n : Int) := by omega
              by_cases hmn : m < n
              · have hmi : (m : Int) < (n : Int) := by omega
                obtain ⟨c1, E2, rfl, k1, k2, k3⟩ := h2.cut (by omega)
                simp only [List.length_append] at hl
                have k4 := k3.one (by omega)
                have HI := Lib.hid (fun fr al W (st : Own fr al W [rowI 26 5 (.slice (some ⟨g, 0, none⟩) n c) n (cellsL (D ++ (c1 ++ E2))), fmsI base] W) => HSYM.out D c1 E2 [] (by omega) (by omega) k2 k4 (fun x hx => HX.out x (h3.mem.1 (by
                  rcases List.mem_append.1 hx with q | q <;> simp [q]))) fr al W a m n h4 (by omega) (by omega) (by rw [List.append_nil]; exact st))
                have HK := Lib.hid (show (c1 ++ E2).length ≤ s2 by simp; omega)
                clear hl h1 h2 h3 h4 k1 k2 k3 k4 hs2 hm hb
                (try simp only [nsl, Value.cells, unB] at st)
                (try clear hc); have hc := st.facts; (try simp only [nfl, nft, Nat.reduceAdd] at hc)
                go_wp2_with fail
                obtain ⟨fr', al', st', back⟩ := st.sub [0, 1] (by decide) (by simp)
                (try simp only [nsl, Value.cells, unB] at st')
                refine (HI.out _ _ _ st').mono ?_
                clear st'
                rintro en w ⟨rfl, M2, hM2, st'⟩
                replace st := back _ _ (by simp) st'
                clear back st'
                (try simp only [nsl, Value.cells, unB] at st)
                (try clear hc); have hc := st.facts; (try simp only [nfl, nft, Nat.reduceAdd] at hc)
                (try rw [List.append_nil] at st)
                have HF : Hid (Chk s2 (D ++ M2) ∧ SP fK xs (D ++ M2)) := Lib.hid ⟨HR.out.1.chk (.last (by rw [hM2.1.len]; exact HK.out) hM2.2), HR.out.2.2.1.trans ((SP.refl D).app hM2.1)⟩
                clear hM2
                go_wp2_with fail
                go_roundg (n - s2)
                case measure => omega
                case rel => exact ⟨s2, D ++ M2, rfl, by omega, by omega, rfl, HF, st⟩
              · have hmi : ¬ (m : Int) < (n : Int) := by omega
                have HF : Hid (Chk s2 (D ++ E) ∧ SP fK xs (D ++ E)) := Lib.hid ⟨h1.chk (.last (by omega) (h2.one (by omega))), h3⟩
                clear hl h1 h2 h3 h4 hs2 hm hb
                (try simp only [nsl, Value.cells, unB] at st)
                (try clear hc); have hc := st.facts; (try simp only [nfl, nft, Nat.reduceAdd] at hc)
                go_wp2_with fail
                go_roundg (n - s2)
                case measure => omega
                case rel => exact ⟨s2, D ++ E, rfl, by omega, by omega, rfl, HF, st⟩
        · have hsi : ¬ (s : Int) < (n : Int) := by omega
          have hl := st.rowLen (i := 0) get0
          have HF : Hid (SP fK xs ws ∧ Srt fK ws) := Lib.hid ⟨HS.out.2, HS.out.1.one (by omega)⟩
          clear hl
          (try simp only [nsl, Value.cells, unB] at st)
          (try clear hc); have hc := st.facts; (try simp only [nfl, nft, Nat.reduceAdd] at hc)
          go_wp2_with fail
          go_end0
          exact ⟨rfl, ws, HF.out, st⟩
set_option maxRecDepth 100000 in
set_option maxHeartbeats 1000000 in
theorem insertNil_any (a : Option Addr) (c : Nat) (F : Value) (W : World) :
    Calls Try.prog 178 #[.slice a 0 c, .int .i64 0, .int .i64 0, F] W fun e w' => e = .returned (.tuple #[]) ∧ Ext W w' := by
  have st := Own.startOld W
  (try simp only [nsl, Value.cells, unB] at st)
  (try clear hc); have hc := st.facts; (try simp only [nfl, nft, Nat.reduceAdd] at hc)
  go_enter Try.func178, Try.ntmps178
  go_wp2_with fail
  go_loopg [8] 0 (fun q iv wr => q = 0 ∧ iv = .int .i64 1 ∧ Own (fun _ => False) (fun _ => True) W [oldI W] wr)
  case atStart => exact ⟨rfl, by go_num, st⟩
  case round =>
    obtain ⟨rfl, rfl, st'⟩ := hrel
    clear st hc
    have st := st'
    clear st'
    go_wp2_with fail
    go_end0
    exact ⟨rfl, st.ext0⟩
set_option maxRecDepth 100000 in
set_option maxHeartbeats 1000000 in
theorem stableNil_any (a : Option Addr) (c : Nat) (F : Value) (W : World) :
    Calls Try.prog 169 #[.slice a 0 c, .int .i64 0, F] W fun e w' => e = .returned (.tuple #[]) ∧ Ext W w' := by
  have st := Own.startOld W
  (try simp only [nsl, Value.cells, unB] at st)
  (try clear hc); have hc := st.facts; (try simp only [nfl, nft, Nat.reduceAdd] at hc)
  go_enter Try.func169, Try.ntmps169
  go_wp2_with fail
  go_loopg [7, 8] 0 (fun q av bv wr => q = 0 ∧ av = .int .i64 0 ∧ bv = .int .i64 20 ∧ Own (fun _ => False) (fun _ => True) W [oldI W] wr)
  case atStart => exact ⟨rfl, rfl, rfl, st⟩
  case round =>
    obtain ⟨rfl, rfl, rfl, st'⟩ := hrel
    clear st hc
    have st := st'
    clear st'
    go_wp2_with fail
    refine (insertNil_any a c F _).mono ?_
    rintro en w ⟨rfl, hx⟩
    replace st := st.ext hx
    clear hx
    (try clear hc); have hc := st.facts; (try simp only [nfl, nft, Nat.reduceAdd] at hc)
    go_wp2_with fail
    go_loopg [6] 0 (fun q sv wr => q = 0 ∧ sv = .int .i64 20 ∧ Own (fun _ => False) (fun _ => True) W [oldI W] wr)
    case atStart => exact ⟨rfl, rfl, st⟩
    case round =>
      obtain ⟨rfl, rfl, st'⟩ := hrel
      clear st hc
      have st := st'
      clear st'
      go_wp2_with fail
      go_end0
      exact ⟨rfl, st.ext0⟩
set_option maxRecDepth 100000 in
set_option maxHeartbeats 1000000 in
theorem sortStable_c {fr al : Nat → Prop} {W : World} {a : Option Addr} {n c : Nat} (base xs : List Fm) (hn : n ≤ 2000000) (hB : FmsR base) (hx : ∀ x ∈ xs, x ∈ base)
    (st : Own fr al W [rowI 26 5 (.slice a n c) n (cellsL xs), fmsI base] W) :
    Calls Try.prog 149 #[.slice a n c, .func (.func 47) #[] #[]] W fun e w' => e = .returned (.tuple #[]) ∧ ∃ ys, (SP fK xs ys ∧ Srt fK ys) ∧ Own fr al W [rowI 26 5 (.slice a n c) n (cellsL ys), fmsI base] w' := by
  rcases Nat.eq_zero_or_pos n with h0 | h0
  · subst h0
    have hxl := st.rowLen (i := 0) get0
    obtain rfl : xs = [] := List.eq_nil_of_length_eq_zero hxl.symm
    clear hxl
    (try simp only [nsl, Value.cells, unB] at st)
    (try clear hc); have hc := st.facts; (try simp only [nfl, nft, Nat.reduceAdd] at hc)
    go_enter Try.func149, Try.ntmps149
    go_wp2_with fail
    refine (stableNil_any a c _ _).mono ?_
    rintro en w ⟨rfl, hx⟩
    replace st := st.ext hx
    clear hx
    (try clear hc); have hc := st.facts; (try simp only [nfl, nft, Nat.reduceAdd] at hc)
    go_wp2_with fail
    go_end0
    exact ⟨rfl, [], ⟨SP.refl _, List.Pairwise.nil⟩, st⟩
  · obtain ⟨g, cap', hv, hcap, _⟩ := st.rowAt (i := 0) get0 h0
    injection hv with hv1 hv2 hv3
    subst hv1 hv3
    have HC := Lib.hid (fun fr al W st => stableFm_c (fr := fr) (al := al) (W := W) (g := g) (n := n) (c := c) base xs hn hB hx st)
    clear hB hx h0 hcap
    (try simp only [nsl, Value.cells, unB] at st)
    (try clear hc); have hc := st.facts; (try simp only [nfl, nft, Nat.reduceAdd] at hc)
    go_enter Try.func149, Try.ntmps149
    go_wp2_with fail
    obtain ⟨fr', al', st', back⟩ := st.sub [0, 1] (by decide) (by simp)
    (try simp only [nsl, Value.cells, unB] at st')
    refine (HC.out _ _ _ st').mono ?_
    clear st'
    rintro en w ⟨rfl, ys, hy, st'⟩
    replace st := back _ _ (by simp) st'
    clear back st'
    (try simp only [nsl, Value.cells, unB] at st)
    (try clear hc); have hc := st.facts; (try simp only [nfl, nft, Nat.reduceAdd] at hc)
    have HY := Lib.hid hy
    clear hy
    go_wp2_with fail
    go_end0
    exact ⟨rfl, ys, HY.out, st⟩
end Go.Proofs.Ythjaopojlhdjpaa

namespace Go.Proofs.Ythjaopojlhdjpaa
set_option linter.unusedSimpArgs false
set_option linter.unusedVariables false
open Go Go.RowKit
def sE (x y : Fm) : Bool := foE x.strip y.strip
def cmS (l : List Fm) : List Fm := cmB sE l
theorem cmG_map (l : List Fm) : ∀ y : Fm, (cmG sE y l).map Fm.strip = cmG foE y.strip (l.map Fm.strip) := by
  induction l with
  | nil => intro y; rfl
  | cons x l ih =>
    intro y
    rw [List.map_cons, cmG, cmG]
    show (if foE x.strip y.strip = true then _ else _ : List Fm).map Fm.strip = _
    split
    · exact ih y
    · rw [List.map_cons, ih x]
theorem cmS_map (l : List Fm) : (cmS l).map Fm.strip = cmF (l.map Fm.strip) := by
  cases l with
  | nil => rfl
  | cons x l => show x.strip :: (cmG sE x l).map Fm.strip = _; rw [cmG_map]; rfl
theorem sE_t {x y : Fm} (h : sE x y = true) : x.strip = y.strip := (foE_iff _ _).1 h
theorem cmG_snoc (x u : Fm) (l : List Fm) : ∀ y : Fm, (∃ pre, y :: l = pre ++ [u]) → cmG sE y (l ++ [x]) = cmG sE y l ++ (if sE x u = true then [] else [x]) := by
  induction l with
  | nil =>
    rintro y ⟨pre, hp⟩
    obtain rfl : y = u := by
      cases pre with
      | nil => exact (List.cons.inj hp).1
      | cons a pre => simp at hp
    show (if sE x y = true then cmG sE y [] else x :: cmG sE x []) = [] ++ _
    cases sE x y <;> rfl
  | cons z l ih =>
    rintro y ⟨pre, hp⟩
    obtain ⟨p2, hp2⟩ : ∃ p2, z :: l = p2 ++ [u] := by
      cases pre with
      | nil => simp at hp
      | cons a pre => exact ⟨pre, (List.cons.inj hp).2⟩
    rw [List.cons_append, cmG, cmG]
    by_cases h : sE z y = true
    · rw [if_pos h, if_pos h]
      cases l with
      | nil =>
        obtain rfl : z = u := by
          cases p2 with
          | nil => exact (List.cons.inj hp2).1
          | cons a p2 => simp at hp2
        have e : sE x y = sE x z := by unfold sE; rw [sE_t h]
        show (if sE x y = true then cmG sE y [] else x :: cmG sE x []) = [] ++ _
        rw [e]
        cases sE x z <;> rfl
      | cons v l =>
        refine ih y ?_
        cases p2 with
        | nil => simp at hp2
        | cons a p2 => exact ⟨y :: p2, by rw [(List.cons.inj hp2).2]; rfl⟩
    · rw [if_neg h, if_neg h, ih z ⟨p2, hp2⟩]; rfl
theorem cmS_step {xs : List Fm} {j q : Nat} {x y : Fm} (hq : j = q + 1) (hx : xs[j]? = some x) (hy : xs[q]? = some y) : cmS (xs.take (j + 1)) = cmS (xs.take j) ++ (if sE x y = true then [] else [x]) := by
  subst hq
  obtain ⟨h1, h1'⟩ := List.getElem?_eq_some_iff.1 hx
  obtain ⟨h2, h2'⟩ := List.getElem?_eq_some_iff.1 hy
  have e1 : xs.take (q + 1 + 1) = xs.take (q + 1) ++ [x] := by rw [← h1']; exact (List.take_append_getElem h1).symm
  have e : xs.take (q + 1) = xs.take q ++ [y] := by rw [← h2']; exact (List.take_append_getElem h2).symm
  rw [e1]
  cases hz : xs.take (q + 1) with
  | nil => rw [hz] at e; simp at e
  | cons z l =>
    show z :: cmG sE z (l ++ [x]) = (z :: cmG sE z l) ++ _
    rw [cmG_snoc x y l z ⟨_, by rw [← hz, e]⟩]; rfl
theorem flF_app (op : Int) (u v : List Fo) : flF op (u ++ v) = flF op u ++ flF op v := List.flatMap_append
theorem fl_hit {op k : Int} {r : Role} {l : List Fo} : flF op [Fo.mk op k r l] = l := by
  unfold flF
  rw [List.flatMap_cons, if_pos (show (Fo.mk op k r l).op = op from rfl)]
  show l ++ [] = l
  rw [List.append_nil]
theorem fl_miss {op op' k : Int} {r : Role} {l : List Fo} (h : op' ≠ op) : flF op [Fo.mk op' k r l] = [Fo.mk op' k r l] := flF_id (fun x hx => by rw [List.mem_singleton.1 hx]; exact h)
theorem cmS_one {xs : List Fm} (h : xs.length ≤ 1) : cmS xs = xs := by
  match xs, h with
  | [], _ => rfl
  | [x], _ => rfl
theorem cmS_sub (xs : List Fm) : (cmS xs).Sublist xs := cmB_sub _ _
set_option maxRecDepth 100000 in
set_option maxHeartbeats 1000000 in
theorem fmEmpty_any (f : Fm) (op : Int) (W : World) (h : FmOk W f) :
    Calls Try.prog 121 #[fmV f, .int .i64 op] W fun e w' => e = .returned (.bool (emF f.strip op)) ∧ Ext W w' := by
  obtain ⟨op', k, ⟨o, d⟩, a, n, c, kids⟩ := f
  have hn := h.fl.1
  have hv : emF (Fm.mk op' k (o, d) a n c kids).strip op = (decide (op' = op) && decide (n = 0)) := by
    rw [strip_mk]
    show (decide (op' = op) && decide ((kids.map Fm.strip).length = 0)) = _
    rw [List.length_map, ← hn]
  obtain ⟨v, hvv⟩ : ∃ v, emF (Fm.mk op' k (o, d) a n c kids).strip op = v := ⟨_, rfl⟩
  rw [hvv] at hv ⊢
  have HV := Lib.hid hv
  clear h hn hv hvv
  have st := Own.startOld W
  unfold fmV S
  simp only
  by_cases h1 : op' = op
  · subst h1
    by_cases h2 : n = 0
    · subst h2
      (try simp only [nsl, Value.cells, unB] at st)
      (try clear hc); have hc := st.facts; (try simp only [nfl, nft, Nat.reduceAdd] at hc)
      go_enter Try.func121, Try.ntmps121
      go_wp2_with ((((with_reducible refine wl_box ?_ (fun K hK => ?_)); rfl; refine owp_box (o := ⟨some 2, _, _, _, _, _⟩) rfl st ?_; apply Exists.intro; refine ⟨?_, ?_⟩; (focus (go_simp; try rfl)); (clear st; intro b2 w hb st; clear hb))); (try simp only [nsl, Value.cells, unB] at st); (try clear hc); have hc := st.facts; (try simp only [nfl, nft, Nat.reduceAdd] at hc))
      go_ret
      exact ⟨by rw [HV.out]; simp, st.ext0⟩
    · have h2b : ((n : Int) == 0) = false := by simp; omega
      have h2i : ¬ (n : Int) = 0 := by omega
      (try simp only [nsl, Value.cells, unB] at st)
      (try clear hc); have hc := st.facts; (try simp only [nfl, nft, Nat.reduceAdd] at hc)
      go_enter Try.func121, Try.ntmps121
      go_wp2_with ((((with_reducible refine wl_box ?_ (fun K hK => ?_)); rfl; refine owp_box (o := ⟨some 2, _, _, _, _, _⟩) rfl st ?_; apply Exists.intro; refine ⟨?_, ?_⟩; (focus (go_simp; try rfl)); (clear st; intro b2 w hb st; clear hb))); (try simp only [nsl, Value.cells, unB] at st); (try clear hc); have hc := st.facts; (try simp only [nfl, nft, Nat.reduceAdd] at hc))
      go_ret
      exact ⟨by rw [HV.out]; simp [h2], st.ext0⟩
  · have h1b : (op' == op) = false := by simpa using h1
    (try simp only [nsl, Value.cells, unB] at st)
    (try clear hc); have hc := st.facts; (try simp only [nfl, nft, Nat.reduceAdd] at hc)
    go_enter Try.func121, Try.ntmps121
    go_wp2_with ((((with_reducible refine wl_box ?_ (fun K hK => ?_)); rfl; refine owp_box (o := ⟨some 2, _, _, _, _, _⟩) rfl st ?_; apply Exists.intro; refine ⟨?_, ?_⟩; (focus (go_simp; try rfl)); (clear st; intro b2 w hb st; clear hb))); (try simp only [nsl, Value.cells, unB] at st); (try clear hc); have hc := st.facts; (try simp only [nfl, nft, Nat.reduceAdd] at hc))
    go_ret
    exact ⟨by rw [HV.out]; simp [h1], st.ext0⟩
@[go_sem] theorem eqNilFms (a : Option Addr) (n c : Nat) (w : World) : (binOp .eql 24 (.slice a n c) (.slice none 0 0)).run Try.prog w = .ok (.bool a.isNone) w := by
  have h := run_equal_slice_nil w _ _ a n c Try.underlying24
  simp only [binOp]
  simp [h]
section
variable {fr al : Nat → Prop} {w0 w : World} {L : List It}
theorem Own.fmsApp (st : Own fr al w0 L w) {i j : Nat} {ys l m : List Fm} (hi : L[i]? = some (fmsI ys)) (hj : L[j]? = some (fmsI l)) (h : ∀ x ∈ m, x ∈ l ∨ ∃ y ∈ l, x ∈ y.kids) : Own fr al w0 (L ++ [fmsI (ys ++ m)]) w :=
  st.share2 hi hj fun e s e2 s2 h1 h2 x hx => by
    rcases List.mem_append.1 hx with q | q
    · exact (h1 x q).to fun _ => .inl
    · rcases h x q with r | ⟨y, hy, r⟩
      · exact (h2 x r).to fun _ => .inr
      · have := h2 y hy
        cases y
        exact (FmIn.kids this x r).to fun _ => .inr
theorem Own.fmsSub (st : Own fr al w0 L w) {i : Nat} {l m : List Fm} (hi : L[i]? = some (fmsI l)) (h : ∀ x ∈ m, x ∈ l) : Own fr al w0 (L ++ [fmsI m]) w :=
  st.share hi fun e s h1 x hx => h1 x (h x hx)
end
set_option maxRecDepth 100000 in
set_option maxHeartbeats 1000000 in
theorem fmClone_c {fr al : Nat → Prop} {W : World} {a : Option Addr} {n c : Nat} (l : List Fm) (st : Own fr al W [flI a n l] W) (hn : n ≤ 2000000) :
    Calls Try.prog 148 #[.slice a n c] W fun e w' => ∃ va vc, e = .returned (.slice va n vc) ∧ Own fr al W [flI a n l, rowI 26 5 (.slice va n vc) n (cellsL l)] w' := by
  have H := Lib.hid (st.flAt (i := 0) get0)
  (try simp only [nsl, Value.cells, unB] at st)
  (try clear hc); have hc := st.facts; (try simp only [nfl, nft, Nat.reduceAdd] at hc)
  cases a with
  | none =>
    have h0 : n = 0 := by
      rcases Nat.eq_zero_or_pos n with q | q
      · exact q
      · obtain ⟨b, off, e, _⟩ := H.out.2 q; cases e
    subst h0
    have hl : l = [] := List.eq_nil_of_length_eq_zero H.out.1.symm
    subst hl
    go_enter Try.func148, Try.ntmps148
    go_wp2_with fail
    go_ret
    exact ⟨none, 0, rfl, st.row_nil _ _⟩
  | some ad =>
    go_enter Try.func148, Try.ntmps148
    go_wp2_with (first
        | ((with_reducible refine wl_append ?_ (fun K hK => ?_)); (rfl); (obtain ⟨inf, hinf, hz0, hz1, hz2⟩ := fmInfo); (refine owp_append rfl st 1 get1 Try.underlying24 hinf hz0 hz1 hz2 rfl (by decide) rfl rfl ((st.flAt (i := 0) get0).flat) (by first | exact cellsL_all _ | simp [Value.oneCell']) (by simp only [maxLen]; omega) (by omega) ?_); (clear hinf hz0 hz1 hz2 inf); (clear st; intro v' w st); (obtain ⟨va', vc', rfl⟩ := own_slice (st.row (i := 1) get1)); (try simp only [nsl, Value.cells, unB] at st); (try simp only [Nat.zero_add] at st); (try clear hc); have hc := st.facts; (try simp only [nfl, nft, Nat.reduceAdd] at hc))
        | ((with_reducible refine wl_buildSlice ?_ (fun K hK => ?_)); (rfl); (refine owp_buildRow (o := ⟨some 5, _, _, _, _, _⟩) rfl st 26 5 ?_; refine ⟨0, #[], ?_, by simp, by simp [maxLen], ?_⟩; (focus (go_simp; (first | done | rfl))); (clear st; intro b5 w hb st; clear hb)); (try simp only [nsl, Value.cells, unB] at st); (try clear hc); have hc := st.facts; (try simp only [nfl, nft, Nat.reduceAdd] at hc))
        | ((((with_reducible refine wl_buildSlice ?_ (fun K hK => ?_)); rfl; refine owp_buildSlice (o := ⟨some 5, _, _, _, _, _⟩) rfl st ?_; apply Exists.intro; apply Exists.intro; apply Exists.intro; apply Exists.intro; refine ⟨?_, ?_⟩; (focus (go_simp; (first | done | exact ⟨⟨rfl, rfl⟩, rfl⟩ | rfl))); (clear st; intro b5 w hb st; clear hb))); (try simp only [nsl, Value.cells, unB] at st); (try clear hc); have hc := st.facts; (try simp only [nfl, nft, Nat.reduceAdd] at hc)))
    go_ret
    exact ⟨_, _, rfl, st⟩
set_option maxRecDepth 100000 in
set_option maxHeartbeats 4000000 in
theorem fmFlat_c {fr al : Nat → Prop} {W : World} {a : Option Addr} {n c : Nat} (op : Int) (l : List Fm) (st : Own fr al W [flI a n l, fmsI l] W) (hs : nodesL (l.map Fm.strip) ≤ 1000) :
    Calls Try.prog 123 #[.int .i64 op, .slice a n c] W fun e w' => ∃ va m vc ys, e = .returned (.slice va m vc) ∧ (ys.map Fm.strip = flF op (l.map Fm.strip) ∧ m ≤ 1000) ∧ Own fr al W [flI a n l, fmsI l, rowI 26 5 (.slice va m vc) m (cellsL ys), fmsI ys] w' := by
  have HL : Hid (∀ j, (flF op ((l.take j).map Fm.strip)).length ≤ 1000) := Lib.hid (fun j => by
    have h1 := nodesL_len (flF op ((l.take j).map Fm.strip))
    have h2 := flF_nodes op ((l.take j).map Fm.strip)
    have h3 := nodesL_take (l.map Fm.strip) j
    rw [← List.map_take] at h3
    omega)
  have hn0 := (st.flAt (i := 0) get0).1
  have hnb : n ≤ 1000 := by have := nodesL_len (l.map Fm.strip); rw [List.length_map] at this; omega
  have HN := Lib.hid hn0
  clear hn0 hs
  (try simp only [nsl, Value.cells, unB] at st)
  (try clear hc); have hc := st.facts; (try simp only [nfl, nft, Nat.reduceAdd] at hc)
  go_enter Try.func123, Try.ntmps123
  go_wp2_with ((first
        | ((with_reducible refine wl_alloc ?_ (fun K hK => ?_)); rfl; refine owp_alloc (o := ⟨some 7, _, _, _, _, _⟩) rfl st ?_; apply Exists.intro; apply Exists.intro; refine ⟨?_, ?_⟩; (focus (first | (go_simp; done) | (go_simp; rfl))); (clear st; intro b7 w hb st; clear hb))
        | ((with_reducible refine wl_store ?_ (fun K hK => ?_)); rfl; refine owp_store rfl st ?_; apply Exists.intro; apply Exists.intro; refine ⟨?_, ?_, ?_⟩; (focus (go_simp; try rfl)); (focus (go_simp; try rfl)); (first | (with_reducible refine ⟨0, _, _, _, _, get0, rfl, rfl, ?_, ?_, ?_, ?_⟩) | (with_reducible refine ⟨1, _, _, _, _, get1, rfl, rfl, ?_, ?_, ?_, ?_⟩) | (with_reducible refine ⟨2, _, _, _, _, get2, rfl, rfl, ?_, ?_, ?_, ?_⟩) | (with_reducible refine ⟨3, _, _, _, _, get3, rfl, rfl, ?_, ?_, ?_, ?_⟩) | (with_reducible refine ⟨4, _, _, _, _, get4, rfl, rfl, ?_, ?_, ?_, ?_⟩)); (kernel_rfl); (simp [Value.cells]); (rfl); (clear st; intro w st))
        | ((with_reducible refine wl_buildSlice ?_ (fun K hK => ?_)); rfl; refine owp_buildSlice (o := ⟨some 24, _, _, _, _, _⟩) rfl st ?_; apply Exists.intro; apply Exists.intro; apply Exists.intro; apply Exists.intro; refine ⟨?_, ?_⟩; (focus (go_simp; (first | done | exact ⟨⟨rfl, rfl⟩, rfl⟩ | rfl))); (clear st; intro b24 w hb st; clear hb))); (try simp only [nsl, Value.cells, unB] at st); (try clear hc); have hc := st.facts; (try simp only [nfl, nft, Nat.reduceAdd] at hc))
  replace st := st.row_nil 26 5
  simp only [List.cons_append, List.nil_append] at st
  replace st := st.noFms
  simp only [List.cons_append, List.nil_append] at st
  go_loopg [5, 10] n (fun q ov i wr => ∃ (j r : Nat) (ys : List Fm), j ≤ n ∧ q = n - j ∧ i = .int .i64 (j : Int) ∧ r ≤ 1000 ∧ Hid (ys.map Fm.strip = flF op ((l.take j).map Fm.strip)) ∧ Hid (r = ys.length) ∧ Own fr al W [flI a n l, fmsI l, rowI 26 5 ov r (cellsL ys), fmsI ys] wr)
  case atStart => exact ⟨0, 0, [], by omega, by omega, rfl, by omega, Lib.hid (by simp [flF]), Lib.hid rfl, by simpa [cellsL] using st⟩
  case round =>
    obtain ⟨j, r, ys, hj, rfl, rfl, hr, HY, HR, st'⟩ := hrel
    clear st hc
    have st := st'
    clear st'
    obtain ⟨oa, oc, rfl⟩ := own_slice (st.row (i := 2) get2)
    by_cases hjn : j < n
    · obtain ⟨b, off, ha, hcell⟩ := (st.flAt (i := 0) get0).fm (by omega)
      have hjl : j < l.length := by have := HN.out; omega
      have hsn := map_snoc_strip l j hjl
      have hgt := List.getElem?_eq_getElem hjl
      have hmem := List.getElem_mem hjl
      generalize l[j] = x at *
      have hll := HL.out (j + 1)
      rw [hsn, flF_app, ← HY.out, List.length_append, List.length_map, ← HR.out] at hll
      obtain ⟨op', k', ⟨o', d'⟩, a', n', c', kids'⟩ := x
      obtain ⟨r0, r1, r2, r3, r4⟩ := hcell j op' k' (o', d') a' n' c' kids' hgt
      have hok := st.fms (i := 1) get1 _ hmem
      have hkl : n' = kids'.length := hok.fl.1
      have hcap := hok.cap
      have HSN := Lib.hid hsn
      have HMEM := Lib.hid hmem
      have hll2 : r + (if op' = op then n' else 1) ≤ 1000 := by
        rw [strip_mk] at hll
        by_cases h : op' = op
        · subst h; rw [fl_hit, List.length_map] at hll; rw [if_pos rfl]; omega
        · rw [fl_miss h] at hll; rw [if_neg h]; exact hll
      unfold S at r2 r3
      simp only at r2 r3
      clear hcell hgt hjl hsn hmem hll hok
      subst ha
      by_cases hop : op' = op
      · subst hop
        rw [if_pos rfl] at hll2
        have HY2 : Hid ((ys ++ kids').map Fm.strip = flF op' ((l.take (j + 1)).map Fm.strip)) := Lib.hid (by
          rw [HSN.out, flF_app, ← HY.out, List.map_append, strip_mk, fl_hit])
        have HR2 : Hid (r + n' = (ys ++ kids').length) := Lib.hid (by rw [List.length_append, ← HR.out, hkl])
        have hcap2 : n' ≤ 9223372036854775807 := by omega
        clear hkl
        (try simp only [nsl, Value.cells, unB] at st)
        (try clear hc); have hc := st.facts; (try simp only [nfl, nft, Nat.reduceAdd] at hc)
        go_wp2_with (first
            | ((with_reducible refine wl_append ?_ (fun K hK => ?_)); (rfl); (obtain ⟨inf, hinf, hz0, hz1, hz2⟩ := fmInfo); (refine owp_append rfl st 2 get2 Try.underlying24 hinf hz0 hz1 hz2 rfl (by decide) rfl rfl (((st.fms (i := 1) get1 _ HMEM.out).fl).flat) (by first | exact cellsL_all _ | simp [Value.oneCell']) (by simp only [maxLen]; omega) (by omega) ?_); (clear hinf hz0 hz1 hz2 inf); (clear st; intro v' w st); (obtain ⟨va', vc', rfl⟩ := own_slice (st.row (i := 2) get2)); (try simp only [nsl, Value.cells, unB] at st); (try simp only [Nat.zero_add] at st); (try clear hc); have hc := st.facts; (try simp only [nfl, nft, Nat.reduceAdd] at hc))
            | ((with_reducible refine wl_buildSlice ?_ (fun K hK => ?_)); (rfl); (refine owp_buildRow (o := ⟨some 9999, _, _, _, _, _⟩) rfl st 26 5 ?_; refine ⟨0, #[], ?_, by simp, by simp [maxLen], ?_⟩; (focus (go_simp; (first | done | rfl))); (clear st; intro b9999 w hb st; clear hb)); (try simp only [nsl, Value.cells, unB] at st); (try clear hc); have hc := st.facts; (try simp only [nfl, nft, Nat.reduceAdd] at hc))
            | ((first
              | ((with_reducible refine wl_alloc ?_ (fun K hK => ?_)); rfl; refine owp_alloc (o := ⟨some 7, _, _, _, _, _⟩) rfl st ?_; apply Exists.intro; apply Exists.intro; refine ⟨?_, ?_⟩; (focus (first | (go_simp; done) | (go_simp; rfl))); (clear st; intro b7 w hb st; clear hb))
              | ((with_reducible refine wl_store ?_ (fun K hK => ?_)); rfl; refine owp_store rfl st ?_; apply Exists.intro; apply Exists.intro; refine ⟨?_, ?_, ?_⟩; (focus (go_simp; try rfl)); (focus (go_simp; try rfl)); (first | (with_reducible refine ⟨0, _, _, _, _, get0, rfl, rfl, ?_, ?_, ?_, ?_⟩) | (with_reducible refine ⟨1, _, _, _, _, get1, rfl, rfl, ?_, ?_, ?_, ?_⟩) | (with_reducible refine ⟨2, _, _, _, _, get2, rfl, rfl, ?_, ?_, ?_, ?_⟩) | (with_reducible refine ⟨3, _, _, _, _, get3, rfl, rfl, ?_, ?_, ?_, ?_⟩) | (with_reducible refine ⟨4, _, _, _, _, get4, rfl, rfl, ?_, ?_, ?_, ?_⟩)); (kernel_rfl); (simp [Value.cells]); (rfl); (clear st; intro w st))
              | ((with_reducible refine wl_buildSlice ?_ (fun K hK => ?_)); rfl; refine owp_buildSlice (o := ⟨some 24, _, _, _, _, _⟩) rfl st ?_; apply Exists.intro; apply Exists.intro; apply Exists.intro; apply Exists.intro; refine ⟨?_, ?_⟩; (focus (go_simp; (first | done | exact ⟨⟨rfl, rfl⟩, rfl⟩ | rfl))); (clear st; intro b24 w hb st; clear hb))); (try simp only [nsl, Value.cells, unB] at st); (try clear hc); have hc := st.facts; (try simp only [nfl, nft, Nat.reduceAdd] at hc)))
        rw [← cellsL_append] at st
        replace st := st.fmsApp (i := 3) (j := 1) (m := kids') get3 get1 (fun x hx => .inr ⟨_, HMEM.out, hx⟩)
        have st' := st.keep [0, 1, 2, 5] (by decide) (by simp)
        go_roundg (n - (j + 1))
        case measure => omega
        case rel => exact ⟨j + 1, r + n', ys ++ kids', by omega, by omega, by go_num, hll2, HY2, HR2, by simpa [pick] using st'⟩
      · rw [if_neg hop] at hll2
        have hopb : (op' == op) = false := by simpa using hop
        have HY2 : Hid ((ys ++ [Fm.mk op' k' (o', d') a' n' c' kids']).map Fm.strip = flF op ((l.take (j + 1)).map Fm.strip)) := Lib.hid (by
          rw [HSN.out, flF_app, ← HY.out, List.map_append, strip_mk, fl_miss hop, List.map_cons, List.map_nil, strip_mk])
        have HR2 : Hid (r + 1 = (ys ++ [Fm.mk op' k' (o', d') a' n' c' kids']).length) := Lib.hid (by rw [List.length_append, ← HR.out]; rfl)
        clear hkl
        (try simp only [nsl, Value.cells, unB] at st)
        (try clear hc); have hc := st.facts; (try simp only [nfl, nft, Nat.reduceAdd] at hc)
        go_wp2_with (first
            | ((with_reducible refine wl_append ?_ (fun K hK => ?_)); (rfl); (obtain ⟨inf, hinf, hz0, hz1, hz2⟩ := fmInfo); (refine owp_append rfl st 2 get2 Try.underlying24 hinf hz0 hz1 hz2 rfl (by decide) rfl rfl ((st.blk (i := 5) get5).flat rfl) (by first | exact cellsL_all _ | simp [Value.oneCell']) (by simp only [maxLen]; omega) (by omega) ?_); (clear hinf hz0 hz1 hz2 inf); (clear st; intro v' w st); (obtain ⟨va', vc', rfl⟩ := own_slice (st.row (i := 2) get2)); (try simp only [nsl, Value.cells, unB] at st); (try simp only [Nat.zero_add] at st); (try clear hc); have hc := st.facts; (try simp only [nfl, nft, Nat.reduceAdd] at hc))
            | ((with_reducible refine wl_buildSlice ?_ (fun K hK => ?_)); (rfl); (refine owp_buildRow (o := ⟨some 9999, _, _, _, _, _⟩) rfl st 26 5 ?_; refine ⟨0, #[], ?_, by simp, by simp [maxLen], ?_⟩; (focus (go_simp; (first | done | rfl))); (clear st; intro b9999 w hb st; clear hb)); (try simp only [nsl, Value.cells, unB] at st); (try clear hc); have hc := st.facts; (try simp only [nfl, nft, Nat.reduceAdd] at hc))
            | ((first
              | ((with_reducible refine wl_alloc ?_ (fun K hK => ?_)); rfl; refine owp_alloc (o := ⟨some 7, _, _, _, _, _⟩) rfl st ?_; apply Exists.intro; apply Exists.intro; refine ⟨?_, ?_⟩; (focus (first | (go_simp; done) | (go_simp; rfl))); (clear st; intro b7 w hb st; clear hb))
              | ((with_reducible refine wl_store ?_ (fun K hK => ?_)); rfl; refine owp_store rfl st ?_; apply Exists.intro; apply Exists.intro; refine ⟨?_, ?_, ?_⟩; (focus (go_simp; try rfl)); (focus (go_simp; try rfl)); (first | (with_reducible refine ⟨0, _, _, _, _, get0, rfl, rfl, ?_, ?_, ?_, ?_⟩) | (with_reducible refine ⟨1, _, _, _, _, get1, rfl, rfl, ?_, ?_, ?_, ?_⟩) | (with_reducible refine ⟨2, _, _, _, _, get2, rfl, rfl, ?_, ?_, ?_, ?_⟩) | (with_reducible refine ⟨3, _, _, _, _, get3, rfl, rfl, ?_, ?_, ?_, ?_⟩) | (with_reducible refine ⟨4, _, _, _, _, get4, rfl, rfl, ?_, ?_, ?_, ?_⟩)); (kernel_rfl); (simp [Value.cells]); (rfl); (clear st; intro w st))
              | ((with_reducible refine wl_buildSlice ?_ (fun K hK => ?_)); rfl; refine owp_buildSlice (o := ⟨some 24, _, _, _, _, _⟩) rfl st ?_; apply Exists.intro; apply Exists.intro; apply Exists.intro; apply Exists.intro; refine ⟨?_, ?_⟩; (focus (go_simp; (first | done | exact ⟨⟨rfl, rfl⟩, rfl⟩ | rfl))); (clear st; intro b24 w hb st; clear hb))); (try simp only [nsl, Value.cells, unB] at st); (try clear hc); have hc := st.facts; (try simp only [nfl, nft, Nat.reduceAdd] at hc)))
        replace st := st.fmsApp (i := 3) (j := 1) (m := [Fm.mk op' k' (o', d') a' n' c' kids']) get3 get1 (fun x hx => .inl (by rw [List.mem_singleton.1 hx]; exact HMEM.out))
        have st' := st.keep [0, 1, 2, 6] (by decide) (by simp)
        go_roundg (n - (j + 1))
        case measure => omega
        case rel => exact ⟨j + 1, r + 1, ys ++ [Fm.mk op' k' (o', d') a' n' c' kids'], by omega, by omega, by go_num, hll2, HY2, HR2, by rw [cellsL_append, show cellsL [Fm.mk op' k' (o', d') a' n' c' kids'] = [.int .i64 op', .int .i64 k', .string ⟨o'.toArray⟩, .string ⟨d'.toArray⟩, .slice a' n' c'] from rfl]; simpa [pick] using st'⟩
    · obtain rfl : j = n := by omega
      have HE : Hid (ys.map Fm.strip = flF op (l.map Fm.strip) ∧ r ≤ 1000) := Lib.hid ⟨by rw [HY.out, List.take_of_length_le (by have := HN.out; omega)], hr⟩
      (try simp only [nsl, Value.cells, unB] at st)
      (try clear hc); have hc := st.facts; (try simp only [nfl, nft, Nat.reduceAdd] at hc)
      go_wp2_with fail
      go_ret
      exact ⟨oa, r, oc, ys, rfl, HE.out, st⟩
set_option maxRecDepth 100000 in
set_option maxHeartbeats 2000000 in
theorem fmOrder_c {fr al : Nat → Prop} {W : World} {a : Option Addr} {n c : Nat} (l : List Fm) (st : Own fr al W [flI a n l, fmsI l] W) (hn : n ≤ 2000000) (hB : FmsR l) :
    Calls Try.prog 122 #[.slice a n c] W fun e w' => ∃ va vc ys, e = .returned (.slice va n vc) ∧ (SP fK l ys ∧ Srt fK ys) ∧ Own fr al W [flI a n l, fmsI l, rowI 26 5 (.slice va n vc) n (cellsL ys), fmsI ys] w' := by
  have HCL := Lib.hid (fun fr al W (st : Own fr al W [flI a n l] W) => fmClone_c (fr := fr) (al := al) (W := W) (c := c) l st hn)
  have HSO := Lib.hid (fun fr al W va vc (st : Own fr al W [rowI 26 5 (.slice va n vc) n (cellsL l), fmsI l] W) => sortStable_c (fr := fr) (al := al) (W := W) (a := va) (n := n) (c := vc) l l hn hB (fun x hx => hx) st)
  clear hB
  (try simp only [nsl, Value.cells, unB] at st)
  (try clear hc); have hc := st.facts; (try simp only [nfl, nft, Nat.reduceAdd] at hc)
  go_enter Try.func122, Try.ntmps122
  go_wp2_with fail
  obtain ⟨fr', al', st', back⟩ := st.sub [0] (by decide) (by simp)
  (try simp only [nsl, Value.cells, unB] at st')
  refine (HCL.out _ _ _ st').mono ?_
  clear st'
  rintro en w ⟨va, vc, rfl, st'⟩
  replace st := back _ _ (by simp) st'
  clear back st'
  (try simp only [nsl, Value.cells, unB] at st)
  (try clear hc); have hc := st.facts; (try simp only [nfl, nft, Nat.reduceAdd] at hc)
  go_wp2_with fail
  obtain ⟨fr', al', st', back⟩ := st.sub [2, 1] (by decide) (by simp)
  (try simp only [nsl, Value.cells, unB] at st')
  refine (HSO.out _ _ _ _ _ st').mono ?_
  clear st'
  rintro en w ⟨rfl, ys, hy, st'⟩
  replace st := back _ _ (by simp) st'
  clear back st'
  (try simp only [nsl, Value.cells, unB] at st)
  (try clear hc); have hc := st.facts; (try simp only [nfl, nft, Nat.reduceAdd] at hc)
  have HY := Lib.hid hy
  clear hy
  replace st := st.fmsSub (i := 1) (m := ys) get1 (fun x hx => HY.out.1.mem.1 hx)
  simp only [List.cons_append, List.nil_append] at st
  go_wp2_with fail
  go_ret
  exact ⟨va, vc, ys, rfl, HY.out, st⟩
set_option maxRecDepth 100000 in
set_option maxHeartbeats 4000000 in
theorem compactFm_c {fr al : Nat → Prop} {w0 : World} {n c : Nat} {a : Option Addr} (base xs : List Fm) (hxb : ∀ x ∈ xs, x ∈ base) (st : Own fr al w0 [rowI 26 5 (.slice a n c) n (cellsL xs), fmsI base] w0) (hn : n ≤ 2000000) :
    Calls Try.prog 125 #[.slice a n c, .func (.func 46) #[] #[]] w0 fun e w' => ∃ m, e = .returned (.slice a m c) ∧ Own fr al w0 [rowI 26 5 (.slice a m c) m (cellsL (cmS xs)), fmsI base] w' := by
  have HN : Hid (n = xs.length) := Lib.hid (st.rowLen (i := 0) get0)
  have HXB := Lib.hid hxb
  have HSM := Lib.hid (fun (x y : Fm) (hx : x ∈ base) (hy : y ∈ base) W' (hw : ∀ f ∈ base, FmOk W' f) => (show pB (x.strip = y.strip) = sE x y from pB_of (foE_iff _ _)) ▸ fmSame_any x y W' (hw x hx) (hw y hy))
  clear hxb
  (try simp only [nsl, Value.cells, unB] at st)
  (try clear hc); have hc := st.facts; (try simp only [nfl, nft, Nat.reduceAdd] at hc)
  by_cases hn2 : n < 2
  · have HC : Hid (cmS xs = xs) := Lib.hid (cmS_one (by have := HN.out; omega))
    go_enter Try.func125, Try.ntmps125
    go_wp2_with fail
    go_ret
    exact ⟨n, rfl, by rw [HC.out]; exact st⟩
  obtain ⟨g, cap', hv, hcap, hrow⟩ := st.rowAt (i := 0) get0 (by omega)
  injection hv with hv1 hv2 hv3
  subst hv1 hv3
  clear hrow
  have hcap2 : c ≤ 9223372036854775807 := by have := hcap.2; simpa [maxLen] using this
  have hcap1 := hcap.1
  clear hcap
  go_enter Try.func125, Try.ntmps125
  go_wp2_with fail
  go_loopg [5] (n - 1) (fun k vi wr => ∃ (j : Nat), 1 ≤ j ∧ j ≤ n ∧ k = n - j ∧ vi = .int .i64 (j : Int) ∧ Hid (cmS (xs.take j) = xs.take j) ∧ Own fr al w0 [rowI 26 5 (.slice (some ⟨g, 0, none⟩) n c) n (cellsL xs), fmsI base] wr)
  case atStart => exact ⟨1, by omega, by omega, by omega, rfl, Lib.hid (cmS_one (by simp; omega)), st⟩
  case round =>
    obtain ⟨j, hj1, hj, rfl, rfl, HT, st'⟩ := hrel
    clear st hc
    have st := st'
    clear st'
    (try simp only [nsl, Value.cells, unB] at st)
    (try clear hc); have hc := st.facts; (try simp only [nfl, nft, Nat.reduceAdd] at hc)
    by_cases hjn : j < n
    · obtain ⟨q, hq⟩ : ∃ q, j = q + 1 := ⟨j - 1, by omega⟩
      have hw : IntKind.i64.wrap ((j : Int) - 1) = (q : Int) := by rw [IntWalk.i64_in _ ⟨by omega, by omega⟩]; omega
      have hjl : j < xs.length := by have := HN.out; omega
      have hql : q < xs.length := by omega
      obtain ⟨x, hx⟩ : ∃ x, xs[j]? = some x := ⟨_, List.getElem?_eq_getElem hjl⟩
      obtain ⟨y, hy⟩ : ∃ y, xs[q]? = some y := ⟨_, List.getElem?_eq_getElem hql⟩
      have HST := Lib.hid (cmS_step hq hx hy)
      have HTK : Hid (xs.take (j + 1) = xs.take j ++ [x]) := Lib.hid (by rw [List.take_add_one, hx]; rfl)
      have HC2 := Lib.hid (fun W' hw => HSM.out x y (HXB.out x (List.mem_of_getElem? hx)) (HXB.out y (List.mem_of_getElem? hy)) W' hw)
      obtain ⟨sv, hsv⟩ : ∃ v, sE x y = v := ⟨_, rfl⟩
      rw [hsv] at HST HC2
      have hqn2 : q < n := by omega
      have HQ := Lib.hid hq
      clear hsv hjl hql hq
      obtain ⟨op, k, ⟨o, d⟩, fa, fn, fc, kids⟩ := x
      obtain ⟨op2, k2, ⟨o2, d2⟩, fa2, fn2, fc2, kids2⟩ := y
      have HU := Lib.hid (fm_cells hx)
      have HV := Lib.hid (fm_cells hy)
      unfold fmV S at HC2
      simp only at HC2
      clear hx hy
      go_wp2_with fail
      refine Rg4.wp_region4_eq #[0, 0, 0, 6, 14, 0, 0, 64, 224, 480, 1023] [10] [4, 9] (fun _ => True) [0, 1, 2, 3, 4, 5, 6, 7, 8, 9, 10] (by kernel_rfl) (by kernel_rfl) (by kernel_rfl) (by kernel_rfl) (show Rg4.PB _ by repeat (first | with_reducible exact Rg4.pb_body | with_reducible exact Rg4.pb_bodyD rfl | with_reducible refine Rg4.pb_then ?_ | with_reducible refine Rg4.pb_inBlock ?_ | with_reducible refine Rg4.pb_noGoto ?_)) (trivial) ?_
      replace st := st.drew
      change Rg4.wp4 _ _ _ _ _ _ _ _ _ (World.drew _) _ _
      generalize World.drew _ = w at st ⊢
      (try clear hc); have hc := st.facts; (try simp only [nfl, nft, Nat.reduceAdd] at hc)
      iterate 4 (refine Rg4.w4_any (Rg4.want_none rfl) rfl ?_; apply Exists.intro; refine ⟨fun w' => ?_, ?_⟩; (focus (first | (go_simp; done) | (go_simp; first | rfl | (rw [if_neg] <;> first | rfl | omega) | (rw [if_pos] <;> first | rfl | omega)))); (try simp only [Rg4.nrm]))
      (refine Rg4.w4_read (Rg4.want_none rfl) rfl rfl ?_; apply Exists.intro; refine ⟨fun w' hw' hcl' => ?_, ?_⟩; focus (subst hw'; have r0 := st.rowC (i := 0) get0 _ _ HU.out.1; have r1 := st.rowC (i := 0) get0 _ _ HU.out.2.1; have r2 := st.rowC (i := 0) get0 _ _ HU.out.2.2.1; have r3 := st.rowC (i := 0) get0 _ _ HU.out.2.2.2.1; have r4 := st.rowC (i := 0) get0 _ _ HU.out.2.2.2.2; have q0 := st.rowC (i := 0) get0 _ _ HV.out.1; have q1 := st.rowC (i := 0) get0 _ _ HV.out.2.1; have q2 := st.rowC (i := 0) get0 _ _ HV.out.2.2.1; have q3 := st.rowC (i := 0) get0 _ _ HV.out.2.2.2.1; have q4 := st.rowC (i := 0) get0 _ _ HV.out.2.2.2.2; (focus (first | (go_simp; done) | (go_simp; first | rfl | (rw [if_neg] <;> first | rfl | omega) | (rw [if_pos] <;> first | rfl | omega))))); (try simp only [Rg4.nrm]))
      iterate 4 (refine Rg4.w4_any (Rg4.want_none rfl) rfl ?_; apply Exists.intro; refine ⟨fun w' => ?_, ?_⟩; (focus (first | (go_simp; done) | (go_simp; first | rfl | (rw [if_neg] <;> first | rfl | omega) | (rw [if_pos] <;> first | rfl | omega)))); (try simp only [Rg4.nrm]))
      (refine Rg4.w4_read (Rg4.want_none rfl) rfl rfl ?_; apply Exists.intro; refine ⟨fun w' hw' hcl' => ?_, ?_⟩; focus (subst hw'; have r0 := st.rowC (i := 0) get0 _ _ HU.out.1; have r1 := st.rowC (i := 0) get0 _ _ HU.out.2.1; have r2 := st.rowC (i := 0) get0 _ _ HU.out.2.2.1; have r3 := st.rowC (i := 0) get0 _ _ HU.out.2.2.2.1; have r4 := st.rowC (i := 0) get0 _ _ HU.out.2.2.2.2; have q0 := st.rowC (i := 0) get0 _ _ HV.out.1; have q1 := st.rowC (i := 0) get0 _ _ HV.out.2.1; have q2 := st.rowC (i := 0) get0 _ _ HV.out.2.2.1; have q3 := st.rowC (i := 0) get0 _ _ HV.out.2.2.2.1; have q4 := st.rowC (i := 0) get0 _ _ HV.out.2.2.2.2; (focus (first | (go_simp; done) | (go_simp; first | rfl | (rw [if_neg] <;> first | rfl | omega) | (rw [if_pos] <;> first | rfl | omega))))); (try simp only [Rg4.nrm]))
      refine Rg4.w4_bar (Rg4.want_none rfl) rfl (fun w' hw' hcl _ K hK => ?_)
      subst hw'
      go_wp2_with fail
      refine (HC2.out _ (st.fms (i := 1) get1)).mono ?_
      rintro en w ⟨rfl, hx⟩
      replace st := st.ext hx
      clear hx
      (try clear hc); have hc := st.facts; (try simp only [nfl, nft, Nat.reduceAdd] at hc)
      refine hK _ _ ⟨trivial, ?_⟩
      clear hK
      (try simp only [Rg4.nrm])
      refine Rg4.w4_nil (fun w' hw' hcl' _ => ?_); subst hw'; clear hcl'
      cases sv with
      | false =>
        have HF : Hid (cmS (xs.take (j + 1)) = xs.take (j + 1)) := Lib.hid (by rw [HST.out, HT.out, HTK.out]; rfl)
        go_wp2_with fail
        go_roundg (n - (j + 1))
        case measure => omega
        case rel => exact ⟨j + 1, by omega, by omega, by omega, by go_num, HF, st⟩
      | true =>
        have HF : Hid (cmS (xs.take (j + 1)) = xs.take j) := Lib.hid (by rw [HST.out, HT.out]; simp)
        clear hw
        go_wp2_with fail
        go_loopg [5, 7] (n - j - 1) (fun k vi vr wr => ∃ (i r : Nat) (zs : List Fm), 1 ≤ r ∧ j + r ≤ n ∧ k = n - j - r ∧ i < j + r ∧ vi = .int .i64 (i : Int) ∧ vr = .int .i64 (r : Int) ∧ Hid (zs.length = n ∧ zs.take i = cmS (xs.take (j + r)) ∧ ∀ q, j + r ≤ q + 1 → zs[q]? = xs[q]?) ∧ Own fr al w0 [rowI 26 5 (.slice (some ⟨g, 0, none⟩) n c) n (cellsL zs), fmsI base] wr)
        case atStart => exact ⟨j, 1, xs, by omega, by omega, by omega, by omega, rfl, rfl, Lib.hid ⟨HN.out.symm, HF.out.symm, fun _ _ => rfl⟩, st⟩
        case round =>
          obtain ⟨i, r, zs, hr1, hrj, rfl, hir, rfl, rfl, HZ, st'⟩ := hrel
          clear st hc HST HTK HF HU HV HC2
          have st := st'
          clear st'
          (try simp only [nsl, Value.cells, unB] at st)
          (try clear hc); have hc := st.facts; (try simp only [nfl, nft, Nat.reduceAdd] at hc)
          by_cases hrn : r < n - j
          · obtain ⟨s, hs⟩ : ∃ s, r = s + 1 := ⟨r - 1, by omega⟩
            have hw : IntKind.i64.wrap ((r : Int) - 1) = (s : Int) := by rw [IntWalk.i64_in _ ⟨by omega, by omega⟩]; omega
            have hjl : j + r < xs.length := by have := HN.out; omega
            have hql : j + s < xs.length := by omega
            obtain ⟨x, hx⟩ : ∃ x, xs[j + r]? = some x := ⟨_, List.getElem?_eq_getElem hjl⟩
            obtain ⟨y, hy⟩ : ∃ y, xs[j + s]? = some y := ⟨_, List.getElem?_eq_getElem hql⟩
            have hzx := (HZ.out.2.2 (j + r) (by omega)).trans hx
            have hzy := (HZ.out.2.2 (j + s) (by omega)).trans hy
            have HST := Lib.hid (cmS_step (by omega : j + r = j + s + 1) hx hy)
            have HC2 := Lib.hid (fun W' hw => HSM.out x y (HXB.out x (List.mem_of_getElem? hx)) (HXB.out y (List.mem_of_getElem? hy)) W' hw)
            obtain ⟨sv, hsv⟩ : ∃ v, sE x y = v := ⟨_, rfl⟩
            rw [hsv] at HST HC2
            have hql2 : s < n - j := by omega
            have HS := Lib.hid hs
            clear hs hql hx hy hjl hsv
            obtain ⟨op, k, ⟨o, d⟩, fa, fn, fc, kids⟩ := x
            obtain ⟨op2, k2, ⟨o2, d2⟩, fa2, fn2, fc2, kids2⟩ := y
            have hU := fm_cells hzx
            have hV := fm_cells hzy
            simp only [Nat.add_mul] at hU hV
            have HU := Lib.hid hU
            have HV := Lib.hid hV
            unfold fmV S at HC2
            simp only at HC2
            clear hzx hzy hU hV
            cases sv with
            | true =>
              have hb : (!true) = false := rfl
              have HF : Hid (cmS (xs.take (j + (r + 1))) = cmS (xs.take (j + r))) := Lib.hid (by rw [← Nat.add_assoc, HST.out]; simp)
              go_wp2_with fail
              refine Rg4.wp_region4_eq #[0, 0, 0, 6, 14, 0, 0, 64, 224, 480, 1023, 2047] [10] [4, 9] (fun _ => True) [0, 1, 2, 3, 4, 5, 6, 7, 8, 9, 10, 11] (by kernel_rfl) (by kernel_rfl) (by kernel_rfl) (by kernel_rfl) (show Rg4.PB _ by repeat (first | with_reducible exact Rg4.pb_body | with_reducible exact Rg4.pb_bodyD rfl | with_reducible refine Rg4.pb_then ?_ | with_reducible refine Rg4.pb_inBlock ?_ | with_reducible refine Rg4.pb_noGoto ?_)) (trivial) ?_
              replace st := st.drew
              change Rg4.wp4 _ _ _ _ _ _ _ _ _ (World.drew _) _ _
              generalize World.drew _ = w at st ⊢
              (try clear hc); have hc := st.facts; (try simp only [nfl, nft, Nat.reduceAdd] at hc)
              iterate 4 (refine Rg4.w4_any (Rg4.want_none rfl) rfl ?_; apply Exists.intro; refine ⟨fun w' => ?_, ?_⟩; (focus (first | (go_simp; done) | (go_simp; first | rfl | (rw [if_neg] <;> first | rfl | omega) | (rw [if_pos] <;> first | rfl | omega)))); (try simp only [Rg4.nrm]))
              (refine Rg4.w4_read (Rg4.want_none rfl) rfl rfl ?_; apply Exists.intro; refine ⟨fun w' hw' hcl' => ?_, ?_⟩; focus (subst hw'; have r0 := st.rowC (i := 0) get0 _ _ HU.out.1; have r1 := st.rowC (i := 0) get0 _ _ HU.out.2.1; have r2 := st.rowC (i := 0) get0 _ _ HU.out.2.2.1; have r3 := st.rowC (i := 0) get0 _ _ HU.out.2.2.2.1; have r4 := st.rowC (i := 0) get0 _ _ HU.out.2.2.2.2; have q0 := st.rowC (i := 0) get0 _ _ HV.out.1; have q1 := st.rowC (i := 0) get0 _ _ HV.out.2.1; have q2 := st.rowC (i := 0) get0 _ _ HV.out.2.2.1; have q3 := st.rowC (i := 0) get0 _ _ HV.out.2.2.2.1; have q4 := st.rowC (i := 0) get0 _ _ HV.out.2.2.2.2; (focus (first | (go_simp; done) | (go_simp; first | rfl | (rw [if_neg] <;> first | rfl | omega) | (rw [if_pos] <;> first | rfl | omega))))); (try simp only [Rg4.nrm]))
              iterate 4 (refine Rg4.w4_any (Rg4.want_none rfl) rfl ?_; apply Exists.intro; refine ⟨fun w' => ?_, ?_⟩; (focus (first | (go_simp; done) | (go_simp; first | rfl | (rw [if_neg] <;> first | rfl | omega) | (rw [if_pos] <;> first | rfl | omega)))); (try simp only [Rg4.nrm]))
              (refine Rg4.w4_read (Rg4.want_none rfl) rfl rfl ?_; apply Exists.intro; refine ⟨fun w' hw' hcl' => ?_, ?_⟩; focus (subst hw'; have r0 := st.rowC (i := 0) get0 _ _ HU.out.1; have r1 := st.rowC (i := 0) get0 _ _ HU.out.2.1; have r2 := st.rowC (i := 0) get0 _ _ HU.out.2.2.1; have r3 := st.rowC (i := 0) get0 _ _ HU.out.2.2.2.1; have r4 := st.rowC (i := 0) get0 _ _ HU.out.2.2.2.2; have q0 := st.rowC (i := 0) get0 _ _ HV.out.1; have q1 := st.rowC (i := 0) get0 _ _ HV.out.2.1; have q2 := st.rowC (i := 0) get0 _ _ HV.out.2.2.1; have q3 := st.rowC (i := 0) get0 _ _ HV.out.2.2.2.1; have q4 := st.rowC (i := 0) get0 _ _ HV.out.2.2.2.2; (focus (first | (go_simp; done) | (go_simp; first | rfl | (rw [if_neg] <;> first | rfl | omega) | (rw [if_pos] <;> first | rfl | omega))))); (try simp only [Rg4.nrm]))
              refine Rg4.w4_bar (Rg4.want_none rfl) rfl (fun w' hw' hcl _ K hK => ?_)
              subst hw'
              go_wp2_with fail
              refine (HC2.out _ (st.fms (i := 1) get1)).mono ?_
              rintro en w ⟨rfl, hx⟩
              replace st := st.ext hx
              clear hx
              (try clear hc); have hc := st.facts; (try simp only [nfl, nft, Nat.reduceAdd] at hc)
              refine hK _ _ ⟨trivial, ?_⟩
              clear hK
              (try simp only [Rg4.nrm])
              (refine Rg4.w4_any (Rg4.want_none rfl) rfl ?_; apply Exists.intro; refine ⟨fun w' => ?_, ?_⟩; (focus (first | (go_simp; done) | (go_simp; first | rfl | (rw [if_neg] <;> first | rfl | omega) | (rw [if_pos] <;> first | rfl | omega)))); (try simp only [Rg4.nrm]))
              refine Rg4.w4_nil (fun w' hw' hcl' _ => ?_); subst hw'; clear hcl'
              go_wp2_with fail
              go_roundg (n - j - (r + 1))
              case measure => omega
              case rel => exact ⟨i, r + 1, zs, by omega, by omega, rfl, by omega, rfl, by go_num, Lib.hid ⟨HZ.out.1, by rw [HF.out]; exact HZ.out.2.1, fun q hq => HZ.out.2.2 q (by omega)⟩, st⟩
            | false =>
              have HF : Hid (cmS (xs.take (j + (r + 1))) = cmS (xs.take (j + r)) ++ [.mk op k (o, d) fa fn fc kids]) := Lib.hid (by rw [← Nat.add_assoc, HST.out]; rfl)
              go_wp2_with fail
              refine Rg4.wp_region4_eq #[0, 0, 0, 6, 14, 0, 0, 64, 224, 480, 1023, 2047] [10] [4, 9] (fun _ => True) [0, 1, 2, 3, 4, 5, 6, 7, 8, 9, 10, 11] (by kernel_rfl) (by kernel_rfl) (by kernel_rfl) (by kernel_rfl) (show Rg4.PB _ by repeat (first | with_reducible exact Rg4.pb_body | with_reducible exact Rg4.pb_bodyD rfl | with_reducible refine Rg4.pb_then ?_ | with_reducible refine Rg4.pb_inBlock ?_ | with_reducible refine Rg4.pb_noGoto ?_)) (trivial) ?_
              replace st := st.drew
              change Rg4.wp4 _ _ _ _ _ _ _ _ _ (World.drew _) _ _
              generalize World.drew _ = w at st ⊢
              (try clear hc); have hc := st.facts; (try simp only [nfl, nft, Nat.reduceAdd] at hc)
              iterate 4 (refine Rg4.w4_any (Rg4.want_none rfl) rfl ?_; apply Exists.intro; refine ⟨fun w' => ?_, ?_⟩; (focus (first | (go_simp; done) | (go_simp; first | rfl | (rw [if_neg] <;> first | rfl | omega) | (rw [if_pos] <;> first | rfl | omega)))); (try simp only [Rg4.nrm]))
              (refine Rg4.w4_read (Rg4.want_none rfl) rfl rfl ?_; apply Exists.intro; refine ⟨fun w' hw' hcl' => ?_, ?_⟩; focus (subst hw'; have r0 := st.rowC (i := 0) get0 _ _ HU.out.1; have r1 := st.rowC (i := 0) get0 _ _ HU.out.2.1; have r2 := st.rowC (i := 0) get0 _ _ HU.out.2.2.1; have r3 := st.rowC (i := 0) get0 _ _ HU.out.2.2.2.1; have r4 := st.rowC (i := 0) get0 _ _ HU.out.2.2.2.2; have q0 := st.rowC (i := 0) get0 _ _ HV.out.1; have q1 := st.rowC (i := 0) get0 _ _ HV.out.2.1; have q2 := st.rowC (i := 0) get0 _ _ HV.out.2.2.1; have q3 := st.rowC (i := 0) get0 _ _ HV.out.2.2.2.1; have q4 := st.rowC (i := 0) get0 _ _ HV.out.2.2.2.2; (focus (first | (go_simp; done) | (go_simp; first | rfl | (rw [if_neg] <;> first | rfl | omega) | (rw [if_pos] <;> first | rfl | omega))))); (try simp only [Rg4.nrm]))
              iterate 4 (refine Rg4.w4_any (Rg4.want_none rfl) rfl ?_; apply Exists.intro; refine ⟨fun w' => ?_, ?_⟩; (focus (first | (go_simp; done) | (go_simp; first | rfl | (rw [if_neg] <;> first | rfl | omega) | (rw [if_pos] <;> first | rfl | omega)))); (try simp only [Rg4.nrm]))
              (refine Rg4.w4_read (Rg4.want_none rfl) rfl rfl ?_; apply Exists.intro; refine ⟨fun w' hw' hcl' => ?_, ?_⟩; focus (subst hw'; have r0 := st.rowC (i := 0) get0 _ _ HU.out.1; have r1 := st.rowC (i := 0) get0 _ _ HU.out.2.1; have r2 := st.rowC (i := 0) get0 _ _ HU.out.2.2.1; have r3 := st.rowC (i := 0) get0 _ _ HU.out.2.2.2.1; have r4 := st.rowC (i := 0) get0 _ _ HU.out.2.2.2.2; have q0 := st.rowC (i := 0) get0 _ _ HV.out.1; have q1 := st.rowC (i := 0) get0 _ _ HV.out.2.1; have q2 := st.rowC (i := 0) get0 _ _ HV.out.2.2.1; have q3 := st.rowC (i := 0) get0 _ _ HV.out.2.2.2.1; have q4 := st.rowC (i := 0) get0 _ _ HV.out.2.2.2.2; (focus (first | (go_simp; done) | (go_simp; first | rfl | (rw [if_neg] <;> first | rfl | omega) | (rw [if_pos] <;> first | rfl | omega))))); (try simp only [Rg4.nrm]))
              refine Rg4.w4_bar (Rg4.want_none rfl) rfl (fun w' hw' hcl _ K hK => ?_)
              subst hw'
              go_wp2_with fail
              refine (HC2.out _ (st.fms (i := 1) get1)).mono ?_
              rintro en w ⟨rfl, hx⟩
              replace st := st.ext hx
              clear hx
              (try clear hc); have hc := st.facts; (try simp only [nfl, nft, Nat.reduceAdd] at hc)
              refine hK _ _ ⟨trivial, ?_⟩
              clear hK
              (try simp only [Rg4.nrm])
              (refine Rg4.w4_any (Rg4.want_none rfl) rfl ?_; apply Exists.intro; refine ⟨fun w' => ?_, ?_⟩; (focus (first | (go_simp; done) | (go_simp; first | rfl | (rw [if_neg] <;> first | rfl | omega) | (rw [if_pos] <;> first | rfl | omega)))); (try simp only [Rg4.nrm]))
              refine Rg4.w4_nil (fun w' hw' hcl' _ => ?_); subst hw'; clear hcl'
              have r0 := st.rowC (i := 0) get0 _ _ HU.out.1
              have r1 := st.rowC (i := 0) get0 _ _ HU.out.2.1
              have r2 := st.rowC (i := 0) get0 _ _ HU.out.2.2.1
              have r3 := st.rowC (i := 0) get0 _ _ HU.out.2.2.2.1
              have r4 := st.rowC (i := 0) get0 _ _ HU.out.2.2.2.2
              have hiz : i < zs.length := by have := HZ.out.1; omega
              have hset := fm_store hiz op k o d fa fn fc kids
              have HZ2 : Hid ((zs.set i (.mk op k (o, d) fa fn fc kids)).length = n ∧ (zs.set i (.mk op k (o, d) fa fn fc kids)).take (i + 1) = cmS (xs.take (j + (r + 1))) ∧ ∀ q, j + (r + 1) ≤ q + 1 → (zs.set i (.mk op k (o, d) fa fn fc kids))[q]? = xs[q]?) := Lib.hid ⟨by simp [HZ.out.1], by
                  rw [HF.out, ← HZ.out.2.1]
                  have : (zs.set i (Fm.mk op k (o, d) fa fn fc kids))[i]'(by simpa using hiz) = .mk op k (o, d) fa fn fc kids := by simp
                  rw [← List.take_append_getElem (l := zs.set i (Fm.mk op k (o, d) fa fn fc kids)) (by simpa using hiz), this]
                  rw [List.take_set, List.set_eq_of_length_le (by rw [List.length_take]; omega)], fun q hq => by
                  rw [List.getElem?_set_ne (by omega)]; exact HZ.out.2.2 q (by omega)⟩
              have HSET := Lib.hid hset
              clear hset hiz
              go_wp2_with ((with_reducible refine wl_store ?_ (fun K hK => ?_)); (rfl); (refine owp_storeRow' rfl st ?_; apply Exists.intro; apply Exists.intro; refine ⟨?_, ?_, ?_⟩; (focus (go_simp; try rfl)); (focus (go_simp; try rfl)); refine ⟨0, _, _, _, _, _, _, _, _, get0, rfl, rfl, ?_, ?_, ?_, ?_⟩; (kernel_rfl); (simp [Value.cells]; omega); (rfl); (clear st; intro w st)))
              simp only [List.set_cons_zero, Value.cells] at st
              go_roundg (n - j - (r + 1))
              case measure => omega
              case rel => exact ⟨i + 1, r + 1, zs.set i (.mk op k (o, d) fa fn fc kids), by omega, by omega, rfl, by omega, by go_num, by go_num, HZ2, by rw [← HSET.out]; exact st⟩
          · obtain ⟨inf, hinf, hz0, hz1, hz2⟩ := fmInfo
            have HF : Hid (zs.take i = cmS xs) := Lib.hid (by rw [HZ.out.2.1, List.take_of_length_le (by have := HN.out; omega)])
            have hin : i ≤ n := by omega
            go_wp2_with ((with_reducible refine wl_clear ?_ (fun K hK => ?_)); (rfl); (refine owp_clearRow' rfl st Try.underlying24 ?_; apply Exists.intro; apply Exists.intro; apply Exists.intro; refine ⟨?_, ?_⟩; (focus (go_simp; exact ⟨rfl, rfl, rfl⟩)); refine ⟨0, _, _, _, _, i, _, inf, .agg zF.toArray, get0, hinf, hz0, by decide, rfl, rfl, by omega, by simp, rfl, ?_⟩; (clear st; intro w ys hy1 hy2 st)))
            simp only [List.set_cons_zero] at st
            have st2 := st.rowCut (i := 0) (k := 5) (n := n) (c := c) (g := g) (E := 26) (xs := ys) get0 i (by omega)
            have hct := cellsL_take zs i
            rw [show Flt.k Fm = 5 from rfl] at hct
            rw [hy1, hct, HF.out, List.set_cons_zero] at st2
            go_ret
            exact ⟨i, rfl, st2⟩
    · obtain rfl : j = n := by omega
      have HF : Hid (cmS xs = xs) := Lib.hid (by have := HT.out; rwa [List.take_of_length_le (by have := HN.out; omega)] at this)
      go_wp2_with fail
      go_ret
      exact ⟨j, rfl, by rw [HF.out]; exact st⟩
end Go.Proofs.Ythjaopojlhdjpaa

namespace Go.Proofs.Ythjaopojlhdjpaa
set_option linter.unusedSimpArgs false
set_option linter.unusedVariables false
open Go Go.RowKit
theorem FoL.mono {b b' : Nat} (hb : b ≤ b') {f : Fo} (h : FoL b f) : FoL b' f := by
  induction h with
  | mk h1 h2 _ ih => exact .mk (Nat.le_trans h1 hb) (Nat.le_trans h2 hb) ih
def foA : Fo := .mk 1 0 ([97], [114]) []
theorem fo0_R : foR (.mk 0 0 ([], []) []) = false := by decide +kernel
theorem foA_R : foR foA = true := by decide +kernel
theorem L_fo {b : Nat} {op k : Int} {o d : List UInt8} {kids : List Fo} (h1 : o.length ≤ b) (h2 : d.length ≤ b) (hk : ∀ x ∈ kids, FoL b x) : FoL b (.mk op k (o, d) kids) := .mk h1 h2 hk
theorem foA_L : FoL 100000 foA := L_fo (by decide) (by decide) (by simp)
theorem ok_leaf (W : World) (op k : Int) (r : Role) : FmOk W (.mk op k r none 0 0 []) := FmIn.mk ⟨Nat.le_refl _, by simp [maxLen]⟩ (Fl.nil _ _) (fun h => by omega) (by simp)
def fmA : Fm := .mk 1 0 ([97], [114]) none 0 0 []
theorem fmA_strip : fmA.strip = foA := rfl
end Go.Proofs.Ythjaopojlhdjpaa

namespace Go.Proofs.Ythjaopojlhdjpaa
set_option linter.unusedSimpArgs false
set_option linter.unusedVariables false
open Go Go.RowKit
/-- Formulas that are small. -/
def SmL (l : List Fo) : Prop := nodesL l ≤ 1000 ∧ ∀ x ∈ l, FoL 100000 x
theorem SmL.sub {l m : List Fo} (h : SmL l) (hn : nodesL m ≤ nodesL l) (hm : ∀ x ∈ m, FoL 100000 x) : SmL m := ⟨Nat.le_trans hn h.1, hm⟩
theorem SmL.fl {l : List Fo} (h : SmL l) (op : Int) : SmL (flF op l) := ⟨Nat.le_trans (flF_nodes op l) h.1, flF_L h.2⟩
theorem SmL.r {l : List Fm} (h : SmL (l.map Fm.strip)) : FmsR l := fun x hx => by
  have hm := List.mem_map_of_mem (f := Fm.strip) hx
  have := nodesL_mem _ _ hm
  exact ⟨by have := h.1; omega, h.2 _ hm⟩
theorem sorted_is {ys zs : List Fm} (h : SP fK ys zs ∧ Srt fK zs) : zs.map Fm.strip = sSort wrF (ys.map Fm.strip) :=
  sSort_is (SP.map Fm.strip (fun _ => rfl) h.1) (Srt.map Fm.strip (fun _ => rfl) h.2)
theorem fm_bare (s : Nat → Prop) (W : World) (op k : Int) : FmIn s W (.mk op k ([], []) none 0 0 []) := FmIn.mk ⟨Nat.le_refl _, by simp [maxLen]⟩ (Fl.nil _ _) (fun h => by omega) (by simp)
theorem joF_hit {op : Int} {l : List Fo} (h : (flF op l).any (fun x => emF x (5 - op)) = true) : joF op l = .mk (5 - op) 0 ([], []) [] := by unfold joF; rw [if_pos h]
theorem joF_miss {op : Int} {l : List Fo} (h : (flF op l).any (fun x => emF x (5 - op)) = false) : joF op l = one1 op (cmF (sSort wrF (flF op l))) := by unfold joF; rw [h]; rfl
theorem one1_ne {op : Int} {l : List Fo} (h : l.length ≠ 1) : one1 op l = .mk op 0 ([], []) l := one1_id h
set_option maxRecDepth 100000 in
set_option maxHeartbeats 1000000 in
theorem joined1_any (b : Nat) (op : Int) (f : Fm) (W : World) (hb : Blk W b [.int .i64 op]) (hf : FmOk W f) :
    Calls Try.prog 124 #[fmV f, .pointer (some ⟨b, 0, none⟩)] W fun e w' => e = .returned (.bool (emF f.strip op)) ∧ Ext W w' := by
  have HE := Lib.hid (fun W' (hx : Ext W W') => fmEmpty_any f op W' (hf.ext hx))
  have HB := Lib.hid hb
  obtain ⟨v, hv⟩ : ∃ v, emF f.strip op = v := ⟨_, rfl⟩
  rw [hv] at HE ⊢
  clear hb hf hv
  obtain ⟨op', k, ⟨o, d⟩, a, n, c, kids⟩ := f
  unfold fmV S at HE ⊢
  simp only at HE ⊢
  have st := Own.startOld W
  have r0 := HB.out.cell 0
  simp only [List.getElem?_cons_zero] at r0
  replace st := st.addEl (i := 0) get0 b 0 (.int .i64 op) [] ⟨r0, trivial⟩
  clear r0
  simp only [List.cons_append, List.nil_append] at st
  (try simp only [nsl, Value.cells, unB] at st)
  (try clear hc); have hc := st.facts; (try simp only [nfl, nft, elI, elF, Nat.reduceAdd] at hc)
  go_enter Try.func124, Try.ntmps124
  go_wp2_with ((((with_reducible refine wl_box ?_ (fun K hK => ?_)); rfl; refine owp_box (o := ⟨some 2, _, _, _, _, _⟩) rfl st ?_; apply Exists.intro; refine ⟨?_, ?_⟩; (focus (go_simp; try rfl)); (clear st; intro b2 w hb st; clear hb))); (try simp only [nsl, Value.cells, unB] at st); (try clear hc); have hc := st.facts; (try simp only [nfl, nft, elI, elF, Nat.reduceAdd] at hc))
  refine (HE.out _ st.ext0).mono ?_
  rintro en w ⟨rfl, hx⟩
  replace st := st.ext hx
  clear hx
  (try clear hc); have hc := st.facts; (try simp only [nfl, nft, elI, elF, Nat.reduceAdd] at hc)
  go_wp2_with ((((with_reducible refine wl_box ?_ (fun K hK => ?_)); rfl; refine owp_box (o := ⟨some 2, _, _, _, _, _⟩) rfl st ?_; apply Exists.intro; refine ⟨?_, ?_⟩; (focus (go_simp; try rfl)); (clear st; intro b2 w hb st; clear hb))); (try simp only [nsl, Value.cells, unB] at st); (try clear hc); have hc := st.facts; (try simp only [nfl, nft, elI, elF, Nat.reduceAdd] at hc))
  go_ret
  exact ⟨rfl, st.ext0⟩
/-- A formula, made of what the items hold. -/
def FmMade (fr al : Nat → Prop) (W : World) (L : List It) (f : Fo) (e : Ending) (w' : World) : Prop := ∃ g, e = .returned (fmV g) ∧ g.strip = f ∧ Own fr al W (L ++ [fmI g]) w'
theorem fmMade {fr al : Nat → Prop} {W w : World} {L : List It} {f : Fo} (g : Fm) {v : Value} (hv : v = fmV g) (hg : g.strip = f) (st : Own fr al W (L ++ [fmI g]) w) : FmMade fr al W L f (.returned v) w := ⟨g, by rw [hv], hg, st⟩
set_option maxRecDepth 100000 in
set_option maxHeartbeats 8000000 in
theorem joined_c {fr al : Nat → Prop} {W : World} {a : Option Addr} {n c s : Nat} (op : Int) (l : List Fm) (ho : op = 2 ∨ op = 3) (hl : SmL (l.map Fm.strip)) (hn : nodesL (l.map Fm.strip) ≤ 64) (st : Own fr al W [blkI s [.int .i64 0], flI a n l, fmsI l] W) :
    Calls Try.prog 85 #[.pointer (some ⟨s, 0, none⟩), .int .i64 op, .slice a n c] W fun e w' => FmMade fr al W [blkI s [.int .i64 0], flI a n l, fmsI l] (joF op (l.map Fm.strip)) e w' := by
  have HFL := Lib.hid (fun fr al W (st : Own fr al W [flI a n l, fmsI l] W) => fmFlat_c (fr := fr) (al := al) (W := W) (c := c) op l st hl.1)
  obtain ⟨op2, hop2⟩ : ∃ q, 5 - op = q := ⟨_, rfl⟩
  have w1 : IntKind.i64.wrap (5 - op) = op2 := by rcases ho with rfl | rfl <;> (rw [← hop2]; rfl)
  have HHIT := Lib.hid (joF_hit (op := op) (l := l.map Fm.strip))
  have HMISS := Lib.hid (joF_miss (op := op) (l := l.map Fm.strip))
  have HSM := Lib.hid (hl.fl op)
  have HCN : Hid ((cmF (sSort wrF (flF op (l.map Fm.strip)))).length ≤ 64) := Lib.hid (by
    have h1 := nodesL_len (cmF (sSort wrF (flF op (l.map Fm.strip))))
    have h2 := cmF_nodes (flF op (l.map Fm.strip))
    have h3 := flF_nodes op (l.map Fm.strip)
    omega)
  rw [hop2] at HHIT HMISS
  obtain ⟨rs, hrs⟩ : ∃ q, joF op (l.map Fm.strip) = q := ⟨_, rfl⟩
  rw [hrs] at HHIT HMISS ⊢
  obtain ⟨fl, hfl⟩ : ∃ q, flF op (l.map Fm.strip) = q := ⟨_, rfl⟩
  rw [hfl] at HFL HHIT HMISS HSM HCN
  clear hl hn hop2 hrs hfl ho
  (try simp only [nsl, Value.cells, unB] at st)
  (try clear hc); have hc := st.facts; (try simp only [nfl, nft, Nat.reduceAdd] at hc)
  go_enter Try.func85, Try.ntmps85
  go_wp2_with ((first
        | ((with_reducible refine wl_alloc ?_ (fun K hK => ?_)); rfl; refine owp_alloc (o := ⟨some 6, _, _, _, _, _⟩) rfl st ?_; apply Exists.intro; apply Exists.intro; refine ⟨?_, ?_⟩; (focus (first | (go_simp; done) | (go_simp; rfl))); (clear st; intro b6 w hb st; clear hb))
        | ((with_reducible refine wl_alloc ?_ (fun K hK => ?_)); rfl; refine owp_alloc (o := ⟨some 7, _, _, _, _, _⟩) rfl st ?_; apply Exists.intro; apply Exists.intro; refine ⟨?_, ?_⟩; (focus (first | (go_simp; done) | (go_simp; rfl))); (clear st; intro b7 w hb st; clear hb))
        | ((with_reducible refine wl_store ?_ (fun K hK => ?_)); rfl; refine owp_store rfl st ?_; apply Exists.intro; apply Exists.intro; refine ⟨?_, ?_, ?_⟩; (focus (go_simp; try rfl)); (focus (go_simp; try rfl)); (first | (with_reducible refine ⟨0, _, _, _, _, get0, rfl, rfl, ?_, ?_, ?_, ?_⟩) | (with_reducible refine ⟨1, _, _, _, _, get1, rfl, rfl, ?_, ?_, ?_, ?_⟩) | (with_reducible refine ⟨2, _, _, _, _, get2, rfl, rfl, ?_, ?_, ?_, ?_⟩) | (with_reducible refine ⟨3, _, _, _, _, get3, rfl, rfl, ?_, ?_, ?_, ?_⟩) | (with_reducible refine ⟨4, _, _, _, _, get4, rfl, rfl, ?_, ?_, ?_, ?_⟩) | (with_reducible refine ⟨5, _, _, _, _, get5, rfl, rfl, ?_, ?_, ?_, ?_⟩) | (with_reducible refine ⟨6, _, _, _, _, get6, rfl, rfl, ?_, ?_, ?_, ?_⟩) | (with_reducible refine ⟨7, _, _, _, _, get7, rfl, rfl, ?_, ?_, ?_, ?_⟩) | (with_reducible refine ⟨8, _, _, _, _, get8, rfl, rfl, ?_, ?_, ?_, ?_⟩)); (kernel_rfl); (simp [Value.cells]); (rfl); (clear st; intro w st))); (try simp only [nsl, Value.cells, unB] at st); (try clear hc); have hc := st.facts; (try simp only [nfl, nft, Nat.reduceAdd] at hc))
  obtain ⟨fr', al', st', back⟩ := st.sub [1, 2] (by decide) (by simp)
  (try simp only [nsl, Value.cells, unB] at st')
  refine (HFL.out _ _ _ st').mono ?_
  clear st'
  rintro en w ⟨va, m, vc, ys, rfl, hy, st'⟩
  replace st := back _ _ (by simp) st'
  clear back st'
  (try simp only [nsl, Value.cells, unB] at st)
  (try clear hc); have hc := st.facts; (try simp only [nfl, nft, Nat.reduceAdd] at hc)
  have hmb := hy.2
  have HY := Lib.hid hy.1
  clear hy
  replace st := st.rowToFl (α := Fm) (i := 5) get5
  simp only [List.set] at st
  (try simp only [nsl, Value.cells, unB] at st)
  (try clear hc); have hc := st.facts; (try simp only [nfl, nft, Nat.reduceAdd] at hc)
  go_wp2_with ((first
        | ((with_reducible refine wl_alloc ?_ (fun K hK => ?_)); rfl; refine owp_alloc (o := ⟨some 6, _, _, _, _, _⟩) rfl st ?_; apply Exists.intro; apply Exists.intro; refine ⟨?_, ?_⟩; (focus (first | (go_simp; done) | (go_simp; rfl))); (clear st; intro b6 w hb st; clear hb))
        | ((with_reducible refine wl_alloc ?_ (fun K hK => ?_)); rfl; refine owp_alloc (o := ⟨some 7, _, _, _, _, _⟩) rfl st ?_; apply Exists.intro; apply Exists.intro; refine ⟨?_, ?_⟩; (focus (first | (go_simp; done) | (go_simp; rfl))); (clear st; intro b7 w hb st; clear hb))
        | ((with_reducible refine wl_store ?_ (fun K hK => ?_)); rfl; refine owp_store rfl st ?_; apply Exists.intro; apply Exists.intro; refine ⟨?_, ?_, ?_⟩; (focus (go_simp; try rfl)); (focus (go_simp; try rfl)); (first | (with_reducible refine ⟨0, _, _, _, _, get0, rfl, rfl, ?_, ?_, ?_, ?_⟩) | (with_reducible refine ⟨1, _, _, _, _, get1, rfl, rfl, ?_, ?_, ?_, ?_⟩) | (with_reducible refine ⟨2, _, _, _, _, get2, rfl, rfl, ?_, ?_, ?_, ?_⟩) | (with_reducible refine ⟨3, _, _, _, _, get3, rfl, rfl, ?_, ?_, ?_, ?_⟩) | (with_reducible refine ⟨4, _, _, _, _, get4, rfl, rfl, ?_, ?_, ?_, ?_⟩) | (with_reducible refine ⟨5, _, _, _, _, get5, rfl, rfl, ?_, ?_, ?_, ?_⟩) | (with_reducible refine ⟨6, _, _, _, _, get6, rfl, rfl, ?_, ?_, ?_, ?_⟩) | (with_reducible refine ⟨7, _, _, _, _, get7, rfl, rfl, ?_, ?_, ?_, ?_⟩) | (with_reducible refine ⟨8, _, _, _, _, get8, rfl, rfl, ?_, ?_, ?_, ?_⟩)); (kernel_rfl); (simp [Value.cells]); (rfl); (clear st; intro w st))); (try simp only [nsl, Value.cells, unB] at st); (try clear hc); have hc := st.facts; (try simp only [nfl, nft, Nat.reduceAdd] at hc))
  have hcf := fmContainsFunc_any va m vc ys _ (st.flAt (i := 5) get5) (by omega) 124 #[.pointer (some ⟨b7, 0, none⟩)] (fun x => emF x.strip op2) (fun _ _ => by kernel_rfl)
    (fun x hx w' hw => joined1_any b7 op2 x w' ((st.blk (i := 4) get4).ext hw) ((st.fms (i := 6) get6 x hx).ext hw))
  have hany : (ys.any fun x => emF x.strip op2) = fl.any (fun x => emF x op2) := by rw [← HY.out, List.any_map]; rfl
  rw [hany] at hcf
  obtain ⟨v, hv⟩ : ∃ v, fl.any (fun x => emF x op2) = v := ⟨_, rfl⟩
  rw [hv] at hcf HHIT HMISS
  clear hany hv
  refine (hcf).mono ?_
  rintro en w ⟨rfl, hx⟩
  replace st := st.ext hx
  clear hx
  (try clear hc); have hc := st.facts; (try simp only [nfl, nft, Nat.reduceAdd] at hc)
  clear hcf
  cases v with
  | true =>
    have HR := HHIT.out (by simp)
    clear HHIT HMISS
    (try simp only [nsl, Value.cells, unB] at st)
    (try clear hc); have hc := st.facts; (try simp only [nfl, nft, Nat.reduceAdd] at hc)
    go_wp2_with ((first
          | ((with_reducible refine wl_alloc ?_ (fun K hK => ?_)); rfl; refine owp_alloc (o := ⟨some 6, _, _, _, _, _⟩) rfl st ?_; apply Exists.intro; apply Exists.intro; refine ⟨?_, ?_⟩; (focus (first | (go_simp; done) | (go_simp; rfl))); (clear st; intro b6 w hb st; clear hb))
          | ((with_reducible refine wl_alloc ?_ (fun K hK => ?_)); rfl; refine owp_alloc (o := ⟨some 7, _, _, _, _, _⟩) rfl st ?_; apply Exists.intro; apply Exists.intro; refine ⟨?_, ?_⟩; (focus (first | (go_simp; done) | (go_simp; rfl))); (clear st; intro b7 w hb st; clear hb))
          | ((with_reducible refine wl_store ?_ (fun K hK => ?_)); rfl; refine owp_store rfl st ?_; apply Exists.intro; apply Exists.intro; refine ⟨?_, ?_, ?_⟩; (focus (go_simp; try rfl)); (focus (go_simp; try rfl)); (first | (with_reducible refine ⟨0, _, _, _, _, get0, rfl, rfl, ?_, ?_, ?_, ?_⟩) | (with_reducible refine ⟨1, _, _, _, _, get1, rfl, rfl, ?_, ?_, ?_, ?_⟩) | (with_reducible refine ⟨2, _, _, _, _, get2, rfl, rfl, ?_, ?_, ?_, ?_⟩) | (with_reducible refine ⟨3, _, _, _, _, get3, rfl, rfl, ?_, ?_, ?_, ?_⟩) | (with_reducible refine ⟨4, _, _, _, _, get4, rfl, rfl, ?_, ?_, ?_, ?_⟩) | (with_reducible refine ⟨5, _, _, _, _, get5, rfl, rfl, ?_, ?_, ?_, ?_⟩) | (with_reducible refine ⟨6, _, _, _, _, get6, rfl, rfl, ?_, ?_, ?_, ?_⟩) | (with_reducible refine ⟨7, _, _, _, _, get7, rfl, rfl, ?_, ?_, ?_, ?_⟩) | (with_reducible refine ⟨8, _, _, _, _, get8, rfl, rfl, ?_, ?_, ?_, ?_⟩)); (kernel_rfl); (simp [Value.cells]); (rfl); (clear st; intro w st))); (try simp only [nsl, Value.cells, unB] at st); (try clear hc); have hc := st.facts; (try simp only [nfl, nft, Nat.reduceAdd] at hc))
    (try simp only [Exit.inBlock, Exit.then])
    refine bodyPost_cell rfl rfl (st.blk (i := 3) get3) Try.underlying26 rfl (by kernel_rfl) rfl ?_
    have st2 := (st.bare (I := fmI (.mk op2 0 ([], []) none 0 0 [])) (fm_bare _ _ _ _)).keep [0, 1, 2, 7] (by decide) (by simp)
    exact fmMade (.mk op2 0 ([], []) none 0 0 []) rfl (by rw [HR]; rfl) (by simpa [pick] using st2)
  | false =>
    have HR := Lib.hid (HMISS.out (by simp))
    clear HHIT HMISS
    have HOR := Lib.hid (fun fr al W (st : Own fr al W [flI va m ys, fmsI ys] W) => fmOrder_c (fr := fr) (al := al) (W := W) (c := vc) ys st (by omega) (SmL.r (by rw [HY.out]; exact HSM.out)))
    (try simp only [nsl, Value.cells, unB] at st)
    (try clear hc); have hc := st.facts; (try simp only [nfl, nft, Nat.reduceAdd] at hc)
    go_wp2_with ((first
          | ((with_reducible refine wl_alloc ?_ (fun K hK => ?_)); rfl; refine owp_alloc (o := ⟨some 6, _, _, _, _, _⟩) rfl st ?_; apply Exists.intro; apply Exists.intro; refine ⟨?_, ?_⟩; (focus (first | (go_simp; done) | (go_simp; rfl))); (clear st; intro b6 w hb st; clear hb))
          | ((with_reducible refine wl_alloc ?_ (fun K hK => ?_)); rfl; refine owp_alloc (o := ⟨some 7, _, _, _, _, _⟩) rfl st ?_; apply Exists.intro; apply Exists.intro; refine ⟨?_, ?_⟩; (focus (first | (go_simp; done) | (go_simp; rfl))); (clear st; intro b7 w hb st; clear hb))
          | ((with_reducible refine wl_store ?_ (fun K hK => ?_)); rfl; refine owp_store rfl st ?_; apply Exists.intro; apply Exists.intro; refine ⟨?_, ?_, ?_⟩; (focus (go_simp; try rfl)); (focus (go_simp; try rfl)); (first | (with_reducible refine ⟨0, _, _, _, _, get0, rfl, rfl, ?_, ?_, ?_, ?_⟩) | (with_reducible refine ⟨1, _, _, _, _, get1, rfl, rfl, ?_, ?_, ?_, ?_⟩) | (with_reducible refine ⟨2, _, _, _, _, get2, rfl, rfl, ?_, ?_, ?_, ?_⟩) | (with_reducible refine ⟨3, _, _, _, _, get3, rfl, rfl, ?_, ?_, ?_, ?_⟩) | (with_reducible refine ⟨4, _, _, _, _, get4, rfl, rfl, ?_, ?_, ?_, ?_⟩) | (with_reducible refine ⟨5, _, _, _, _, get5, rfl, rfl, ?_, ?_, ?_, ?_⟩) | (with_reducible refine ⟨6, _, _, _, _, get6, rfl, rfl, ?_, ?_, ?_, ?_⟩) | (with_reducible refine ⟨7, _, _, _, _, get7, rfl, rfl, ?_, ?_, ?_, ?_⟩) | (with_reducible refine ⟨8, _, _, _, _, get8, rfl, rfl, ?_, ?_, ?_, ?_⟩)); (kernel_rfl); (simp [Value.cells]); (rfl); (clear st; intro w st))); (try simp only [nsl, Value.cells, unB] at st); (try clear hc); have hc := st.facts; (try simp only [nfl, nft, Nat.reduceAdd] at hc))
    obtain ⟨fr', al', st', back⟩ := st.sub [5, 6] (by decide) (by simp)
    (try simp only [nsl, Value.cells, unB] at st')
    refine (HOR.out _ _ _ st').mono ?_
    clear st'
    rintro en w ⟨va2, vc2, zs, rfl, hz, st'⟩
    replace st := back _ _ (by simp) st'
    clear back st'
    (try simp only [nsl, Value.cells, unB] at st)
    (try clear hc); have hc := st.facts; (try simp only [nfl, nft, Nat.reduceAdd] at hc)
    have HZ := Lib.hid (sorted_is hz)
    clear hz
    go_wp2_with fail
    obtain ⟨fr', al', st', back⟩ := st.sub [7, 8] (by decide) (by simp)
    (try simp only [nsl, Value.cells, unB] at st')
    refine (compactFm_c zs zs (fun x hx => hx) st' (by omega)).mono ?_
    clear st'
    rintro en w ⟨m2, rfl, st'⟩
    replace st := back _ _ (by simp) st'
    clear back st'
    (try simp only [nsl, Value.cells, unB] at st)
    (try clear hc); have hc := st.facts; (try simp only [nfl, nft, Nat.reduceAdd] at hc)
    have HQ : Hid ((cmS zs).map Fm.strip = cmF (sSort wrF fl)) := Lib.hid (by rw [cmS_map, HZ.out, HY.out])
    have HSUB := Lib.hid (cmS_sub zs)
    generalize cmS zs = qs at *
    have hm2 := st.rowLen (i := 7) get7
    have HM2 := Lib.hid hm2
    have hm64 : m2 ≤ 64 := by
      have h1 := HCN.out
      rw [← HQ.out, List.length_map] at h1
      omega
    clear hm2
    have h64 : ¬ (64 : Int) < (m2 : Int) := by omega
    by_cases h1 : m2 = 1
    · subst h1
      obtain ⟨x, rfl⟩ : ∃ x, qs = [x] := List.length_eq_one_iff.1 HM2.out.symm
      obtain ⟨g, cap', hv, hcap, _⟩ := st.rowAt (i := 7) get7 (by omega)
      injection hv with hv1 hv2 hv3
      subst hv1 hv3
      have HXM : Hid (x ∈ zs) := Lib.hid (HSUB.out.subset (by simp))
      have HS : Hid (x.strip = rs) := Lib.hid (by rw [HR.out, ← HQ.out]; rfl)
      obtain ⟨op', k, ⟨o, d⟩, fa, fn, fc, kids⟩ := x
      have hU := fm_cells (zs := [Fm.mk op' k (o, d) fa fn fc kids]) (j := 0) rfl
      have r0 := st.rowC (i := 7) get7 _ _ hU.1
      have r1 := st.rowC (i := 7) get7 _ _ hU.2.1
      have r2 := st.rowC (i := 7) get7 _ _ hU.2.2.1
      have r3 := st.rowC (i := 7) get7 _ _ hU.2.2.2.1
      have r4 := st.rowC (i := 7) get7 _ _ hU.2.2.2.2
      simp only [Nat.zero_mul, Nat.zero_add] at r0 r1 r2 r3 r4
      clear hU hcap
      (try simp only [nsl, Value.cells, unB] at st)
      (try clear hc); have hc := st.facts; (try simp only [nfl, nft, Nat.reduceAdd] at hc)
      go_wp2_with ((first
            | ((with_reducible refine wl_alloc ?_ (fun K hK => ?_)); rfl; refine owp_alloc (o := ⟨some 6, _, _, _, _, _⟩) rfl st ?_; apply Exists.intro; apply Exists.intro; refine ⟨?_, ?_⟩; (focus (first | (go_simp; done) | (go_simp; rfl))); (clear st; intro b6 w hb st; clear hb))
            | ((with_reducible refine wl_alloc ?_ (fun K hK => ?_)); rfl; refine owp_alloc (o := ⟨some 7, _, _, _, _, _⟩) rfl st ?_; apply Exists.intro; apply Exists.intro; refine ⟨?_, ?_⟩; (focus (first | (go_simp; done) | (go_simp; rfl))); (clear st; intro b7 w hb st; clear hb))
            | ((with_reducible refine wl_store ?_ (fun K hK => ?_)); rfl; refine owp_store rfl st ?_; apply Exists.intro; apply Exists.intro; refine ⟨?_, ?_, ?_⟩; (focus (go_simp; try rfl)); (focus (go_simp; try rfl)); (first | (with_reducible refine ⟨0, _, _, _, _, get0, rfl, rfl, ?_, ?_, ?_, ?_⟩) | (with_reducible refine ⟨1, _, _, _, _, get1, rfl, rfl, ?_, ?_, ?_, ?_⟩) | (with_reducible refine ⟨2, _, _, _, _, get2, rfl, rfl, ?_, ?_, ?_, ?_⟩) | (with_reducible refine ⟨3, _, _, _, _, get3, rfl, rfl, ?_, ?_, ?_, ?_⟩) | (with_reducible refine ⟨4, _, _, _, _, get4, rfl, rfl, ?_, ?_, ?_, ?_⟩) | (with_reducible refine ⟨5, _, _, _, _, get5, rfl, rfl, ?_, ?_, ?_, ?_⟩) | (with_reducible refine ⟨6, _, _, _, _, get6, rfl, rfl, ?_, ?_, ?_, ?_⟩) | (with_reducible refine ⟨7, _, _, _, _, get7, rfl, rfl, ?_, ?_, ?_, ?_⟩) | (with_reducible refine ⟨8, _, _, _, _, get8, rfl, rfl, ?_, ?_, ?_, ?_⟩)); (kernel_rfl); (simp [Value.cells]); (rfl); (clear st; intro w st))); (try simp only [nsl, Value.cells, unB] at st); (try clear hc); have hc := st.facts; (try simp only [nfl, nft, Nat.reduceAdd] at hc))
      (try simp only [Exit.inBlock, Exit.then])
      refine bodyPost_cell rfl rfl (st.blk (i := 3) get3) Try.underlying26 rfl (by kernel_rfl) rfl ?_
      have st2 := (st.fmOf (i := 8) get8 HXM.out).keep [0, 1, 2, 9] (by decide) (by simp)
      exact fmMade (.mk op' k (o, d) fa fn fc kids) rfl HS.out (by simpa [pick] using st2)
    · have h1b : ((m2 : Int) == 1) = false := by simp; omega
      have h1i : ¬ (m2 : Int) = 1 := by omega
      obtain ⟨hcap, _⟩ := rowFl' (α := Fm) st (i := 7) get7
      have HCAP := Lib.hid hcap
      clear hcap
      replace st := st.rowToFl (α := Fm) (i := 7) get7
      simp only [List.set] at st
      replace st := st.fmsSub (i := 8) (m := qs) get8 (fun x hx => HSUB.out.subset hx)
      simp only [List.cons_append, List.nil_append] at st
      replace st := st.mkFm (i := 7) (j := 9) get7 get9 op 0 ([], []) vc2 HCAP.out
      simp only [List.cons_append, List.nil_append] at st
      have HS : Hid ((Fm.mk op 0 ([], []) va2 m2 vc2 qs).strip = rs) := Lib.hid (by
        rw [strip_mk, HQ.out, HR.out, one1_ne]
        rw [← HQ.out, List.length_map]
        have := HM2.out; omega)
      (try simp only [nsl, Value.cells, unB] at st)
      (try clear hc); have hc := st.facts; (try simp only [nfl, nft, Nat.reduceAdd] at hc)
      go_wp2_with ((first
            | ((with_reducible refine wl_alloc ?_ (fun K hK => ?_)); rfl; refine owp_alloc (o := ⟨some 6, _, _, _, _, _⟩) rfl st ?_; apply Exists.intro; apply Exists.intro; refine ⟨?_, ?_⟩; (focus (first | (go_simp; done) | (go_simp; rfl))); (clear st; intro b6 w hb st; clear hb))
            | ((with_reducible refine wl_alloc ?_ (fun K hK => ?_)); rfl; refine owp_alloc (o := ⟨some 7, _, _, _, _, _⟩) rfl st ?_; apply Exists.intro; apply Exists.intro; refine ⟨?_, ?_⟩; (focus (first | (go_simp; done) | (go_simp; rfl))); (clear st; intro b7 w hb st; clear hb))
            | ((with_reducible refine wl_store ?_ (fun K hK => ?_)); rfl; refine owp_store rfl st ?_; apply Exists.intro; apply Exists.intro; refine ⟨?_, ?_, ?_⟩; (focus (go_simp; try rfl)); (focus (go_simp; try rfl)); (first | (with_reducible refine ⟨0, _, _, _, _, get0, rfl, rfl, ?_, ?_, ?_, ?_⟩) | (with_reducible refine ⟨1, _, _, _, _, get1, rfl, rfl, ?_, ?_, ?_, ?_⟩) | (with_reducible refine ⟨2, _, _, _, _, get2, rfl, rfl, ?_, ?_, ?_, ?_⟩) | (with_reducible refine ⟨3, _, _, _, _, get3, rfl, rfl, ?_, ?_, ?_, ?_⟩) | (with_reducible refine ⟨4, _, _, _, _, get4, rfl, rfl, ?_, ?_, ?_, ?_⟩) | (with_reducible refine ⟨5, _, _, _, _, get5, rfl, rfl, ?_, ?_, ?_, ?_⟩) | (with_reducible refine ⟨6, _, _, _, _, get6, rfl, rfl, ?_, ?_, ?_, ?_⟩) | (with_reducible refine ⟨7, _, _, _, _, get7, rfl, rfl, ?_, ?_, ?_, ?_⟩) | (with_reducible refine ⟨8, _, _, _, _, get8, rfl, rfl, ?_, ?_, ?_, ?_⟩)); (kernel_rfl); (simp [Value.cells]); (rfl); (clear st; intro w st))); (try simp only [nsl, Value.cells, unB] at st); (try clear hc); have hc := st.facts; (try simp only [nfl, nft, Nat.reduceAdd] at hc))
      (try simp only [Exit.inBlock, Exit.then])
      refine bodyPost_cell rfl rfl (st.blk (i := 3) get3) Try.underlying26 rfl (by kernel_rfl) rfl ?_
      have st2 := st.keep [0, 1, 2, 10] (by decide) (by simp)
      exact fmMade (.mk op 0 ([], []) va2 m2 vc2 qs) rfl HS.out (by simpa [pick] using st2)
end Go.Proofs.Ythjaopojlhdjpaa
