/- The law TagMakes: for every input its call returns true and leaves all that was there. -/
import Derived.Test.YtabadgpebhiigaaTagE
namespace Go.Proofs.Ytabadgpebhiigaa
open Go Go.RowKit
set_option maxRecDepth 100000 in
set_option maxHeartbeats 2000000 in
theorem tagMakes_ok
    (a1 : Option Addr) (n1 c1 : Nat) (k : List UInt8) (a2 : Option Addr) (n2 c2 : Nat) (b : List UInt8) (a3 : Option Addr) (n3 c3 : Nat) (t : List UInt8) (w : World)
    (hc1 : n1 ≤ c1 ∧ c1 ≤ maxLen) (h1 : By w a1 n1 k) (hc2 : n2 ≤ c2 ∧ c2 ≤ maxLen) (h2 : By w a2 n2 b) (hc3 : n3 ≤ c3 ∧ c3 ≤ maxLen) (h3 : By w a3 n3 t) (hn1 : n1 ≤ 100) (hn2 : n2 ≤ 2000) (hn3 : n3 ≤ 100) (hr : rightB n1 = true) :
    Calls Try.prog 3 #[.slice a1 n1 c1, .slice a2 n2 c2, .slice a3 n3 c3] w fun e w' => e = .returned (.bool true) ∧ Ext w w' := by
  have hr' : 1 ≤ n1 ∧ n1 ≤ 32 := by unfold rightB at hr; simpa using hr
  have HC := Lib.hid (And.intro hc1 (And.intro hc2 hc3)); clear hc1 hc2 hc3
  have HR := Lib.hid hr; clear hr
  have H1 := Lib.hid h1; clear h1
  have H2 := Lib.hid h2; clear h2
  have H3 := Lib.hid h3; clear h3
  go_enter Try.func3, Try.ntmps3
  go_wp2_with fail
  refine (first02_any _).mono ?_
  rintro e w1 ⟨rfl, hx⟩
  have X1 := Lib.hid (H1.out.ext hx)
  have X2 := Lib.hid (H2.out.ext hx)
  have X3 := Lib.hid (H3.out.ext hx)
  have cv1 := conv_bs (P := Try.prog) (src := 22) (dst := 9) (c := c1) Try.underlying22 Try.underlying5 Try.underlying9 X1.out
  have cv2 := conv_bs (P := Try.prog) (src := 22) (dst := 9) (c := c2) Try.underlying22 Try.underlying5 Try.underlying9 X2.out
  unfold S at cv1 cv2
  have HX := Lib.hid hx; clear hx H1 H2 H3
  go_wp2_with fail
  clear cv1 cv2
  refine (refMake_any k b _ (by have := X1.out.1; omega) (by have := X2.out.1; omega)).mono ?_
  rintro e w2 ⟨rfl, hx⟩
  replace X1 := Lib.hid (X1.out.ext hx)
  replace X2 := Lib.hid (X2.out.ext hx)
  replace X3 := Lib.hid (X3.out.ext hx)
  replace HX := Lib.hid (HX.out.trans hx)
  clear hx
  unfold S
  go_wp2_with fail
  have happ := ba_append
  have hkl : k.length ≤ 100 := by have := X1.out.1; omega
  have hbl : b.length ≤ 2000 := by have := X2.out.1; omega
  have htl : t.length ≤ 100 := by have := X3.out.1; omega
  refine Rg.wp_region_sp (Rel := Ext) #[0, 0, 0, 7, 15, 0, 32, 0, 128, 480, 0, 1024, 4064, 8191, 16383, 32767, 65535, 65535, 262143, 524287, 65535, 2097151, 4194303, 8388607, 16777215, 16777215, 16777215, 134217727, 16777215, 536870911, 1073741823, 2147483647, 1073741823, 8589934591, 17179869183, 34359738367, 68719476735, 137438953471, 274877906943, 274877906943, 274877906943, 1374389534719, 4398046511103, 274877906943, 17592186044415, 35184372088831, 70368744177663]
    [(3, ⟨fun v w => IsSl 1 sliceR w v [k, b, t], fun _ _ _ hx h => h.ext hx⟩), (4, .val (.int .u64 (fnv fnv0 (k ++ (b ++ t))))), (6, .val (.string ⟨k.toArray⟩)), (8, .val (.string ⟨b.toArray⟩)), (11, .val (.string ⟨t.toArray⟩)), (13, .val (.int .u64 (fnv fnv0 (k ++ (b ++ t))))), (18, ⟨fun v w => IsBy w v (tagOf k b), fun _ _ _ hx h => h.ext hx⟩), (19, .val (.string ⟨(tagOf k b).toArray⟩)), (27, .val (.bool (t == tagOf k b))), (31, .val (.string ⟨t.toArray⟩)), (41, ⟨fun v w => IsBy w v (tagOf k b), fun _ _ _ hx h => h.ext hx⟩), (42, .val (.bool true))]
    (by kernel_rfl) (by kernel_rfl) (by kernel_rfl) Ext.refl (fun _ _ _ => Ext.trans) ?_
  repeat (first
    | (refine Rg.wpT_skip rfl ?_; simp only [Act.put, List.setIfInBounds_toArray, List.set])
    | (refine Rg.wpT_pure rfl rfl ?_; apply Exists.intro; refine ⟨fun w => ?_, ?_⟩; (first | (go_simp; done) | (go_simp; first | rfl | (rw [if_neg] <;> first | rfl | omega))); simp only [Act.put, List.setIfInBounds_toArray, List.set]))
  -- 3
  refine Rg.wpT_some rfl rfl (fun w' hR hF => ?_) ?_
  · skip
    have hw : Ext w2 w' := ((Ext.refl w2).drew).trans hR
    unfold Rg.relAt
    go_simp
    have hx := Ext.new w' (Obj.cells #[Value.slice a1 n1 c1, Value.slice a2 n2 c2, Value.slice a3 n3 c3] 22)
    exact ⟨hx, Arr.isSl (Bys.lit _ [_, _, _] _ _ [k, b, t] _ _ rfl rfl ⟨(X1.out.ext (hw.trans hx)).isSl HC.out.1.1 HC.out.1.2, (X2.out.ext (hw.trans hx)).isSl HC.out.2.1.1 HC.out.2.1.2, (X3.out.ext (hw.trans hx)).isSl HC.out.2.2.1 HC.out.2.2.2, trivial⟩) (Nat.le_refl _) (by simp [maxLen])⟩
  rintro v ⟨_, _, a4, n4, c4, rfl, _, _, _⟩
  simp only [Act.put, List.setIfInBounds_toArray, List.set]
  repeat (first
    | (refine Rg.wpT_skip rfl ?_; simp only [Act.put, List.setIfInBounds_toArray, List.set])
    | (refine Rg.wpT_pure rfl rfl ?_; apply Exists.intro; refine ⟨fun w => ?_, ?_⟩; (first | (go_simp; done) | (go_simp; first | rfl | (rw [if_neg] <;> first | rfl | omega))); simp only [Act.put, List.setIfInBounds_toArray, List.set]))
  -- 4
  refine Rg.wpT_some rfl rfl (fun w' hR hF => ?_) ?_
  · skip
    have h3 := IsSl.arr (Rg.upd_at (hF 3 rfl))
    unfold Rg.relAt
    go_simp
    refine (sum_any _ _ _ [k, b, t] _ (by omega) h3.2).mono ?_
    rintro e w'' ⟨rfl, rfl⟩
    exact ⟨_, rfl, Ext.refl _, by simp [Rg.Sp.val]⟩
  rintro v ⟨_, _, rfl⟩
  simp only [Act.put, List.setIfInBounds_toArray, List.set]
  repeat (first
    | (refine Rg.wpT_skip rfl ?_; simp only [Act.put, List.setIfInBounds_toArray, List.set])
    | (refine Rg.wpT_pure rfl rfl ?_; apply Exists.intro; refine ⟨fun w => ?_, ?_⟩; (first | (go_simp; done) | (go_simp; first | rfl | (rw [if_neg] <;> first | rfl | omega))); simp only [Act.put, List.setIfInBounds_toArray, List.set]))
  -- 6
  refine Rg.wpT_some rfl rfl (fun w' hR hF => ?_) ?_
  · skip
    have hw : Ext w2 w' := ((Ext.refl w2).drew).trans hR
    have cv := conv_bs (P := Try.prog) (src := 22) (dst := 9) (c := c1) Try.underlying22 Try.underlying5 Try.underlying9 (X1.out.ext hw)
    unfold S at cv
    unfold Rg.relAt
    go_simp
    all_goals exact ⟨Ext.refl _, rfl⟩
  rintro v ⟨_, _, rfl⟩
  simp only [Act.put, List.setIfInBounds_toArray, List.set]
  repeat (first
    | (refine Rg.wpT_skip rfl ?_; simp only [Act.put, List.setIfInBounds_toArray, List.set])
    | (refine Rg.wpT_pure rfl rfl ?_; apply Exists.intro; refine ⟨fun w => ?_, ?_⟩; (first | (go_simp; done) | (go_simp; first | rfl | (rw [if_neg] <;> first | rfl | omega))); simp only [Act.put, List.setIfInBounds_toArray, List.set]))
  -- 8
  refine Rg.wpT_some rfl rfl (fun w' hR hF => ?_) ?_
  · skip
    have hw : Ext w2 w' := ((Ext.refl w2).drew).trans hR
    have cv := conv_bs (P := Try.prog) (src := 22) (dst := 9) (c := c2) Try.underlying22 Try.underlying5 Try.underlying9 (X2.out.ext hw)
    unfold S at cv
    unfold Rg.relAt
    go_simp
    all_goals exact ⟨Ext.refl _, rfl⟩
  rintro v ⟨_, _, rfl⟩
  simp only [Act.put, List.setIfInBounds_toArray, List.set]
  repeat (first
    | (refine Rg.wpT_skip rfl ?_; simp only [Act.put, List.setIfInBounds_toArray, List.set])
    | (refine Rg.wpT_pure rfl rfl ?_; apply Exists.intro; refine ⟨fun w => ?_, ?_⟩; (first | (go_simp; done) | (go_simp; first | rfl | (rw [if_neg] <;> first | rfl | omega))); simp only [Act.put, List.setIfInBounds_toArray, List.set]))
  -- 11
  refine Rg.wpT_some rfl rfl (fun w' hR hF => ?_) ?_
  · skip
    have hw : Ext w2 w' := ((Ext.refl w2).drew).trans hR
    have cv := conv_bs (P := Try.prog) (src := 22) (dst := 9) (c := c3) Try.underlying22 Try.underlying5 Try.underlying9 (X3.out.ext hw)
    unfold S at cv
    unfold Rg.relAt
    go_simp
    all_goals exact ⟨Ext.refl _, rfl⟩
  rintro v ⟨_, _, rfl⟩
  simp only [Act.put, List.setIfInBounds_toArray, List.set]
  repeat (first
    | (refine Rg.wpT_skip rfl ?_; simp only [Act.put, List.setIfInBounds_toArray, List.set])
    | (refine Rg.wpT_pure rfl rfl ?_; apply Exists.intro; refine ⟨fun w => ?_, ?_⟩; (first | (go_simp; done) | (go_simp; first | rfl | (rw [if_neg] <;> first | rfl | omega))); simp only [Act.put, List.setIfInBounds_toArray, List.set]))
  -- 13
  refine Rg.wpT_some rfl rfl (fun w' hR hF => ?_) ?_
  · skip
    unfold Rg.relAt
    go_simp
    refine (refSum_any (k ++ (b ++ t)) _ (by simp [maxLen]; omega)).mono ?_
    rintro e w'' ⟨rfl, rfl⟩
    exact ⟨_, rfl, Ext.refl _, rfl⟩
  rintro v ⟨_, _, rfl⟩
  simp only [Act.put, List.setIfInBounds_toArray, List.set]
  repeat (first
    | (refine Rg.wpT_skip rfl ?_; simp only [Act.put, List.setIfInBounds_toArray, List.set])
    | (refine Rg.wpT_pure rfl rfl ?_; apply Exists.intro; refine ⟨fun w => ?_, ?_⟩; (first | (go_simp; done) | (go_simp; first | rfl | (rw [if_neg] <;> first | rfl | omega))); simp only [Act.put, List.setIfInBounds_toArray, List.set]))
  -- 18
  refine Rg.wpT_some rfl rfl (fun w' hR hF => ?_) ?_
  · skip
    have hw : Ext w2 w' := ((Ext.refl w2).drew).trans hR
    unfold Rg.relAt
    go_simp
    refine (make_any _ _ _ k _ _ _ b _ HC.out.1 (X1.out.ext hw) HC.out.2.1 (X2.out.ext hw) HR.out).mono ?_
    rintro e w'' ⟨v, rfl, hx, hv⟩
    exact ⟨_, rfl, hx, hv⟩
  rintro v ⟨_, _, a5, n5, c5, rfl, _, _, _⟩
  simp only [Act.put, List.setIfInBounds_toArray, List.set]
  repeat (first
    | (refine Rg.wpT_skip rfl ?_; simp only [Act.put, List.setIfInBounds_toArray, List.set])
    | (refine Rg.wpT_pure rfl rfl ?_; apply Exists.intro; refine ⟨fun w => ?_, ?_⟩; (first | (go_simp; done) | (go_simp; first | rfl | (rw [if_neg] <;> first | rfl | omega))); simp only [Act.put, List.setIfInBounds_toArray, List.set]))
  -- 19
  refine Rg.wpT_some rfl rfl (fun w' hR hF => ?_) ?_
  · skip
    have hw : Ext w2 w' := ((Ext.refl w2).drew).trans hR
    have cv := conv_bs (P := Try.prog) (src := 22) (dst := 9) (c := c5) Try.underlying22 Try.underlying5 Try.underlying9 (IsSl.arr (Rg.upd_at (hF 18 rfl))).2
    unfold S at cv
    unfold Rg.relAt
    go_simp
    all_goals exact ⟨Ext.refl _, rfl⟩
  rintro v ⟨_, _, rfl⟩
  simp only [Act.put, List.setIfInBounds_toArray, List.set]
  repeat (first
    | (refine Rg.wpT_skip rfl ?_; simp only [Act.put, List.setIfInBounds_toArray, List.set])
    | (refine Rg.wpT_pure rfl rfl ?_; apply Exists.intro; refine ⟨fun w => ?_, ?_⟩; (first | (go_simp; done) | (go_simp; first | rfl | (rw [if_neg] <;> first | rfl | omega))); simp only [Act.put, List.setIfInBounds_toArray, List.set]))
  -- 27
  refine Rg.wpT_some rfl rfl (fun w' hR hF => ?_) ?_
  · skip
    have hw : Ext w2 w' := ((Ext.refl w2).drew).trans hR
    unfold Rg.relAt
    go_simp
    refine (good_any _ _ _ k _ _ _ b _ _ _ t _ HC.out.1 (X1.out.ext hw) HC.out.2.1 (X2.out.ext hw) HC.out.2.2 (X3.out.ext hw)).mono ?_
    rintro e w'' ⟨rfl, hx⟩
    exact ⟨_, rfl, hx, by rw [HR.out, Bool.true_and, BEq.comm]; rfl⟩
  rintro v ⟨_, _, rfl⟩
  simp only [Act.put, List.setIfInBounds_toArray, List.set]
  repeat (first
    | (refine Rg.wpT_skip rfl ?_; simp only [Act.put, List.setIfInBounds_toArray, List.set])
    | (refine Rg.wpT_pure rfl rfl ?_; apply Exists.intro; refine ⟨fun w => ?_, ?_⟩; (first | (go_simp; done) | (go_simp; first | rfl | (rw [if_neg] <;> first | rfl | omega))); simp only [Act.put, List.setIfInBounds_toArray, List.set]))
  -- 31
  refine Rg.wpT_some rfl rfl (fun w' hR hF => ?_) ?_
  · skip
    have hw : Ext w2 w' := ((Ext.refl w2).drew).trans hR
    have cv := conv_bs (P := Try.prog) (src := 22) (dst := 9) (c := c3) Try.underlying22 Try.underlying5 Try.underlying9 (X3.out.ext hw)
    unfold S at cv
    unfold Rg.relAt
    go_simp
    all_goals exact ⟨Ext.refl _, rfl⟩
  rintro v ⟨_, _, rfl⟩
  simp only [Act.put, List.setIfInBounds_toArray, List.set]
  repeat (first
    | (refine Rg.wpT_skip rfl ?_; simp only [Act.put, List.setIfInBounds_toArray, List.set])
    | (refine Rg.wpT_pure rfl rfl ?_; apply Exists.intro; refine ⟨fun w => ?_, ?_⟩; (first | (go_simp; done) | (go_simp; first | rfl | (rw [if_neg] <;> first | rfl | omega))); simp only [Act.put, List.setIfInBounds_toArray, List.set]))
  -- 41
  refine Rg.wpT_some rfl rfl (fun w' hR hF => ?_) ?_
  · skip
    obtain ⟨v, w'', hr, hv, hx⟩ := conv_sb (P := Try.prog) (w := w') (src := 9) (dst := 22) (e := 5) (tagOf k b) Try.underlying9 Try.underlying22 Try.underlying5 (by rw [tagOf_length]; simp [maxLen])
    unfold S at hr
    unfold Rg.relAt
    go_simp
    all_goals exact ⟨hx, hv⟩
  rintro v ⟨_, _, a6, n6, c6, rfl, _, _, _⟩
  simp only [Act.put, List.setIfInBounds_toArray, List.set]
  repeat (first
    | (refine Rg.wpT_skip rfl ?_; simp only [Act.put, List.setIfInBounds_toArray, List.set])
    | (refine Rg.wpT_pure rfl rfl ?_; apply Exists.intro; refine ⟨fun w => ?_, ?_⟩; (first | (go_simp; done) | (go_simp; first | rfl | (rw [if_neg] <;> first | rfl | omega))); simp only [Act.put, List.setIfInBounds_toArray, List.set]))
  -- 42
  refine Rg.wpT_some rfl rfl (fun w' hR hF => ?_) ?_
  · skip
    have hw : Ext w2 w' := ((Ext.refl w2).drew).trans hR
    have hv := IsSl.arr (Rg.upd_at (hF 41 rfl))
    unfold Rg.relAt
    go_simp
    refine (good_any _ _ _ k _ _ _ b _ _ _ (tagOf k b) _ HC.out.1 (X1.out.ext hw) HC.out.2.1 (X2.out.ext hw) hv.1 hv.2).mono ?_
    rintro e w'' ⟨rfl, hx⟩
    exact ⟨_, rfl, hx, by rw [HR.out]; simp [Rg.Sp.val]⟩
  rintro v ⟨_, _, rfl⟩
  simp only [Act.put, List.setIfInBounds_toArray, List.set]
  repeat (first
    | (refine Rg.wpT_skip rfl ?_; simp only [Act.put, List.setIfInBounds_toArray, List.set])
    | (refine Rg.wpT_pure rfl rfl ?_; apply Exists.intro; refine ⟨fun w => ?_, ?_⟩; (first | (go_simp; done) | (go_simp; first | rfl | (rw [if_neg] <;> first | rfl | omega))); simp only [Act.put, List.setIfInBounds_toArray, List.set]))
  refine Rg.wpT_nil fun w' hR hF => ?_
  have hw : Ext w2 w' := ((Ext.refl w2).drew).trans hR
  clear hF hR
  go_wp2
  go_ret
  exact ⟨rfl, HX.out.trans hw⟩
end Go.Proofs.Ytabadgpebhiigaa
