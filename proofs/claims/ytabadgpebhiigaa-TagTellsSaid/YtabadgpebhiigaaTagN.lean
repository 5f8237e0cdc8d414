/- The law TagTells. -/
import Derived.Test.YtabadgpebhiigaaTagM
import Derived.Test.YtabadgpebhiigaaOwn
import Derived.StillTailTactics
namespace Go.Proofs.Ytabadgpebhiigaa
open Go Go.RowKit
theorem tagOf_set (k b : List UInt8) (m : Nat) (t1 t0 : UInt8) (hm : m < b.length) (h0 : b[m] = t0) (h : tagOf k (b.set m t1) = tagOf k b) : t1 = t0 := by
  have e1 : b = b.take m ++ t0 :: b.drop (m + 1) := by rw [← h0, ← List.drop_eq_getElem_cons hm, List.take_append_drop]
  have e2 : b.set m t1 = b.take m ++ t1 :: b.drop (m + 1) := by rw [List.set_eq_take_append_cons_drop, if_pos hm]
  rw [e2] at h
  have h' : tagOf k (b.take m ++ t1 :: b.drop (m + 1)) = tagOf k (b.take m ++ t0 :: b.drop (m + 1)) := by rw [← e1]; exact h
  exact tagOf_one k _ _ _ _ h'
theorem xor_ne (t : UInt8) (d : Nat) (h0 : 0 < d) (h1 : d < 256) : UInt8.ofNat (t.toNat ^^^ d) ≠ t := fun h => by
  have h2 : t.toNat ^^^ d < 256 := Nat.xor_lt_two_pow (n := 8) t.toNat_lt (by omega)
  have h3 := congrArg UInt8.toNat h
  simp [Nat.mod_eq_of_lt h2] at h3
  have h4 : d = 0 := by
    have := congrArg (t.toNat ^^^ ·) h3
    have h5 : d % 256 = 0 := by simpa [← Nat.xor_assoc] using this
    omega
  omega
set_option maxRecDepth 100000 in
set_option maxHeartbeats 2000000 in
theorem tagTells_main (a1 : Option Addr) (n1 c1 : Nat) (k : List UInt8) (a2 : Option Addr) (n2 c2 : Nat) (b : List UInt8) (x y z : Int) (w : World)
    (hc1 : n1 ≤ c1 ∧ c1 ≤ maxLen) (h1 : By w a1 n1 k) (hc2 : n2 ≤ c2 ∧ c2 ≤ maxLen) (h2 : By w a2 n2 b) (hx : 0 ≤ x ∧ x ≤ 255) (hy : 0 ≤ y ∧ y ≤ 255) (hz : 0 ≤ z ∧ z ≤ 255)
    (hn1 : 1 ≤ n1) (hn1' : n1 ≤ 32) (hn2 : n2 ≤ 2000) :
    Calls Try.prog 4 #[.slice a1 n1 c1, .slice a2 n2 c2, .agg #[.int .u8 x, .int .u8 y, .int .u8 z]] w fun e w' => e = .returned (.bool true) ∧ Ext w w' := by
  have HC := Lib.hid (And.intro hc1 hc2); clear hc1 hc2
  have HR : Hid (rightB n1 = true) := Lib.hid (by unfold rightB; simp; omega)
  have H1 := Lib.hid h1; clear h1
  have H2 := Lib.hid h2; clear h2
  go_enter Try.func4, Try.ntmps4
  go_wp2_with fail
  refine (first02_any _).mono ?_
  rintro e w1 ⟨rfl, hx1⟩
  have hx0 := Ext.new w (.cells #[.int .u8 x, .int .u8 y, .int .u8 z] 30)
  have N1 : Hid (Blk w1 w.heap.size [.int .u8 x, .int .u8 y, .int .u8 z]) := Lib.hid ((Blk.lit w [_, _, _] _ _ rfl).ext hx1)
  have X1 := Lib.hid (H1.out.ext (hx0.trans hx1))
  have X2 := Lib.hid (H2.out.ext (hx0.trans hx1))
  have HX := Lib.hid (hx0.trans hx1); clear hx0 hx1 H1 H2
  go_wp2_with fail
  refine (make_any _ _ _ k _ _ _ b _ HC.out.1 X1.out HC.out.2 X2.out HR.out).mono ?_
  rintro e w2 ⟨v, rfl, hx2, a4, n4, c4, rfl, hn4, hc4, h4⟩
  obtain rfl : n4 = 8 := by rw [h4.1, tagOf_length]
  have N2 := Lib.hid (N1.out.ext hx2)
  replace X1 := Lib.hid (X1.out.ext hx2)
  replace X2 := Lib.hid (X2.out.ext hx2)
  replace HX := Lib.hid (HX.out.trans hx2)
  have HC4 := Lib.hid (And.intro hn4 hc4)
  have X4 := Lib.hid h4
  clear hx2 hn4 hc4 h4 N1
  go_wp2_with fail
  refine (good_any _ _ _ k _ _ _ b _ _ _ (tagOf k b) _ HC.out.1 X1.out HC.out.2 X2.out HC4.out X4.out).mono ?_
  rintro e w3 ⟨rfl, hx3⟩
  rw [show (rightB n1 && (tagOf k b == tagOf k b)) = true by rw [HR.out]; simp]
  have N3 := Lib.hid (N2.out.ext hx3)
  replace X1 := Lib.hid (X1.out.ext hx3)
  replace X2 := Lib.hid (X2.out.ext hx3)
  replace X4 := Lib.hid (X4.out.ext hx3)
  replace HX := Lib.hid (HX.out.trans hx3)
  clear hx3 N2
  obtain ⟨i0, hi, hz0, hz1, hz2⟩ := info_parts (P := Try.prog) (e := 5) (z := .int .u8 0) (size := 1) (bytes := 1) (by kernel_rfl)
  have HI := Lib.hid (And.intro hi (And.intro hz0 (And.intro hz1 hz2)))
  clear hi hz0 hz1 hz2
  go_wp2_with (refine wpList_append_any rfl (.tmp 38) (.tmp 39) 22 rfl w3.heap.size 5 i0 (.int .u8 0) 1 1 Try.underlying22 HI.out.1 HI.out.2.1 HI.out.2.2.1 HI.out.2.2.2 rfl (by decide) _ 0 [] rfl (own_empty _ w3.heap.size _ _ rfl (Nat.le_refl _)) _ _ _ ((tagOf k b).map B) rfl (By.flat (X4.out.ext (Ext.new _ _))) (B_one _) ?c1 ?c2 ?c3 ?c4)
  case c1 => simp [maxLen]
  case c2 => omega
  case c3 => simp
  intro v w4 hown hg
  have hx34 : Ext w3 w4 := (Ext.new w3 _).grown hg (fun k hk => by simp [Value.ownBlock] at hk; omega)
  obtain ⟨g, cap, rfl, hgb, hcap, -, hcell, hfree, hset⟩ := own_form hown (by omega)
  have N4 := Lib.hid (N3.out.ext hx34)
  have hle3 : w.heap.size < w3.heap.size := N3.out.lt
  have HX34 := Lib.hid hx34
  clear hx34 hg
  have hn0 : w4.cell? ⟨w.heap.size, 0, none⟩ = some (.int .u8 x) := N4.out.cell 0
  have hn1 : w4.cell? ⟨w.heap.size, 1, none⟩ = some (.int .u8 y) := N4.out.cell 1
  obtain ⟨j, hj⟩ : ∃ j : Nat, x % 8 = (j : Int) := ⟨(x % 8).toNat, by omega⟩
  have hj8 : j < 8 := by omega
  have hjl : j < (tagOf k b).length := by rw [tagOf_length]; exact hj8
  have hu : w4.cell? ⟨g, j, none⟩ = some (.int .u8 ((tagOf k b)[j].toNat : Int)) := by rw [hcell j hj8]; simp [hjl, B]
  have hfu : w4.frozen? ⟨g, j, none⟩ = false := hfree j
  have HS := Lib.hid (hset j); clear hset
  have HO := Lib.hid hown; clear hown hcell hfree
  obtain ⟨t0, ht0⟩ : ∃ t0, (tagOf k b)[j] = t0 := ⟨_, rfl⟩
  rw [ht0] at hu
  have HT := Lib.hid ht0; clear ht0
  have hgl : w.heap.size < g := by omega
  obtain ⟨d, hd⟩ : ∃ d : Nat, y % 255 = (d : Int) := ⟨(y % 255).toNat, by omega⟩
  have hd8 : d < 255 := by omega
  have e1 : x.tmod 8 = (j : Int) := by rw [Int.tmod_eq_emod_of_nonneg hx.1, hj]
  have e2 : y.tmod 255 = (d : Int) := by rw [Int.tmod_eq_emod_of_nonneg hy.1, hd]
  have g1 : (j : Int) < 8 := by omega
  have e3 : IntKind.u8.wrap (1 + (d : Int)) = 1 + (d : Int) := by unfold IntKind.wrap; simp [IntKind.signed, IntKind.bits]; omega
  have hdv : bits .xor .u8 (t0.toNat : Int) (1 + (d : Int)) = ((UInt8.ofNat (t0.toNat ^^^ (1 + d))).toNat : Int) := by
    have h1 := u8_xor_nat t0.toNat (1 + d) t0.toNat_lt (by omega)
    rw [show (((1 + d : Nat) : Int)) = 1 + (d : Int) by omega] at h1
    rw [h1]
    have h2 : t0.toNat ^^^ (1 + d) < 256 := Nat.xor_lt_two_pow (n := 8) t0.toNat_lt (by omega)
    simp [Nat.mod_eq_of_lt h2, Nat.mod_eq_of_lt (show 1 + d < 256 by omega)]
  have hne : UInt8.ofNat (t0.toNat ^^^ (1 + d)) ≠ t0 := xor_ne t0 (1 + d) (by omega) (by omega)
  obtain ⟨t1, ht1⟩ : ∃ t1, UInt8.ofNat (t0.toNat ^^^ (1 + d)) = t1 := ⟨_, rfl⟩
  rw [ht1] at hdv hne
  have HNE := Lib.hid hne
  clear hj hd ht1 hne
  go_wp2_with fail
  go_still_tail 12, (by kernel_rfl)
  change wpList _ _ _ _ _ w4.drew
  go_wp2_with fail
  have hxw : Ext w3 (w4.setCell ⟨g, j, none⟩ (.int .u8 (t1.toNat : Int))) := HX34.out.setCell hgb _
  have hbu := own_by (xs := (tagOf k b).set j t1) (by rw [List.map_set]; exact HS.out (.int .u8 (t1.toNat : Int)) hj8)
  refine (good_any _ _ _ k _ _ _ b _ _ _ ((tagOf k b).set j t1) _ HC.out.1 (X1.out.ext hxw.drew) HC.out.2 (X2.out.ext hxw.drew) hcap (IsSl.arr (hbu.ext (Ext.refl _).drew)).2).mono ?_
  rintro e w5 ⟨rfl, hx5⟩
  have hfalse : (rightB n1 && tagOf k b == (tagOf k b).set j t1) = false := by
    rw [HR.out, Bool.true_and, beq_eq_false_iff_ne]
    intro h
    have := congrArg (·[j]?) h
    simp [hjl, HT.out] at this
    exact HNE.out this.symm
  rw [hfalse]
  have hx35 : Ext w3 w5 := hxw.drew.trans hx5
  have N5 := Lib.hid (N3.out.ext hx35)
  have Y1 := Lib.hid (X1.out.ext hx35)
  have Y2 := Lib.hid (X2.out.ext hx35)
  have Y4 := Lib.hid (X4.out.ext hx35)
  have HX5 := Lib.hid (HX.out.trans hx35)
  have hyd : y.tmod 255 = (d : Int) := e2
  clear hxw hbu hx5 hfalse hx35 HO HS hn0 hn1 hu hfu HT HNE hdv X1 X2 X4 N3 N4 HX HX34
  clear hcap hgb hgl
  by_cases hb0 : 0 < n2
  · go_wp2_with (refine wpList_append_any rfl (.tmp 60) (.tmp 61) 22 rfl w5.heap.size 5 i0 (.int .u8 0) 1 1 Try.underlying22 HI.out.1 HI.out.2.1 HI.out.2.2.1 HI.out.2.2.2 rfl (by decide) _ 0 [] rfl (own_empty _ w5.heap.size _ _ rfl (Nat.le_refl _)) _ _ _ (b.map B) rfl (By.flat (Y2.out.ext (Ext.new _ _))) (B_one _) ?d1 ?d2 ?d3 ?d4)
    case d1 => simp [maxLen]; omega
    case d2 => omega
    case d3 => simp
    intro v w6 hown hg
    have hx56 : Ext w5 w6 := (Ext.new w5 _).grown hg (fun k hk => by simp [Value.ownBlock] at hk; omega)
    obtain ⟨g', cap', rfl, hgb, hcap, -, hcell, hfree, hset⟩ := own_form hown (by omega)
    have HX56 := Lib.hid hx56
    have hle5 : w.heap.size < w5.heap.size := N5.out.lt
    have hn1 : w6.cell? ⟨w.heap.size, 1, none⟩ = some (.int .u8 y) := (N5.out.ext hx56).cell 1
    have hn2 : w6.cell? ⟨w.heap.size, 2, none⟩ = some (.int .u8 z) := (N5.out.ext hx56).cell 2
    obtain ⟨m, hm⟩ : ∃ m : Nat, z % (n2 : Int) = (m : Int) := ⟨(z % (n2 : Int)).toNat, by have := Int.emod_nonneg z (show (n2 : Int) ≠ 0 by omega); omega⟩
    have hm8 : m < n2 := by have := Int.emod_lt_of_pos z (show (0 : Int) < n2 by omega); omega
    have hml : m < b.length := by have := Y2.out.1; omega
    have hu : w6.cell? ⟨g', m, none⟩ = some (.int .u8 (b[m].toNat : Int)) := by rw [hcell m hm8]; simp [hml, B]
    have hfu : w6.frozen? ⟨g', m, none⟩ = false := hfree m
    have HS := Lib.hid (hset m); clear hset
    obtain ⟨t0', ht0⟩ : ∃ t0, b[m] = t0 := ⟨_, rfl⟩
    rw [ht0] at hu
    have HT := Lib.hid ht0; clear ht0
    have e4 : z.tmod (n2 : Int) = (m : Int) := by rw [Int.tmod_eq_emod_of_nonneg hz.1, hm]
    have g4 : (m : Int) < n2 := by omega
    have g5 : ¬ n2 = 0 := by omega
    have hdv : bits .xor .u8 (t0'.toNat : Int) (1 + (d : Int)) = ((UInt8.ofNat (t0'.toNat ^^^ (1 + d))).toNat : Int) := by
      have h1 := u8_xor_nat t0'.toNat (1 + d) t0'.toNat_lt (by omega)
      rw [show (((1 + d : Nat) : Int)) = 1 + (d : Int) by omega] at h1
      rw [h1]
      have h2 : t0'.toNat ^^^ (1 + d) < 256 := Nat.xor_lt_two_pow (n := 8) t0'.toNat_lt (by omega)
      simp [Nat.mod_eq_of_lt h2, Nat.mod_eq_of_lt (show 1 + d < 256 by omega)]
    have hne : UInt8.ofNat (t0'.toNat ^^^ (1 + d)) ≠ t0' := xor_ne t0' (1 + d) (by omega) (by omega)
    obtain ⟨t1', ht1⟩ : ∃ t1, UInt8.ofNat (t0'.toNat ^^^ (1 + d)) = t1 := ⟨_, rfl⟩
    rw [ht1] at hdv hne
    have HNE := Lib.hid hne
    have e5 : IntKind.i64.wrap z = z := IntWalk.i64_in _ ⟨by omega, by omega⟩
    clear hm ht1 hne hown hg hx56 hcell hfree
    go_wp2_with fail
    go_still_tail 15, (by kernel_rfl)
    change wpList _ _ _ _ _ w6.drew
    go_wp2_with fail
    have hxw : Ext w5 (w6.setCell ⟨g', m, none⟩ (.int .u8 (t1'.toNat : Int))) := HX56.out.setCell hgb _
    have hbu := own_by (xs := b.set m t1') (by rw [List.map_set]; exact HS.out (.int .u8 (t1'.toNat : Int)) hm8)
    refine (good_any _ _ _ k _ _ _ (b.set m t1') _ _ _ (tagOf k b) _ HC.out.1 (Y1.out.ext hxw.drew) hcap (IsSl.arr (hbu.ext (Ext.refl _).drew)).2 HC4.out (Y4.out.ext hxw.drew)).mono ?_
    rintro e w7 ⟨rfl, hx7⟩
    have hfalse : (rightB n1 && tagOf k (b.set m t1') == tagOf k b) = false := by
      rw [HR.out, Bool.true_and, beq_eq_false_iff_ne]
      intro h
      exact HNE.out (tagOf_set k b m t1' t0' hml HT.out h)
    rw [hfalse]
    have HX7 := Lib.hid (HX5.out.trans (hxw.drew.trans hx7))
    clear hxw hbu hx7 hfalse
    go_wp2
    go_ret
    exact ⟨rfl, HX7.out⟩
  · go_wp2
    go_ret
    exact ⟨rfl, HX5.out⟩
set_option maxRecDepth 100000 in
set_option maxHeartbeats 2000000 in
theorem tagTells_short (a1 : Option Addr) (n1 c1 : Nat) (a2 : Option Addr) (n2 c2 : Nat) (x y z : Int) (w : World) (h : ¬ 1 ≤ n1 ∨ (1 ≤ n1 ∧ ¬ n1 ≤ 32) ∨ (1 ≤ n1 ∧ n1 ≤ 32 ∧ ¬ n2 ≤ 2000)) :
    Calls Try.prog 4 #[.slice a1 n1 c1, .slice a2 n2 c2, .agg #[.int .u8 x, .int .u8 y, .int .u8 z]] w fun e w' => e = .returned (.bool true) ∧ Ext w w' := by
  rcases h with g1 | ⟨g1, g2⟩ | ⟨g1, g2, g3⟩
  all_goals
    go_enter Try.func4, Try.ntmps4
    go_wp2_with fail
    refine (first02_any _).mono ?_
    rintro e w1 ⟨rfl, hx1⟩
    have HX : Hid (Ext w w1) := Lib.hid ((Ext.new w _).trans hx1)
    clear hx1
    go_wp2
    go_ret
    exact ⟨rfl, HX.out⟩
theorem tagTells_all (a1 : Option Addr) (n1 c1 : Nat) (k : List UInt8) (a2 : Option Addr) (n2 c2 : Nat) (b : List UInt8) (x y z : Int) (w : World)
    (h1 : By w a1 n1 k) (hc1 : n1 ≤ c1 ∧ c1 ≤ maxLen) (h2 : By w a2 n2 b) (hc2 : n2 ≤ c2 ∧ c2 ≤ maxLen) (hx : 0 ≤ x ∧ x ≤ 255) (hy : 0 ≤ y ∧ y ≤ 255) (hz : 0 ≤ z ∧ z ≤ 255) :
    Calls Try.prog 4 #[.slice a1 n1 c1, .slice a2 n2 c2, .agg #[.int .u8 x, .int .u8 y, .int .u8 z]] w fun e w' => e = .returned (.bool true) ∧ Ext w w' := by
  by_cases hn : 1 ≤ n1 ∧ n1 ≤ 32 ∧ n2 ≤ 2000
  · exact tagTells_main a1 n1 c1 k a2 n2 c2 b x y z w hc1 h1 hc2 h2 hx hy hz hn.1 hn.2.1 hn.2.2
  · exact tagTells_short a1 n1 c1 a2 n2 c2 x y z w (by omega)
end Go.Proofs.Ytabadgpebhiigaa
