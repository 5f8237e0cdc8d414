/- What the four laws ask ahead: first. -/
import Derived.Test.YtabadgpebhiigaaRead
import Derived.Test.YtabadgpebhiigaaRefTape
namespace Go.Proofs.Ytabadgpebhiigaa
set_option linter.unusedSimpArgs false
set_option linter.unusedVariables false
open Go Go.RowKit
theorem BlkW.set {fp : Nat → Prop} {w w' : World} {b : Nat} {v u : Value} (h : Blk w b [v]) (hm : MutO fp w w') (hb : ¬ fp b) : Blk (w'.setCell ⟨b, 0, none⟩ u) b [u] := (h.mut hm hb).set 0 u
theorem set_one (w : World) (p : Nat) (u : Value) : MutO (fun k => k = p) w (w.setCell ⟨p, 0, none⟩ u) := MutO.set (fp := fun k => k = p) (p := ⟨p, 0, none⟩) (MutO.refl _ _) rfl u
set_option maxRecDepth 20000 in
theorem first1_any (z : Nat) (w : World) (r p q s : Nat) (x y : Int) (v : Value) (bs : List UInt8) (hbs : bs = [97, 98]) (h : RdAt (fun k => z ≤ k) w r [172, 2, 2, 97, 98]) (hp : Blk w p [.int .i64 x]) (hq : Blk w q [.int .i64 y]) (hs : Blk w s [v])
    (hz : p < z ∧ q < z ∧ s < z) (hzr : z ≤ r) (hne : p ≠ q ∧ p ≠ s ∧ q ≠ s) :
    Calls Try.prog 75 #[.pointer (some ⟨r, 0, none⟩), .pointer (some ⟨p, 0, none⟩), .pointer (some ⟨q, 0, none⟩), .pointer (some ⟨s, 0, none⟩)] w fun en w' =>
      en = .returned (.tuple #[]) ∧ RdAt (fun k => z ≤ k) w' r [] ∧ Blk w' p [.int .i64 300] ∧ Blk w' q [.int .i64 3] ∧ Blk w' s [S bs] ∧ MutO (fun k => k = r ∨ k = p ∨ k = q ∨ k = s) w w' := by
  obtain ⟨hz1, hz2, hz3⟩ := hz
  obtain ⟨hn1, hn2, hn3⟩ := hne
  have hpr : p ≠ r := by omega
  have hqr : q ≠ r := by omega
  have hsr : s ≠ r := by omega
  have HBS := Lib.hid hbs; clear hbs
  have H := Lib.hid h
  have HP := Lib.hid hp
  have HQ := Lib.hid hq
  have HS := Lib.hid hs
  clear h hp hq hs
  go_enter Try.func75, Try.ntmps75
  go_wp2_with fail
  refine (number_any _ r _ 999 H.out).mono ?_
  rintro e w1 ⟨v1, rfl, rfl, hr1, hm1⟩
  have HP1 := Lib.hid (HP.out.mut hm1 hpr)
  have HQ1 := Lib.hid (HQ.out.mut hm1 hqr)
  have HS1 := Lib.hid (HS.out.mut hm1 hsr)
  have HM1 := Lib.hid hm1
  have HR1 := Lib.hid hr1
  have g0 := HP1.out.cell 0
  have g1 := HP1.out.free 0
  clear hm1 hr1
  go_wp2_with fail
  have hm2 := set_one w1 p (.int .i64 300)
  have hp2 : Blk (w1.setCell ⟨p, 0, none⟩ (.int .i64 300)) p [.int .i64 300] := HP1.out.set 0 _
  generalize w1.setCell ⟨p, 0, none⟩ (.int .i64 300) = w2 at *
  have HM2 := Lib.hid hm2
  have HP2 := Lib.hid hp2
  have HQ2 := Lib.hid (HQ1.out.mut hm2 hn1.symm)
  have HS2 := Lib.hid (HS1.out.mut hm2 hn2.symm)
  have HR2 := Lib.hid (HR1.out.mut hm2 hpr.symm fun k hk => by show ¬ z ≤ k; omega)
  have q0 := HQ2.out.cell 0
  have q1 := HQ2.out.free 0
  clear hm2 hp2 g0 g1
  refine (left_any _ r _ HR2.out).mono ?_
  rintro e w' ⟨rfl, rfl⟩
  go_wp2_with fail
  have hm3 := set_one w2 q (.int .i64 3)
  have hq3 : Blk (w2.setCell ⟨q, 0, none⟩ (.int .i64 3)) q [.int .i64 3] := HQ2.out.set 0 _
  generalize w2.setCell ⟨q, 0, none⟩ (.int .i64 3) = w3 at *
  have HM3 := Lib.hid hm3
  have HQ3 := Lib.hid hq3
  have HP3 := Lib.hid (HP2.out.mut hm3 hn1)
  have HS3 := Lib.hid (HS2.out.mut hm3 hn3.symm)
  have HR3 := Lib.hid (HR2.out.mut hm3 hqr.symm fun k hk => by show ¬ z ≤ k; omega)
  clear hm3 hq3 q0 q1
  refine (text_any _ r _ 9 HR3.out (by simp)).mono ?_
  rintro e w4 ⟨v4, rfl, hv4, hr4, hm4⟩
  have HP4 := Lib.hid (HP3.out.mut hm4 hpr)
  have HQ4 := Lib.hid (HQ3.out.mut hm4 hqr)
  have HS4 := Lib.hid (HS3.out.mut hm4 hsr)
  have HM4 := Lib.hid hm4
  have HR4 := Lib.hid hr4
  have s0 := HS4.out.cell 0
  have s1 := HS4.out.free 0
  obtain ⟨va, vn, vc, rfl, _, _, hy4⟩ := hv4
  have hy5 : By w4 va vn bs := by rw [HBS.out]; exact hy4
  clear hy4
  have hcv := conv_bs (P := Try.prog) (src := 22) (dst := 9) (c := vc) Try.underlying22 Try.underlying5 Try.underlying9 hy5
  unfold S at hcv
  clear hm4 hr4 hy5
  go_wp2_with fail
  go_end0
  have hm5 := set_one w4 s (S bs)
  refine ⟨rfl, HR4.out.mut hm5 hsr.symm fun k hk => by show ¬ z ≤ k; omega, HP4.out.mut hm5 hn2, HQ4.out.mut hm5 hn3, HS4.out.set 0 _, ?_⟩
  have m1 : MutO (fun k => k = r ∨ k = p ∨ k = q ∨ k = s) w w1 := HM1.out.mono fun _ h => .inl h
  have m2 : MutO (fun k => k = r ∨ k = p ∨ k = q ∨ k = s) w1 w2 := HM2.out.mono fun _ h => .inr (.inl h)
  have m3 : MutO (fun k => k = r ∨ k = p ∨ k = q ∨ k = s) w2 w3 := HM3.out.mono fun _ h => .inr (.inr (.inl h))
  have m4 : MutO (fun k => k = r ∨ k = p ∨ k = q ∨ k = s) w3 w4 := HM4.out.mono fun _ h => .inl h
  have m5 := hm5.mono (fp' := fun k => k = r ∨ k = p ∨ k = q ∨ k = s) fun _ h => .inr (.inr (.inr h))
  exact (((m1.trans m2 fun _ _ h => h).trans m3 fun _ _ h => h).trans m4 fun _ _ h => h).trans m5 fun _ _ h => h
theorem first2_any (z : Nat) (w : World) (r p : Nat) (h : RdAt (fun k => z ≤ k) w r [172, 2, 2, 97, 98]) :
    Calls Try.prog 76 #[.pointer (some ⟨r, 0, none⟩), .pointer (some ⟨p, 0, none⟩)] w (Failed r 12 w) := by
  have H := Lib.hid h
  clear h
  go_enter Try.func76, Try.ntmps76
  go_wp2_with fail
  refine (number_any _ r _ 299 H.out).mono ?_
  rintro e w1 ⟨rfl, hr1, hm1⟩
  exact ⟨rfl, rfl, hr1, hm1⟩
theorem PenAt.lt {w : World} {p : Nat} {g : Option Nat} {xs : List UInt8} (h : PenAt w p g xs) : p < w.heap.size := let ⟨_, h1, _⟩ := h; h1.lt
theorem PenAt.glt {w : World} {p : Nat} {g : Option Nat} {xs : List UInt8} (h : PenAt w p g xs) {k : Nat} (hk : g = some k) : k < w.heap.size := by
  obtain ⟨sv, _, h2, h3, _⟩ := h
  exact (h2.lt k (h3.trans hk)).2
theorem PenAt.ext {w w' : World} {p : Nat} {g : Option Nat} {xs : List UInt8} (h : PenAt w p g xs) (hx : Ext w w') : PenAt w' p g xs := h.mut (fp := fun _ => False) (MutO.of_ext hx) (fun q => q) (fun _ _ q => q)
theorem By.mark (w : World) (xs : List UInt8) (e : TypeId) (m : Nat × Nat) (b : Nat) (hb : b = w.heap.size) : By (w.alloc (.cells (xs.map B).toArray e m)) (some ⟨b, 0, none⟩) xs.length xs := by
  refine ⟨rfl, fun _ => ⟨_, _, rfl, fun i x hi => ?_⟩⟩
  unfold byteR
  subst hb
  have := World.cell?_alloc_mark w (xs.map B).toArray e m (0 + i * 1)
  refine Eq.trans this ?_
  simp [hi]
set_option maxRecDepth 20000 in
set_option maxHeartbeats 2000000 in
theorem first_any (w : World) : Calls Try.prog 41 #[] w fun en w' => en = .returned (.bool true) ∧ Ext w w' := by
  have hmf : ∀ (fn : Fn) (first cap : Array Value) (w : World), (Instr.makeFunc fn first cap).run Try.prog w = .ok (.func fn first cap) w := fun _ _ _ _ => rfl
  go_enter Try.func41, Try.ntmps41
  go_wp2_with fail
  have hp0 : PenAt (w.alloc (.cells #[.slice none 0 0] 91)) w.heap.size none [] := ⟨.slice none 0 0, Blk.lit _ _ _ _ rfl, ⟨rfl, .inl ⟨rfl, rfl⟩⟩, rfl, by simp⟩
  have hx0 : Ext w (w.alloc (.cells #[.slice none 0 0] 91)) := Ext.new _ _
  generalize w.alloc (.cells #[.slice none 0 0] 91) = w0 at *
  have hpz : w.heap.size ≤ w.heap.size := Nat.le_refl _
  generalize hpp : w.heap.size = p at *
  have HX0 := Lib.hid hx0; clear hx0
  refine (penNumber_any p _ [] 300 w0 hp0 (by decide) (by simp)).mono ?_
  rintro e w1 ⟨rfl, g1, hp1, hs1⟩
  have hx1 := Lib.hid (MutO.ext HX0.out hs1.1 fun k hk => by rcases hk with rfl | hk; exact Nat.le_of_eq hpp; cases hk)
  have hg1 : Hid (∀ k, g1 = some k → p ≤ k) := Lib.hid fun k hk => by rcases hs1.2 with q | ⟨j, q, q1⟩; rw [q] at hk; cases hk; rw [q] at hk; injection hk with hk; have := HX0.out.le; omega
  have HP1 := Lib.hid hp1
  clear hs1 hp1 hp0
  go_wp2_with fail
  refine (penNumber_neg _ _ _ (.inr (by decide))).mono ?_
  rintro e w' ⟨rfl, rfl⟩
  have hmk := Go.Joins.run_convert_bytes_const_at (P := Try.prog) w1 22 5 #[.int .u8 97, .int .u8 98] 2 2 w1.heap.size rfl Try.underlying22 Try.underlying5
  go_wp2_with fail
  have hy1 : By (w1.alloc (.cells #[.int .u8 97, .int .u8 98] 5 (2, 3))) (some ⟨w1.heap.size, 0, none⟩) 2 [97, 98] := By.mark w1 [97, 98] 5 (2, 3) _ rfl
  have hx2 := hx1.out.alloc (.cells #[.int .u8 97, .int .u8 98] 5 (2, 3))
  have hp2 := HP1.out.mut (fp := fun _ => False) (MutO.of_ext (Ext.new w1 (.cells #[.int .u8 97, .int .u8 98] 5 (2, 3)))) (fun q => q) (fun _ _ q => q)
  have hlt : ∀ k, k = w1.heap.size → p ≠ k ∧ g1 ≠ some k := fun k hk => ⟨by have := HP1.out.lt; omega, fun q => by have := HP1.out.glt q; omega⟩
  clear hmk
  generalize hw2 : w1.alloc (.cells #[.int .u8 97, .int .u8 98] 5 (2, 3)) = w2 at *
  refine (penText_any p g1 _ _ 2 2 [97, 98] w2 hp2 hy1 (by decide) (by decide) fun _ ad had => by cases had; exact ⟨(hlt _ rfl).1.symm, (hlt _ rfl).2⟩).mono ?_
  rintro e w3 ⟨rfl, g3, hp3, hs3⟩
  obtain ⟨hx3, hg3⟩ := hs3.ext hx2 (Nat.le_of_eq hpp) (fun k hk => hpp ▸ hg1.out k hk)
  have HX3 := Lib.hid hx3
  have HG3 := Lib.hid hg3
  have hxs : [] ++ numB 300 ++ (numB 2 ++ [97, 98]) = [172, 2, 2, 97, 98] := by decide
  rw [hxs] at hp3
  have HP3 := Lib.hid hp3
  clear hs3 hp3 hx3 hg3 hxs hp2 hx2 hlt hy1 hw2 hg1 hx1 HP1
  go_wp2_with fail
  have hn4 : Blk (((w3.alloc (.cells #[.int .i64 0] 3)).alloc (.cells #[.string ⟨#[]⟩] 9)).alloc (.cells #[.int .i64 0] 3)) w3.heap.size [.int .i64 0] := ((Blk.lit w3 [.int .i64 0] 3 _ rfl).ext (Ext.new _ _)).ext (Ext.new _ _)
  have hs4 : Blk (((w3.alloc (.cells #[.int .i64 0] 3)).alloc (.cells #[.string ⟨#[]⟩] 9)).alloc (.cells #[.int .i64 0] 3)) (w3.heap.size + 1) [.string ⟨#[]⟩] := (Blk.lit _ [.string ⟨#[]⟩] 9 _ (by simp)).ext (Ext.new _ _)
  have hl4 : Blk (((w3.alloc (.cells #[.int .i64 0] 3)).alloc (.cells #[.string ⟨#[]⟩] 9)).alloc (.cells #[.int .i64 0] 3)) (w3.heap.size + 1 + 1) [.int .i64 0] := Blk.lit _ [.int .i64 0] 3 _ (by simp)
  have hx4 : Ext w3 (((w3.alloc (.cells #[.int .i64 0] 3)).alloc (.cells #[.string ⟨#[]⟩] 9)).alloc (.cells #[.int .i64 0] 3)) := ((Ext.new _ _).alloc _).alloc _
  generalize hw4 : ((w3.alloc (.cells #[.int .i64 0] 3)).alloc (.cells #[.string ⟨#[]⟩] 9)).alloc (.cells #[.int .i64 0] 3) = w4 at *
  clear hw4
  obtain ⟨n, hn⟩ : ∃ n, n = w3.heap.size := ⟨_, rfl⟩
  obtain ⟨t, ht⟩ : ∃ t, t = n + 1 := ⟨_, rfl⟩
  obtain ⟨l, hl⟩ : ∃ l, l = t + 1 := ⟨_, rfl⟩
  rw [← hn] at hn4 hs4 hl4 ⊢
  rw [← ht] at hs4 hl4 ⊢
  rw [← hl] at hl4 ⊢
  have hnt : n < t := by omega
  have htl : t < l := by omega
  have HT := Lib.hid ht
  have HL := Lib.hid hl
  have hpn : p < n := hn ▸ HP3.out.lt
  have hgn : ∀ k, g3 = some k → k < n := fun k hk => hn ▸ HP3.out.glt hk
  have HGN := Lib.hid hgn
  have HP4 := Lib.hid (HP3.out.mut (fp := fun _ => False) (MutO.of_ext hx4) (fun q => q) (fun _ _ q => q))
  have HN4 := Lib.hid hn4
  have HS4 := Lib.hid hs4
  have HL4 := Lib.hid hl4
  have HX4 := Lib.hid (HX3.out.trans hx4)
  have hn4z : l < w4.heap.size := hl4.lt
  clear hn4 hs4 hl4 hx4 hgn hn HX3 HP3 ht hl
  refine (penBytes_any p g3 _ w4 HP4.out (by simp)).mono ?_
  rintro e w5 ⟨v5, rfl, hv5, hx5⟩
  obtain ⟨a5, n5, c5, rfl, hc5, hm5, hy5⟩ := hv5
  have HP5 := Lib.hid (HP4.out.mut (fp := fun _ => False) (MutO.of_ext hx5) (fun q => q) (fun _ _ q => q))
  have HN5 := Lib.hid (HN4.out.ext hx5)
  have HS5 := Lib.hid (HS4.out.ext hx5)
  have HL5 := Lib.hid (HL4.out.ext hx5)
  have HX5 := Lib.hid (HX4.out.trans hx5)
  have hn5z : l < w5.heap.size := Nat.lt_of_lt_of_le hn4z hx5.le
  have HY5 := Lib.hid hy5
  have HC5 := Lib.hid (And.intro hc5 hm5)
  clear hx5 hy5 hc5 hm5 HP4 HN4 HS4 HL4 HX4
  go_wp2_with fail
  have hrd := read_any w5 a5 n5 c5 _ 75 #[.pointer (some ⟨n, 0, none⟩), .pointer (some ⟨l, 0, none⟩), .pointer (some ⟨t, 0, none⟩)]
    (fun en W => en = .returned (.int .i64 0) ∧ PenAt W p g3 [172, 2, 2, 97, 98] ∧ Blk W n [.int .i64 300] ∧ Blk W l [.int .i64 3] ∧ Blk W t [S [97, 98]] ∧ Ext w W ∧ l < W.heap.size) HY5.out HC5.out (by have := HY5.out.1; simp at this; omega)
    (fun _ _ => by kernel_rfl) fun w6 p6 r6 hx6 hp6 hr6 hb6 hk6 hrd6 => by
      refine (first1_any w5.heap.size w6 r6 n l t 0 0 _ [97, 98] rfl (hrd6.mono fun k hk => by omega) (HN5.out.ext hx6) (HL5.out.ext hx6) (HS5.out.ext hx6) ⟨by omega, by omega, by omega⟩ (by omega) ⟨by omega, by omega, by omega⟩).mono ?_
      rintro en w7 ⟨rfl, hr7, hp7, hq7, hs7, hm7⟩
      refine ⟨hk6.mut hm7 (by omega), .inl ⟨_, _, _, rfl, hr7, fun W hW hmW => ⟨by simp, ?_, hp7.mut hmW (by unfold RdFp; omega), hq7.mut hmW (by unfold RdFp; omega), hs7.mut hmW (by unfold RdFp; omega), ?_, ?_⟩⟩⟩
      · refine ((HP5.out.ext hx6).mut hm7 (by omega) fun k hk => ?_).mut hmW (by unfold RdFp; omega) fun k hk => ?_
        · have := HGN.out k hk; omega
        · have := HGN.out k hk; unfold RdFp; omega
      · exact MutO.ext (MutO.ext (HX5.out.trans hx6) hm7 fun k hk => by omega) hmW fun k hk => by unfold RdFp at hk; have := HX5.out.le; omega
      · have h1 := hx6.le; have h2 := hm7.size; have h3 := hmW.size; omega
  refine hrd.mono ?_
  rintro e w6 ⟨rfl, hp6, hn6, hl6, hs6, hx6, hz6⟩
  have HP6 := Lib.hid hp6
  have HN6 := Lib.hid hn6
  have HS6 := Lib.hid hs6
  have HL6 := Lib.hid hl6
  have HX6 := Lib.hid hx6
  clear hp6 hn6 hl6 hs6 hx6 hrd HP5 HN5 HS5 HL5 HX5 HY5 HC5 hn4z
  go_wp2_with fail
  refine (penBytes_any p g3 _ w6 HP6.out (by simp)).mono ?_
  rintro e w7 ⟨v7, rfl, hv7, hx7⟩
  obtain ⟨a7, n7, c7, rfl, hc7, hm7, hy7⟩ := hv7
  have HP7 := Lib.hid (HP6.out.ext hx7)
  have HN7 := Lib.hid (HN6.out.ext hx7)
  have HS7 := Lib.hid (HS6.out.ext hx7)
  have HL7 := Lib.hid (HL6.out.ext hx7)
  have HX7 := Lib.hid (HX6.out.trans hx7)
  have hz7 : l < w7.heap.size := Nat.lt_of_lt_of_le hz6 hx7.le
  have HY7 := Lib.hid hy7
  have HC7 := Lib.hid (And.intro hc7 hm7)
  clear hx7 hy7 hc7 hm7 HP6 HN6 HS6 HL6 HX6
  go_wp2_with fail
  have hrd := read_any w7 a7 n7 c7 _ 76 #[.pointer (some ⟨n, 0, none⟩)]
    (fun en W => en = .returned (.int .i64 12) ∧ PenAt W p g3 [172, 2, 2, 97, 98] ∧ Blk W n [.int .i64 300] ∧ Blk W l [.int .i64 3] ∧ Blk W t [S [97, 98]] ∧ Ext w W) HY7.out HC7.out (by have := HY7.out.1; simp at this; omega)
    (fun _ _ => by kernel_rfl) fun w8 p8 r8 hx8 hp8 hr8 hb8 hk8 hrd8 => by
      refine (first2_any w7.heap.size w8 r8 n (hrd8.mono fun k hk => by omega)).mono ?_
      rintro en w9 ⟨rfl, hr9, hm9⟩
      refine ⟨hk8.mut hm9 (by unfold rdFp; omega), .inr (.inl ⟨12, [], rfl, rfl, hr9, fun W hW hmW => ⟨rfl, ?_, ((HN7.out.ext hx8).mut hm9 (by unfold rdFp; omega)).mut hmW (by unfold RdFp; omega), ((HL7.out.ext hx8).mut hm9 (by unfold rdFp; omega)).mut hmW (by unfold RdFp; omega), ((HS7.out.ext hx8).mut hm9 (by unfold rdFp; omega)).mut hmW (by unfold RdFp; omega), ?_⟩⟩)⟩
      · refine ((HP7.out.ext hx8).mut hm9 (by unfold rdFp; omega) fun k hk => ?_).mut hmW (by unfold RdFp; omega) fun k hk => ?_
        · have := HGN.out k hk; unfold rdFp; omega
        · have := HGN.out k hk; unfold RdFp; omega
      · exact MutO.ext (MutO.ext (HX7.out.trans hx8) hm9 fun k hk => by unfold rdFp at hk; omega) hmW fun k hk => by unfold RdFp at hk; have := HX7.out.le; omega
  refine hrd.mono ?_
  rintro e w8 ⟨rfl, hp8, hn8, hl8, hs8, hx8⟩
  have HP8 := Lib.hid hp8
  have HN8 := Lib.hid hn8
  have HS8 := Lib.hid hs8
  have HL8 := Lib.hid hl8
  have HX8 := Lib.hid hx8
  clear hp8 hn8 hl8 hs8 hx8 hrd HP7 HN7 HS7 HL7 HX7 HY7 HC7 hz7 hz6
  go_wp2_with fail
  refine (penBytes_any p g3 _ w8 HP8.out (by simp)).mono ?_
  rintro e w9 ⟨v9, rfl, hv9, hx9⟩
  obtain ⟨a9, n9, c9, rfl, hc9, hm9, hy9⟩ := hv9
  have HP9 := Lib.hid (HP8.out.ext hx9)
  have HN9 := HN8.out.ext hx9
  have HS9 := HS8.out.ext hx9
  have HL9 := HL8.out.ext hx9
  have HX9 := Lib.hid (HX8.out.trans hx9)
  have hcv := conv_bs (P := Try.prog) (src := 22) (dst := 9) (c := c9) Try.underlying22 Try.underlying5 Try.underlying9 hy9
  have q1 := HN9.cell 0
  have q2 := HL9.cell 0
  have q3 := HS9.cell 0
  clear hx9 hy9 hc9 hm9 HP8 HN8 HS8 HL8 HX8 HN9 HS9 HL9
  unfold S at hcv q3
  go_wp2_with fail
  refine (penBytes_any p g3 _ w9 HP9.out (by simp)).mono ?_
  rintro e w10 ⟨v10, rfl, hv10, hx10⟩
  obtain ⟨a10, n10, c10, rfl, hc10, hm10, hy10⟩ := hv10
  have HX10 := Lib.hid (HX9.out.trans hx10)
  have HY10 := Lib.hid hy10
  have HC10 := Lib.hid (And.intro hc10 hm10)
  clear hx10 hy10 hc10 hm10 HP9 HX9
  go_wp2_with fail
  have hrd := read_nil w10 a10 n10 c10 _ (fun en W => en = .returned (.int .i64 13) ∧ Ext w W) HY10.out HC10.out (by have := HY10.out.1; simp at this; omega) (fun W hW => ⟨by simp, HX10.out.trans hW⟩)
  refine hrd.mono ?_
  rintro e w11 ⟨rfl, hx11⟩
  have HX11 := Lib.hid hx11
  clear hx11 hrd
  go_wp2_with fail
  go_ret
  exact ⟨rfl, HX11.out⟩
end Go.Proofs.Ytabadgpebhiigaa
