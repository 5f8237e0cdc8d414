/- TapeWrites: the law. -/
import Derived.Test.YtabadgpebhiigaaFirst
import Derived.Test.YtabadgpebhiigaaOps
import Derived.Test.YtabadgpebhiigaaRegion3
namespace Go.Proofs.Ytabadgpebhiigaa
open Go Go.RowKit
/-- What is written for one operation. -/
def opB (o : OpT) : List UInt8 := if o.k.tmod 2 = 0 then (if 0 ≤ o.n then numB o.n.toNat else []) else (if o.b.length ≤ 2048 then numB o.b.length ++ o.b else [])
def opsB (l : List OpT) : List UInt8 := l.flatMap opB
theorem numF_len10 (n : Nat) : (numB n).length ≤ 10 := numF_len 10 n
theorem opB_len (o : OpT) : (opB o).length ≤ 2060 := by
  unfold opB
  split
  · split
    · have := numF_len10 o.n.toNat; omega
    · simp
  · split
    · have := numF_len10 o.b.length; simp; omega
    · simp
theorem opsB_snoc (l : List OpT) (o : OpT) : opsB (l ++ [o]) = opsB l ++ opB o := by unfold opsB; simp
theorem take_snoc {α : Type} {l : List α} {j : Nat} (h : j < l.length) : l.take (j + 1) = l.take j ++ [l[j]] := (List.take_append_getElem h).symm
set_option maxRecDepth 20000 in
set_option maxRecDepth 100000 in
set_option maxHeartbeats 2000000 in
theorem tapeWrites_all (a : Option Addr) (n c : Nat) (l : List OpT) (w : World) (hy : Arr 3 opR w a n l) (hnc : n ≤ c ∧ c ≤ maxLen) :
    Calls Try.prog 12 #[.slice a n c] w fun en w' => en = .returned (.bool true) ∧ Ext w w' := by
  have HY := Lib.hid hy
  have HNC := Lib.hid hnc
  clear hy hnc
  go_enter Try.func12, Try.ntmps12
  go_wp2_with fail
  refine (first_any w).mono ?_
  rintro en w1 ⟨rfl, hx1⟩
  have HX1 := Lib.hid hx1
  clear hx1
  go_wp2_with fail
  have hp0 : PenAt (w1.alloc (.cells #[.slice none 0 0] 91)) w1.heap.size none [] := ⟨.slice none 0 0, Blk.lit _ _ _ _ rfl, ⟨rfl, .inl ⟨rfl, rfl⟩⟩, rfl, by simp⟩
  have hx0 : Ext w (w1.alloc (.cells #[.slice none 0 0] 91)) := HX1.out.trans (Ext.new _ _)
  have hpw := HX1.out.le
  generalize w1.alloc (.cells #[.slice none 0 0] 91) = w2 at *
  generalize w1.heap.size = p at *
  have HP0 := Lib.hid hp0
  have HX0 := Lib.hid hx0
  clear hp0 hx0 HX1
  have hnl : n = l.length := HY.out.1
  have HNL := Lib.hid hnl
  have hn31 := HNC.out
  clear hnl
  go_loopw [5, 15] (fun s i wr => ∃ (j : Nat) (g : Option Nat), j ≤ n ∧ j ≤ 60 ∧ i = .int .i64 (j : Int) ∧ s = .string ⟨(opsB (l.take j)).toArray⟩ ∧ (opsB (l.take j)).length ≤ j * 2060 ∧ PenAt wr p g (opsB (l.take j)) ∧ (∀ k, g = some k → w.heap.size ≤ k) ∧ Ext w wr) (fun _ i _ => n - (intOf i).toNat)
  case atStart => exact ⟨0, none, by omega, by omega, rfl, rfl, by simp [opsB], HP0.out, (fun k hk => by cases hk), HX0.out⟩
  case round =>
    obtain ⟨j, g, hjn, hj60, rfl, rfl, hlen, hpen, hg, hx⟩ := hrel
    have HLEN := Lib.hid hlen
    have HP := Lib.hid hpen
    have HG := Lib.hid hg
    have HX := Lib.hid hx
    clear hlen hpen hg hx HP0 HX0
    by_cases hjlt : j < n
    · have hjl : j < l.length := by have := HNL.out; omega
      obtain ⟨b, off, ha, hcell⟩ := HY.out.2 (by omega)
      subst ha
      have hop := hcell j l[j] (List.getElem?_eq_getElem hjl)
      have HTK := Lib.hid (take_snoc hjl)
      generalize l[j] = o at *
      obtain ⟨y0, y1, r2, r3, a2, m2, c2, y4, y5, r6⟩ := hop
      have r0 := HX.out.cell y0
      have r1 := HX.out.cell y1
      have r4 := HX.out.cell y4
      have r5 := y5.ext HX.out
      have HBY := Lib.hid r5
      have hlt0 : 0 < m2 → ∀ ad, a2 = some ad → ad.block ≠ p ∧ g ≠ some ad.block := by
        intro q ad had
        obtain ⟨b5, o5, e5, h5⟩ := y5.2 q
        have h6 := h5 0 _ (List.getElem?_eq_getElem (by have := y5.1; omega))
        have h7 := World.block_lt_of_cell? w _ h6
        rw [had] at e5
        cases e5
        have hgz := HG.out
        refine ⟨fun q => ?_, fun q => ?_⟩
        · simp only at q h7; omega
        · have := hgz _ q; simp only at h7 this; omega
      have HLT := Lib.hid hlt0
      have HI := Lib.hid (And.intro r2 r3)
      clear hcell r5 r2 r3 y0 y1 y4 y5 hlt0
      have hpen3 := HP.out.ext (Ext.new wr (.cells #[.int .i64 o.k, .int .i64 o.n, .slice a2 m2 c2] 80))
      have hblk3 := Blk.lit wr [.int .i64 o.k, .int .i64 o.n, .slice a2 m2 c2] 80 _ rfl
      have hx3 := HX.out.alloc (.cells #[.int .i64 o.k, .int .i64 o.n, .slice a2 m2 c2] 80)
      have HP3 := Lib.hid hpen3
      have HB3 := Lib.hid hblk3
      have HX3 := Lib.hid hx3
      clear hpen3 hblk3 hx3
      by_cases h60 : 60 ≤ j
      · go_wp2_with fail
        go_ret
        exact ⟨rfl, HX3.out⟩
      · by_cases h3 : 3000 < m2
        · go_wp2_with fail
          go_ret
          exact ⟨rfl, HX3.out⟩
        · by_cases hk : o.k.tmod 2 = 0
          · by_cases hn0 : 0 ≤ o.n
            · obtain ⟨ok, on, ob⟩ := o
              obtain ⟨N, rfl⟩ : ∃ N : Nat, on = (N : Int) := ⟨on.toNat, by simp at hn0; omega⟩
              have hN63 : N < 9223372036854775808 := by have := HI.out.2; unfold In64 at this; simp at this; omega
              simp only at r0 r1 HBY HB3 HP3 HX3 hk hn0 ⊢
              go_wp2_with fail
              have hcl := HB3.out.ext (Ext.drew (Ext.refl _))
              generalize hw4 : wr.alloc (.cells #[.int .i64 ok, .int .i64 (N : Int), .slice a2 m2 c2] 80) = w4 at *
              refine Rg.wp_region3 (Rel := Ext) #[0, 0, 2, 7, 0, 16, 48, 127, 255, 511, 511, 1535, 4095, 8191]
                [(12, .val (.bool false))] [3] (fun W => Blk W wr.heap.size [.int .i64 ok, .int .i64 (N : Int), .slice a2 m2 c2]) [0, 1, 2, 4, 5, 6, 3, 7, 8, 9, 10, 11, 12, 13]
                (by kernel_rfl) (by kernel_rfl) (by kernel_rfl) (by kernel_rfl) Ext.refl (fun _ _ _ => Ext.trans) (by intro c0 a0 x0 v0 w0 h0; cases x0 <;> exact h0) (hcl) ?_
              repeat (first
                | (refine Rg.w3_skip rfl ?_; simp only [Act.put, List.setIfInBounds_toArray, List.set])
                | (refine Rg.w3_pure rfl rfl ?_; apply Exists.intro; refine ⟨fun w hcl => ?_, ?_⟩; (first | (go_simp; done) | (go_simp; first | rfl | (rw [if_neg] <;> first | rfl | omega))); simp only [Act.put, List.setIfInBounds_toArray, List.set])
                | (refine Rg.w3_pure rfl rfl ?_; apply Exists.intro; refine ⟨fun w hcl => ?_, ?_⟩; (have q0 := Blk.cell hcl 0; have q1 := Blk.cell hcl 1; have q2 := Blk.cell hcl 2; simp at q0 q1 q2; (first | (go_simp; done) | (go_simp; first | rfl | (rw [if_neg] <;> first | rfl | omega)))); simp only [Act.put, List.setIfInBounds_toArray, List.set]))
              refine Rg.w3_bar rfl rfl (fun w' hR hcl hF K hK => ?_)
              have hw : Ext w4 w' := ((Ext.refl w4).drew).trans hR
              have hpw' := HP3.out.ext hw
              refine Rg.relAt_call (by go_simp; exact ⟨rfl, rfl⟩) ?_
              refine (penNumber_any p g _ N w' hpw' hN63 (by have := HLEN.out; omega)).mono ?_
              rintro en w5 ⟨rfl, g5, hp5, hs5⟩
              refine ⟨_, rfl, hK _ _ ?_ ?_⟩
              · refine hcl.mut hs5.1 fun q => ?_
                have hpz := HP.out.lt
                have hgz := fun hk => HP.out.glt (k := wr.heap.size) hk
                rcases q with q | q
                · omega
                · have := hgz q; omega
              simp only [Act.put, List.setIfInBounds_toArray, List.set]
              repeat (first
                | (refine Rg.w3_skip rfl ?_; simp only [Act.put, List.setIfInBounds_toArray, List.set])
                | (refine Rg.w3_pure rfl rfl ?_; apply Exists.intro; refine ⟨fun w hcl => ?_, ?_⟩; (first | (go_simp; done) | (go_simp; first | rfl | (rw [if_neg] <;> first | rfl | omega))); simp only [Act.put, List.setIfInBounds_toArray, List.set])
                | (refine Rg.w3_pure rfl rfl ?_; apply Exists.intro; refine ⟨fun w hcl => ?_, ?_⟩; (have q0 := Blk.cell hcl 0; have q1 := Blk.cell hcl 1; have q2 := Blk.cell hcl 2; simp at q0 q1 q2; (first | (go_simp; done) | (go_simp; first | rfl | (rw [if_neg] <;> first | rfl | omega)))); simp only [Act.put, List.setIfInBounds_toArray, List.set]))
              refine Rg.w3_some rfl rfl (fun w6 hR6 hcl6 hF6 => ?_) ?_
              · refine Rg.relAt_call (by go_simp; exact ⟨rfl, rfl⟩) ?_
                refine (penNumber_neg _ _ w6 (.inl rfl)).mono ?_
                rintro en w7 ⟨rfl, rfl⟩
                exact ⟨_, rfl, Ext.refl _, hcl6, rfl⟩
              rintro v ⟨_, _, _, rfl⟩
              simp only [Act.put, List.setIfInBounds_toArray, List.set]
              repeat (first
                | (refine Rg.w3_skip rfl ?_; simp only [Act.put, List.setIfInBounds_toArray, List.set])
                | (refine Rg.w3_pure rfl rfl ?_; apply Exists.intro; refine ⟨fun w hcl => ?_, ?_⟩; (first | (go_simp; done) | (go_simp; first | rfl | (rw [if_neg] <;> first | rfl | omega))); simp only [Act.put, List.setIfInBounds_toArray, List.set])
                | (refine Rg.w3_pure rfl rfl ?_; apply Exists.intro; refine ⟨fun w hcl => ?_, ?_⟩; (have q0 := Blk.cell hcl 0; have q1 := Blk.cell hcl 1; have q2 := Blk.cell hcl 2; simp at q0 q1 q2; (first | (go_simp; done) | (go_simp; first | rfl | (rw [if_neg] <;> first | rfl | omega)))); simp only [Act.put, List.setIfInBounds_toArray, List.set]))
              refine Rg.w3_nil fun w6 hR6 hcl6 hF6 => ?_
              have hp6 := Lib.hid (hp5.ext hR6)
              obtain ⟨hx5, hg5⟩ := hs5.ext (HX3.out.trans hw) hpw HG.out
              have hx6 := Lib.hid (hx5.trans hR6)
              have hg6 := Lib.hid hg5
              have c0 := hcl6.cell 0
              have c1 := hcl6.cell 1
              have c2 := hcl6.cell 2
              clear hF6 hR6 hs5 hp5 hx5 hg5 hK hF hw hpw'
              go_wp2_with fail
              refine (refNumber_any N w6 hN63).mono ?_
              rintro en w7 ⟨rfl, hx7⟩
              have hp7 := Lib.hid (hp6.out.ext hx7)
              have hx8 := Lib.hid (hx6.out.trans hx7)
              have hba := ba_append (opsB (l.take j)) (numB N)
              have hop : opsB (l.take (j + 1)) = opsB (l.take j) ++ numB N := by
                rw [HTK.out, opsB_snoc]; unfold opB; simp only [hk, if_true]; rw [if_pos (by omega)]; simp
              have HOP := Lib.hid hop
              have hl1 : (opsB (l.take j)).length ≤ 200000 := by have := HLEN.out; omega
              have hl2 := numF_len10 N
              unfold S
              clear c0 c1 c2 hx7 hop hp6 hx6
              go_wp2_with fail
              refine And.intro ?_ (by simp [intOf]; omega)
              refine ⟨j + 1, g5, by omega, by omega, by go_num, by rw [HOP.out], by rw [HOP.out, List.length_append]; have := HLEN.out; have := numF_len10 N; omega, by rw [HOP.out]; exact hp7.out, hg6.out, hx8.out⟩
            · obtain ⟨ok, on, ob⟩ := o
              have hn1 : on < 0 := by simp at hn0; omega
              have hdec : decide (0 ≤ on) = false := by simp; omega
              simp only at r0 r1 HBY HB3 HP3 HX3 hk hn0 ⊢
              go_wp2_with fail
              have hcl := HB3.out.ext (Ext.drew (Ext.refl _))
              generalize hw4 : wr.alloc (.cells #[.int .i64 ok, .int .i64 on, .slice a2 m2 c2] 80) = w4 at *
              refine Rg.wp_region3 (Rel := Ext) #[0, 0, 2, 7, 0, 16, 48, 127, 255, 511, 511, 1535, 4095, 8191]
                [(12, .val (.bool false))] [3] (fun W => Blk W wr.heap.size [.int .i64 ok, .int .i64 on, .slice a2 m2 c2]) [0, 1, 2, 4, 5, 6, 3, 7, 8, 9, 10, 11, 12, 13]
                (by kernel_rfl) (by kernel_rfl) (by kernel_rfl) (by kernel_rfl) Ext.refl (fun _ _ _ => Ext.trans) (by intro c0 a0 x0 v0 w0 h0; cases x0 <;> exact h0) (hcl) ?_
              repeat (first
                | (refine Rg.w3_skip rfl ?_; simp only [Act.put, List.setIfInBounds_toArray, List.set])
                | (refine Rg.w3_pure rfl rfl ?_; apply Exists.intro; refine ⟨fun w hcl => ?_, ?_⟩; (first | (go_simp; done) | (go_simp; first | rfl | (rw [if_neg] <;> first | rfl | omega))); simp only [Act.put, List.setIfInBounds_toArray, List.set])
                | (refine Rg.w3_pure rfl rfl ?_; apply Exists.intro; refine ⟨fun w hcl => ?_, ?_⟩; (have q0 := Blk.cell hcl 0; have q1 := Blk.cell hcl 1; have q2 := Blk.cell hcl 2; simp at q0 q1 q2; (first | (go_simp; done) | (go_simp; first | rfl | (rw [if_neg] <;> first | rfl | omega)))); simp only [Act.put, List.setIfInBounds_toArray, List.set]))
              refine Rg.w3_bar rfl rfl (fun w' hR hcl hF K hK => ?_)
              have hw : Ext w4 w' := ((Ext.refl w4).drew).trans hR
              have hpw' := HP3.out.ext hw
              refine Rg.relAt_call (by go_simp; exact ⟨rfl, rfl⟩) ?_
              refine (penNumber_neg _ _ w' (.inr hn1)).mono ?_
              rintro en w5 ⟨rfl, rfl⟩
              refine ⟨_, rfl, hK _ _ hcl ?_⟩
              simp only [Act.put, List.setIfInBounds_toArray, List.set]
              repeat (first
                | (refine Rg.w3_skip rfl ?_; simp only [Act.put, List.setIfInBounds_toArray, List.set])
                | (refine Rg.w3_pure rfl rfl ?_; apply Exists.intro; refine ⟨fun w hcl => ?_, ?_⟩; (first | (go_simp; done) | (go_simp; first | rfl | (rw [if_neg] <;> first | rfl | omega))); simp only [Act.put, List.setIfInBounds_toArray, List.set])
                | (refine Rg.w3_pure rfl rfl ?_; apply Exists.intro; refine ⟨fun w hcl => ?_, ?_⟩; (have q0 := Blk.cell hcl 0; have q1 := Blk.cell hcl 1; have q2 := Blk.cell hcl 2; simp at q0 q1 q2; (first | (go_simp; done) | (go_simp; first | rfl | (rw [if_neg] <;> first | rfl | omega)))); simp only [Act.put, List.setIfInBounds_toArray, List.set]))
              refine Rg.w3_some rfl rfl (fun w6 hR6 hcl6 hF6 => ?_) ?_
              · refine Rg.relAt_call (by go_simp; exact ⟨rfl, rfl⟩) ?_
                refine (penNumber_neg _ _ w6 (.inl rfl)).mono ?_
                rintro en w7 ⟨rfl, rfl⟩
                exact ⟨_, rfl, Ext.refl _, hcl6, rfl⟩
              rintro v ⟨_, _, _, rfl⟩
              simp only [Act.put, List.setIfInBounds_toArray, List.set]
              repeat (first
                | (refine Rg.w3_skip rfl ?_; simp only [Act.put, List.setIfInBounds_toArray, List.set])
                | (refine Rg.w3_pure rfl rfl ?_; apply Exists.intro; refine ⟨fun w hcl => ?_, ?_⟩; (first | (go_simp; done) | (go_simp; first | rfl | (rw [if_neg] <;> first | rfl | omega))); simp only [Act.put, List.setIfInBounds_toArray, List.set])
                | (refine Rg.w3_pure rfl rfl ?_; apply Exists.intro; refine ⟨fun w hcl => ?_, ?_⟩; (have q0 := Blk.cell hcl 0; have q1 := Blk.cell hcl 1; have q2 := Blk.cell hcl 2; simp at q0 q1 q2; (first | (go_simp; done) | (go_simp; first | rfl | (rw [if_neg] <;> first | rfl | omega)))); simp only [Act.put, List.setIfInBounds_toArray, List.set]))
              refine Rg.w3_nil fun w6 hR6 hcl6 hF6 => ?_
              have hp6 := Lib.hid (hpw'.ext hR6)
              have hx6 := Lib.hid ((HX3.out.trans hw).trans hR6)
              have c1 := hcl6.cell 1
              have hop : opsB (l.take (j + 1)) = opsB (l.take j) := by
                rw [HTK.out, opsB_snoc]; unfold opB; simp only [hk, if_true]; rw [if_neg (by omega)]; simp
              have HOP := Lib.hid hop
              clear hF6 hR6 hK hF hw hpw' hop
              go_wp2_with fail
              refine And.intro ?_ (by simp [intOf]; omega)
              exact ⟨j + 1, g, by omega, by omega, by go_num, by rw [HOP.out], by rw [HOP.out]; have := HLEN.out; omega, by rw [HOP.out]; exact hp6.out, HG.out, hx6.out⟩
          · obtain ⟨ok, on, ob⟩ := o
            simp only at r0 r1 HBY HB3 HP3 HX3 hk ⊢
            by_cases hm0 : m2 ≤ 2048
            · have hdec : decide ((m2 : Int) ≤ 2048) = true := by simp; omega
              go_wp2_with fail
              have hcl := HB3.out.ext (Ext.drew (Ext.refl _))
              generalize hw4 : wr.alloc (.cells #[.int .i64 ok, .int .i64 on, .slice a2 m2 c2] 80) = w4 at *
              refine Rg.wp_region3 (Rel := Ext) #[0, 0, 2, 7, 0, 16, 48, 112, 255, 511, 1023, 1023, 3071, 8191, 16383]
                [(13, .val (.bool false))] [3] (fun W => Blk W wr.heap.size [.int .i64 ok, .int .i64 on, .slice a2 m2 c2]) [0, 1, 2, 4, 5, 6, 7, 3, 8, 9, 10, 11, 12, 13, 14]
                (by kernel_rfl) (by kernel_rfl) (by kernel_rfl) (by kernel_rfl) Ext.refl (fun _ _ _ => Ext.trans) (by intro c0 a0 x0 v0 w0 h0; cases x0 <;> exact h0) (hcl) ?_
              repeat (first
                | (refine Rg.w3_skip rfl ?_; simp only [Act.put, List.setIfInBounds_toArray, List.set])
                | (refine Rg.w3_pure rfl rfl ?_; apply Exists.intro; refine ⟨fun w hcl => ?_, ?_⟩; (first | (go_simp; done) | (go_simp; first | rfl | (rw [if_neg] <;> first | rfl | omega))); simp only [Act.put, List.setIfInBounds_toArray, List.set])
                | (refine Rg.w3_pure rfl rfl ?_; apply Exists.intro; refine ⟨fun w hcl => ?_, ?_⟩; (have q0 := Blk.cell hcl 0; have q1 := Blk.cell hcl 1; have q2 := Blk.cell hcl 2; simp at q0 q1 q2; (first | (go_simp; done) | (go_simp; first | rfl | (rw [if_neg] <;> first | rfl | omega)))); simp only [Act.put, List.setIfInBounds_toArray, List.set]))
              refine Rg.w3_bar rfl rfl (fun w' hR hcl hF K hK => ?_)
              have hw : Ext w4 w' := ((Ext.refl w4).drew).trans hR
              have hpw' := HP3.out.ext hw
              have hby' : By w' a2 m2 ob := (HBY.out.ext (Ext.new _ _)).ext (by rw [hw4]; exact hw)
              refine Rg.relAt_call (by go_simp; exact ⟨rfl, rfl⟩) ?_
              refine (penText_any p g _ a2 m2 c2 ob w' hpw' hby' hm0 (by have := HLEN.out; omega) ?_).mono ?_
              · exact HLT.out
              rintro en w5 ⟨rfl, g5, hp5, hs5⟩
              refine ⟨_, rfl, hK _ _ ?_ ?_⟩
              · refine hcl.mut hs5.1 fun q => ?_
                have hpz := HP.out.lt
                have hgz := fun hk => HP.out.glt (k := wr.heap.size) hk
                rcases q with q | q
                · omega
                · have := hgz q; omega
              simp only [Act.put, List.setIfInBounds_toArray, List.set]
              repeat (first
                | (refine Rg.w3_skip rfl ?_; simp only [Act.put, List.setIfInBounds_toArray, List.set])
                | (refine Rg.w3_pure rfl rfl ?_; apply Exists.intro; refine ⟨fun w hcl => ?_, ?_⟩; (first | (go_simp; done) | (go_simp; first | rfl | (rw [if_neg] <;> first | rfl | omega))); simp only [Act.put, List.setIfInBounds_toArray, List.set])
                | (refine Rg.w3_pure rfl rfl ?_; apply Exists.intro; refine ⟨fun w hcl => ?_, ?_⟩; (have q0 := Blk.cell hcl 0; have q1 := Blk.cell hcl 1; have q2 := Blk.cell hcl 2; simp at q0 q1 q2; (first | (go_simp; done) | (go_simp; first | rfl | (rw [if_neg] <;> first | rfl | omega)))); simp only [Act.put, List.setIfInBounds_toArray, List.set]))
              refine Rg.w3_some rfl rfl (fun w6 hR6 hcl6 hF6 => ?_) ?_
              · refine Rg.relAt_call (by go_simp; exact ⟨rfl, rfl⟩) ?_
                refine (penText_no _ _ _ _ w6 (.inl rfl)).mono ?_
                rintro en w7 ⟨rfl, rfl⟩
                exact ⟨_, rfl, Ext.refl _, hcl6, rfl⟩
              rintro v ⟨_, _, _, rfl⟩
              simp only [Act.put, List.setIfInBounds_toArray, List.set]
              repeat (first
                | (refine Rg.w3_skip rfl ?_; simp only [Act.put, List.setIfInBounds_toArray, List.set])
                | (refine Rg.w3_pure rfl rfl ?_; apply Exists.intro; refine ⟨fun w hcl => ?_, ?_⟩; (first | (go_simp; done) | (go_simp; first | rfl | (rw [if_neg] <;> first | rfl | omega))); simp only [Act.put, List.setIfInBounds_toArray, List.set])
                | (refine Rg.w3_pure rfl rfl ?_; apply Exists.intro; refine ⟨fun w hcl => ?_, ?_⟩; (have q0 := Blk.cell hcl 0; have q1 := Blk.cell hcl 1; have q2 := Blk.cell hcl 2; simp at q0 q1 q2; (first | (go_simp; done) | (go_simp; first | rfl | (rw [if_neg] <;> first | rfl | omega)))); simp only [Act.put, List.setIfInBounds_toArray, List.set]))
              refine Rg.w3_nil fun w6 hR6 hcl6 hF6 => ?_
              have hp6 := Lib.hid (hp5.ext hR6)
              obtain ⟨hx5, hg5⟩ := hs5.ext (HX3.out.trans hw) hpw HG.out
              have hx6 := Lib.hid (hx5.trans hR6)
              have hg6 := Lib.hid hg5
              have c0 := hcl6.cell 0
              have c1 := hcl6.cell 1
              have c2' := hcl6.cell 2
              have hby6 : By w6 a2 m2 ob := By.mut (hby'.ext (Ext.refl _)) (hs5.1.trans (MutO.of_ext hR6) fun _ _ q => q) (fun q ad had => by
                have := HLT.out q ad had
                rintro (h | h)
                · exact this.1 h
                · exact this.2 h)
              have hcv := conv_bs (P := Try.prog) (src := 22) (dst := 9) (c := c2) Try.underlying22 Try.underlying5 Try.underlying9 hby6
              unfold S at hcv
              have hml : m2 = ob.length := hby6.1
              have HML := Lib.hid hml
              clear hF6 hR6 hs5 hp5 hx5 hg5 hK hF hw hpw' hby' hby6 hml
              go_wp2_with fail
              refine (refText_any ob w6 (by have := HML.out; omega)).mono ?_
              rintro en w7 ⟨rfl, hx7⟩
              have hml := HML.out
              rw [hml] at hp6
              have hp7 := Lib.hid (hp6.out.ext hx7)
              have hx8 := Lib.hid (hx6.out.trans hx7)
              have hba := ba_append (opsB (l.take j)) (numB ob.length ++ ob)
              have hop : opsB (l.take (j + 1)) = opsB (l.take j) ++ (numB ob.length ++ ob) := by
                rw [HTK.out, opsB_snoc]; unfold opB; simp only [hk, if_false]; rw [if_pos (by omega)]
              have HOP := Lib.hid hop
              have hl1 : (opsB (l.take j)).length ≤ 200000 := by have := HLEN.out; omega
              have hl2 := numF_len10 ob.length
              have hl3 : ob.length ≤ 2048 := by omega
              unfold S
              clear c0 c1 c2' hx7 hop hp6 hx6 hcv hml
              go_wp2_with fail
              refine And.intro ?_ (by simp [intOf]; omega)
              refine ⟨j + 1, g5, by omega, by omega, by go_num, by rw [HOP.out], by rw [HOP.out, List.length_append, List.length_append]; have := HLEN.out; have := numF_len10 ob.length; omega, by rw [HOP.out]; exact hp7.out, hg6.out, hx8.out⟩
            · have hdec : decide ((m2 : Int) ≤ 2048) = false := by simp; omega
              go_wp2_with fail
              have hcl := HB3.out.ext (Ext.drew (Ext.refl _))
              generalize hw4 : wr.alloc (.cells #[.int .i64 ok, .int .i64 on, .slice a2 m2 c2] 80) = w4 at *
              refine Rg.wp_region3 (Rel := Ext) #[0, 0, 2, 7, 0, 16, 48, 112, 255, 511, 1023, 1023, 3071, 8191, 16383]
                [(13, .val (.bool false))] [3] (fun W => Blk W wr.heap.size [.int .i64 ok, .int .i64 on, .slice a2 m2 c2]) [0, 1, 2, 4, 5, 6, 7, 3, 8, 9, 10, 11, 12, 13, 14]
                (by kernel_rfl) (by kernel_rfl) (by kernel_rfl) (by kernel_rfl) Ext.refl (fun _ _ _ => Ext.trans) (by intro c0 a0 x0 v0 w0 h0; cases x0 <;> exact h0) (hcl) ?_
              repeat (first
                | (refine Rg.w3_skip rfl ?_; simp only [Act.put, List.setIfInBounds_toArray, List.set])
                | (refine Rg.w3_pure rfl rfl ?_; apply Exists.intro; refine ⟨fun w hcl => ?_, ?_⟩; (first | (go_simp; done) | (go_simp; first | rfl | (rw [if_neg] <;> first | rfl | omega))); simp only [Act.put, List.setIfInBounds_toArray, List.set])
                | (refine Rg.w3_pure rfl rfl ?_; apply Exists.intro; refine ⟨fun w hcl => ?_, ?_⟩; (have q0 := Blk.cell hcl 0; have q1 := Blk.cell hcl 1; have q2 := Blk.cell hcl 2; simp at q0 q1 q2; (first | (go_simp; done) | (go_simp; first | rfl | (rw [if_neg] <;> first | rfl | omega)))); simp only [Act.put, List.setIfInBounds_toArray, List.set]))
              refine Rg.w3_bar rfl rfl (fun w' hR hcl hF K hK => ?_)
              have hw : Ext w4 w' := ((Ext.refl w4).drew).trans hR
              have hpw' := HP3.out.ext hw
              refine Rg.relAt_call (by go_simp; exact ⟨rfl, rfl⟩) ?_
              refine (penText_no _ _ _ _ w' (.inr (by omega))).mono ?_
              rintro en w5 ⟨rfl, rfl⟩
              refine ⟨_, rfl, hK _ _ hcl ?_⟩
              simp only [Act.put, List.setIfInBounds_toArray, List.set]
              repeat (first
                | (refine Rg.w3_skip rfl ?_; simp only [Act.put, List.setIfInBounds_toArray, List.set])
                | (refine Rg.w3_pure rfl rfl ?_; apply Exists.intro; refine ⟨fun w hcl => ?_, ?_⟩; (first | (go_simp; done) | (go_simp; first | rfl | (rw [if_neg] <;> first | rfl | omega))); simp only [Act.put, List.setIfInBounds_toArray, List.set])
                | (refine Rg.w3_pure rfl rfl ?_; apply Exists.intro; refine ⟨fun w hcl => ?_, ?_⟩; (have q0 := Blk.cell hcl 0; have q1 := Blk.cell hcl 1; have q2 := Blk.cell hcl 2; simp at q0 q1 q2; (first | (go_simp; done) | (go_simp; first | rfl | (rw [if_neg] <;> first | rfl | omega)))); simp only [Act.put, List.setIfInBounds_toArray, List.set]))
              refine Rg.w3_some rfl rfl (fun w6 hR6 hcl6 hF6 => ?_) ?_
              · refine Rg.relAt_call (by go_simp; exact ⟨rfl, rfl⟩) ?_
                refine (penText_no _ _ _ _ w6 (.inl rfl)).mono ?_
                rintro en w7 ⟨rfl, rfl⟩
                exact ⟨_, rfl, Ext.refl _, hcl6, rfl⟩
              rintro v ⟨_, _, _, rfl⟩
              simp only [Act.put, List.setIfInBounds_toArray, List.set]
              repeat (first
                | (refine Rg.w3_skip rfl ?_; simp only [Act.put, List.setIfInBounds_toArray, List.set])
                | (refine Rg.w3_pure rfl rfl ?_; apply Exists.intro; refine ⟨fun w hcl => ?_, ?_⟩; (first | (go_simp; done) | (go_simp; first | rfl | (rw [if_neg] <;> first | rfl | omega))); simp only [Act.put, List.setIfInBounds_toArray, List.set])
                | (refine Rg.w3_pure rfl rfl ?_; apply Exists.intro; refine ⟨fun w hcl => ?_, ?_⟩; (have q0 := Blk.cell hcl 0; have q1 := Blk.cell hcl 1; have q2 := Blk.cell hcl 2; simp at q0 q1 q2; (first | (go_simp; done) | (go_simp; first | rfl | (rw [if_neg] <;> first | rfl | omega)))); simp only [Act.put, List.setIfInBounds_toArray, List.set]))
              refine Rg.w3_nil fun w6 hR6 hcl6 hF6 => ?_
              have hp6 := Lib.hid (hpw'.ext hR6)
              have hx6 := Lib.hid ((HX3.out.trans hw).trans hR6)
              have c2' := hcl6.cell 2
              have hml : m2 = ob.length := HBY.out.1
              have hop : opsB (l.take (j + 1)) = opsB (l.take j) := by
                rw [HTK.out, opsB_snoc]; unfold opB; simp only [hk, if_false]; rw [if_neg (by omega)]; simp
              have HOP := Lib.hid hop
              clear hF6 hR6 hK hF hw hpw' hop hml
              go_wp2_with fail
              refine And.intro ?_ (by simp [intOf]; omega)
              exact ⟨j + 1, g, by omega, by omega, by go_num, by rw [HOP.out], by rw [HOP.out]; have := HLEN.out; omega, by rw [HOP.out]; exact hp6.out, HG.out, hx6.out⟩
    · obtain rfl : j = n := by omega
      have hxl : (opsB (l.take j)).length ≤ 200000 := by have := HLEN.out; omega
      clear HLEN
      generalize opsB (l.take j) = X at *
      obtain ⟨v, w3, hcv, hv, hx3⟩ := conv_sb (P := Try.prog) (w := wr) (src := 9) (dst := 22) (e := 5) X Try.underlying9 Try.underlying22 Try.underlying5 (by simp [maxLen]; omega)
      unfold S at hcv
      obtain ⟨va, vn, vc, rfl, hv1, hv2, hvy⟩ := hv
      have HV := Lib.hid hvy
      have HX3 := Lib.hid (HX.out.trans hx3)
      have HP3 := Lib.hid (HP.out.ext hx3)
      clear hvy hx3 HP HX
      go_wp2_with fail
      refine (penRaw_any p g X va vn vc X w3 HP3.out HV.out (by omega)).mono ?_
      rintro en w4 ⟨rfl, g4, hp4, hs4⟩
      obtain ⟨hx4, hg4⟩ := hs4.ext HX3.out hpw HG.out
      have HP4 := Lib.hid hp4
      have HX4 := Lib.hid hx4
      clear hp4 hs4 hx4 hg4 HP3 HV HX3 hcv
      go_wp2_with fail
      refine (penBytes_any p g4 _ w4 HP4.out (by simp; omega)).mono ?_
      rintro e w9 ⟨v9, rfl, hv9, hx9⟩
      obtain ⟨a9, n9, c9, rfl, hc9, hm9, hy9⟩ := hv9
      have HX9 := Lib.hid (HX4.out.trans hx9)
      have hcv := conv_bs (P := Try.prog) (src := 22) (dst := 9) (c := c9) Try.underlying22 Try.underlying5 Try.underlying9 hy9
      unfold S at hcv
      have hba := ba_append X X
      clear hx9 hy9 hc9 hm9 HP4 HX4
      go_wp2_with fail
      refine (penBytes_nil w9).mono ?_
      rintro e w' ⟨rfl, rfl⟩
      go_wp2_with fail
      refine (penRaw_nil _ w9).mono ?_
      rintro e w' ⟨rfl, rfl⟩
      go_wp2_with fail
      go_ret
      exact ⟨rfl, HX9.out⟩
end Go.Proofs.Ytabadgpebhiigaa
