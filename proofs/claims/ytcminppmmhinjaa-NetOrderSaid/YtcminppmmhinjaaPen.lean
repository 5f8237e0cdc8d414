/- bytes.Clone; the pen: what its methods write. -/
import Derived.Test.YtcminppmmhinjaaMut
import Derived.Test.YtcminppmmhinjaaOwn
import Derived.Test.YtcminppmmhinjaaRegion3
import Derived.Test.YtcminppmmhinjaaRows
import Derived.Laws.BitsAllLaws
namespace Go.Proofs.Ytcminppmmhinjaa
set_option linter.unusedSimpArgs false
set_option linter.unusedVariables false
open Go Go.RowKit

set_option maxHeartbeats 400000 in
theorem clone_any (a : Option Addr) (n c : Nat) (xs : List UInt8) (w : World) (h : By w a n xs) (hc : n ≤ c ∧ c ≤ maxLen) (hn : n ≤ 140737488355328) :
    Calls Try.prog 90 #[.slice a n c] w fun e w' => ∃ v, e = .returned v ∧ w'.ownsRow w.heap.size 5 1 v n (xs.map B) ∧ Ext w w' := by
  obtain ⟨i0, hi, hz0, hz1, hz2⟩ := info_parts (P := Try.prog) (e := 5) (z := .int .u8 0) (size := 1) (bytes := 1) (by kernel_rfl)
  have HI := Lib.hid (And.intro hi (And.intro hz0 (And.intro hz1 hz2)))
  clear hi hz0 hz1 hz2
  have H := Lib.hid h; clear h
  have HC := Lib.hid hc; clear hc
  cases a with
  | none =>
    have hn0 : n = 0 := by
      rcases Nat.eq_zero_or_pos n with h | h
      · exact h
      · obtain ⟨b, off, h2, _⟩ := H.out.2 h; cases h2
    subst hn0
    have hx : xs = [] := List.eq_nil_of_length_eq_zero H.out.1.symm
    subst hx
    have he := fun w => Lib.run_eql_slice_nil (P := Try.prog) w 30 5 none 0 c 0 0 Try.underlying30
    go_enter Try.func90, Try.ntmps90
    go_wp2
    go_ret
    exact ⟨_, rfl, World.ownsRow_nil _ _ _ _, Ext.refl _⟩
  | some ad =>
    have he := fun w => Lib.run_eql_slice_nil (P := Try.prog) w 30 5 (some ad) n c 0 0 Try.underlying30
    go_enter Try.func90, Try.ntmps90
    go_wp2_with (refine wpList_append_any rfl (.tmp 5) (.tmp 6) 30 rfl w.heap.size 5 i0 (.int .u8 0) 1 1 Try.underlying30 HI.out.1 HI.out.2.1 HI.out.2.2.1 HI.out.2.2.2 rfl (by decide) _ 0 [] rfl (own_empty _ w.heap.size _ _ rfl (Nat.le_refl _)) _ _ _ (xs.map B) rfl (By.flat (H.out.ext (Ext.new _ _))) (B_one _) ?c1 ?c2 ?c3 ?c4)
    case c1 => simp only [maxLen]; omega
    case c2 => omega
    case c3 => simp
    intro v w1 hown hg
    have hx : Ext w w1 := (Ext.new w _).grown hg (fun k hk => by simp [Value.ownBlock] at hk; omega)
    have HO := Lib.hid (And.intro hown hx); clear hown hg hx
    go_wp2
    go_ret
    exact ⟨_, rfl, by have := HO.out.1; simpa using this, HO.out.2⟩
/-- The pen at block p has written xs; its bytes lie in block g. -/
def PenAt (w : World) (p : Nat) (g : Option Nat) (xs : List UInt8) : Prop := ∃ sv, Blk w p [sv] ∧ w.ownsRow 0 5 1 sv xs.length (xs.map B) ∧ sv.ownBlock = g ∧ g ≠ some p
/-- The pen's own blocks alone have changed; its bytes lie where they lay, or in a new block. -/
def PenStep (p : Nat) (w : World) (g : Option Nat) (w' : World) (g' : Option Nat) : Prop := MutO (fun k => k = p ∨ g = some k) w w' ∧ (g' = g ∨ ∃ k, g' = some k ∧ w.heap.size ≤ k)
theorem PenStep.refl (p : Nat) (w : World) (g : Option Nat) : PenStep p w g w g := ⟨MutO.refl _ _, .inl rfl⟩
theorem PenStep.trans {p : Nat} {w w1 w2 : World} {g g1 g2 : Option Nat} (h : PenStep p w g w1 g1) (k : PenStep p w1 g1 w2 g2) : PenStep p w g w2 g2 := by
  refine ⟨h.1.trans k.1 fun i hi hf => hf.imp id fun e => ?_, ?_⟩
  · rcases h.2 with h2 | ⟨j, h2, h3⟩
    · rw [← h2]; exact e
    · rw [h2] at e; injection e with e; omega
  · rcases k.2 with rfl | ⟨j, h2, h3⟩
    · exact h.2
    · exact .inr ⟨j, h2, Nat.le_trans h.1.size h3⟩
theorem PenStep.ext {p : Nat} {w0 w w' : World} {g g' : Option Nat} (h : PenStep p w g w' g') (hx : Ext w0 w) (hp : w0.heap.size ≤ p) (hg : ∀ k, g = some k → w0.heap.size ≤ k) : Ext w0 w' ∧ ∀ k, g' = some k → w0.heap.size ≤ k := by
  refine ⟨h.1.ext hx fun k hk => ?_, fun k hk => ?_⟩
  · rcases hk with rfl | hk
    · exact hp
    · exact hg k hk
  · rcases h.2 with h2 | ⟨j, h2, h3⟩
    · exact hg k (h2 ▸ hk)
    · rw [h2] at hk; injection hk with hk; subst hk; exact Nat.le_trans hx.le h3
theorem PenAt.cell {w : World} {p : Nat} {g : Option Nat} {xs : List UInt8} (h : PenAt w p g xs) : ∃ sv, w.cell? ⟨p, 0, none⟩ = some sv ∧ w.frozen? ⟨p, 0, none⟩ = false ∧ w.ownsRow 0 5 1 sv xs.length (xs.map B) ∧ sv.ownBlock = g ∧ g ≠ some p ∧ p < w.heap.size := by
  obtain ⟨sv, h1, h2, h3, h4⟩ := h
  exact ⟨sv, h1.cell 0, h1.free 0, h2, h3, h4, h1.lt⟩
theorem PenAt.mut {fp : Nat → Prop} {w w' : World} {p : Nat} {g : Option Nat} {xs : List UInt8} (h : PenAt w p g xs) (hm : MutO fp w w') (hp : ¬ fp p) (hg : ∀ k, g = some k → ¬ fp k) : PenAt w' p g xs := by
  obtain ⟨sv, ⟨ty, h1⟩, h2, h3, h4⟩ := h
  refine ⟨sv, ⟨ty, by rw [hm.block p (Array.getElem?_eq_some_iff.1 h1).1 hp]; exact h1⟩, ⟨h2.1, ?_⟩, h3, h4⟩
  rcases h2.2 with h5 | ⟨k, cap, cur, hv, hb, hk, r⟩
  · exact .inl h5
  · exact .inr ⟨k, cap, cur, hv, hb, by rw [hm.block k (Array.getElem?_eq_some_iff.1 hk).1 (hg k (by rw [← h3, hv]; rfl))]; exact hk, r⟩
/-- p.b = append(p.b, ys..), behind the append and the store. -/
theorem pen_put {w0 w w1 : World} {p : Nat} {g : Option Nat} {xs ys : List UInt8} {v' sv : Value} (h : PenAt w0 p g xs) (hx : Ext w0 w) (hsv : w0.cell? ⟨p, 0, none⟩ = some sv)
    (ho : w1.ownsRow 0 5 1 v' (xs.length + ys.length) (xs.map B ++ ys.map B)) (hg : GrownBy w w1 sv.ownBlock) (hb : v'.ownBlock = sv.ownBlock ∨ v'.ownBlock = some w.heap.size) :
    PenAt (w1.setCell ⟨p, 0, none⟩ v') p v'.ownBlock (xs ++ ys) ∧ PenStep p w0 g (w1.setCell ⟨p, 0, none⟩ v') v'.ownBlock := by
  obtain ⟨sv', h1, h2, h3, h4⟩ := h
  have e : sv' = sv := by have := h1.cell 0; rw [hsv] at this; simpa using this.symm
  subst e
  have hlt := h1.lt
  have hle := hx.le
  have hne : v'.ownBlock ≠ some p := by
    rcases hb with hb | hb
    · rw [hb, h3]; exact h4
    · rw [hb]; intro e; injection e with e; omega
  have hb1 : Blk w1 p [sv'] := by
    obtain ⟨ty, h5⟩ := h1
    refine ⟨ty, ?_⟩
    rw [hg.block p (by omega) (by rw [h3]; exact fun e => h4 e.symm)]
    exact hx.block h5
  refine ⟨⟨v', ?_, ?_, rfl, hne⟩, ?_, ?_⟩
  · have := hb1.set 0 v'; simpa using this
  · rw [List.length_append, List.map_append]
    refine ⟨ho.1, ?_⟩
    rcases ho.2 with h5 | ⟨k, cap, cur, hv, hb0, hk, r⟩
    · exact .inl h5
    · refine .inr ⟨k, cap, cur, hv, hb0, ?_, r⟩
      rw [Below.heap_setCell _ _ _ _ (fun e => hne (by rw [hv]; simp [Value.ownBlock, e]))]
      exact hk
  · refine MutO.set (MutO.grown (MutO.of_ext hx) hg fun k hk _ => ?_) (Or.inl rfl) _
    right; rw [← h3]; exact hk
  · rcases hb with hb | hb
    · exact .inl (hb.trans h3)
    · exact .inr ⟨_, hb, hle⟩

/-- A slice whose block is outside the footprint stays. -/
theorem By.mut {fp : Nat → Prop} {w w' : World} {a : Option Addr} {n : Nat} {xs : List UInt8} (h : By w a n xs) (hm : MutO fp w w') (ha : 0 < n → ∀ ad, a = some ad → ¬ fp ad.block) : By w' a n xs := by
  refine ⟨h.1, fun h0 => ?_⟩
  obtain ⟨b, off, rfl, hc⟩ := h.2 h0
  refine ⟨b, off, rfl, fun i x hi => ?_⟩
  have h1 := hc i x hi
  unfold byteR at *
  have hlt := World.block_lt_of_cell? w _ h1
  rw [World.cell?_of_block (w := w) (hm.block b hlt (ha h0 _ rfl))]
  exact h1
/-- The bytes of a number. -/
def numF : Nat → Nat → List UInt8
  | 0, _ => []
  | f + 1, n => if n < 128 then [UInt8.ofNat n] else UInt8.ofNat (128 + n % 128) :: numF f (n / 128)
def numB (n : Nat) : List UInt8 := numF 10 n
theorem numF_len (f n : Nat) : (numF f n).length ≤ f := by
  induction f generalizing n with
  | zero => simp [numF]
  | succ f ih => unfold numF; split <;> simp; exact ih _

theorem or_128 : ∀ x : Nat, x < 256 → x ||| 128 = 128 + x % 128 := by decide +kernel
theorem B_or (m : Nat) : Value.int .u8 (bits .or .u8 ((m : Int) % 256) 128) = B (UInt8.ofNat (128 + m % 128)) := by
  have h1 := u8_or_nat (m % 256) 128 (by omega) (by omega)
  rw [show (((m % 256 : Nat) : Int)) = (m : Int) % 256 by omega, show ((128 : Nat) : Int) = 128 by rfl, or_128 _ (by omega)] at h1
  rw [h1]
  unfold B
  congr 2
  simp
  omega
theorem B_nat (m : Nat) (h : m < 256) : Value.int .u8 (m : Int) = B (UInt8.ofNat m) := by
  unfold B; congr 2; simp; omega
theorem numF_more (f m : Nat) (h : 128 ≤ m) : numF (f + 1) m = UInt8.ofNat (128 + m % 128) :: numF f (m / 128) := by
  rw [numF, if_neg (by omega)]
theorem numF_last (f m : Nat) (h : ¬ 128 ≤ m) : numF (f + 1) m = [UInt8.ofNat m] := by
  rw [numF, if_pos (by omega)]

set_option maxRecDepth 100000 in
set_option maxHeartbeats 1000000 in
theorem penNumber_any (p : Nat) (g : Option Nat) (xs : List UInt8) (n : Nat) (w : World) (h : PenAt w p g xs) (hn : n < 9223372036854775808) (hl : xs.length ≤ 100000000) :
    Calls Try.prog 136 #[.pointer (some ⟨p, 0, none⟩), .int .i64 (n : Int)] w fun e w' => e = .returned (.bool true) ∧ ∃ g', PenAt w' p g' (xs ++ numB n) ∧ PenStep p w g w' g' := by
  obtain ⟨i0, hi, hz0, hz1, hz2⟩ := info_parts (P := Try.prog) (e := 5) (z := .int .u8 0) (size := 1) (bytes := 1) (by kernel_rfl)
  have HI := Lib.hid (And.intro hi (And.intro hz0 (And.intro hz1 hz2)))
  clear hi hz0 hz1 hz2
  have HP := Lib.hid h; clear h
  go_enter Try.func136, Try.ntmps136
  go_wp2
  go_loopw [1] (fun i wr => ∃ (k m : Nat) (done : List UInt8), m * 128 ^ k ≤ n ∧ k ≤ 9 ∧ i = .int .i64 (m : Int) ∧ numF 10 n = done ++ numF (10 - k) m ∧ ∃ g', PenAt wr p g' (xs ++ done) ∧ PenStep p w g wr g') (fun i _ => (intOf i).toNat)
  case atStart => exact ⟨0, n, [], by simp, by omega, rfl, by simp, g, by simpa using HP.out, PenStep.refl _ _ _⟩
  case round =>
    obtain ⟨k, m, done, hmk, hk, rfl, hnum, g', hpen, hstep⟩ := hrel
    have hm : m < 9223372036854775808 := by
      have h1 : m * 1 ≤ m * 128 ^ k := Nat.mul_le_mul_left m (Nat.one_le_pow _ _ (by decide))
      omega
    have hdl : done.length ≤ 10 := by
      have h1 := congrArg List.length hnum
      have h2 := numF_len 10 n
      rw [List.length_append] at h1
      omega
    obtain ⟨sv, hc, hf, ho, hsg, hgp, hplt⟩ := hpen.cell
    have HP' := Lib.hid hpen; clear hpen
    have HS := Lib.hid hstep; clear hstep
    have HO := Lib.hid ho; clear ho
    have HN := Lib.hid hnum; clear hnum
    have HK := Lib.hid hmk; clear hmk
    have HG := Lib.hid hsg; clear hsg
    have HG2 : Hid (some p ≠ g') := Lib.hid (fun e => hgp e.symm)
    clear hgp
    by_cases hlt : 128 ≤ m
    · go_wp2_with (refine wpList_append_fp rfl (.tmp 19) (.tmp 23) 30 rfl 0 5 i0 (.int .u8 0) 1 1 Try.underlying30 HI.out.1 HI.out.2.1 HI.out.2.2.1 HI.out.2.2.2 rfl (by decide) _ _ ((xs ++ done).map B) rfl (own_ext HO.out (Ext.new _ _)) _ 1 1 [_] rfl (flat_one _ _ _) (one_mem rfl) ?c1 ?c2 ?c3 ?c4)
      case c1 => simp [maxLen]; omega
      case c2 => simp; omega
      case c3 => omega
      intro v' w1 hown hgr hblk
      obtain ⟨va, vc, rfl⟩ := own_slice hown
      obtain ⟨hc0, hf0⟩ := alloc_at _ hc hf
      obtain ⟨hc1, hf1⟩ := grown_at hgr hc0 hf0 (by rw [HG.out]; exact HG2.out)
      have hput := pen_put (ys := [UInt8.ofNat (128 + m % 128)]) HP'.out (Ext.new _ _) hc (by rw [B_or] at hown; simpa [Nat.add_assoc] using hown) hgr (by simpa [Nat.add_assoc] using hblk)
      have HPut := Lib.hid hput
      clear hput hown hgr hblk hc0 hf0
      go_wp2
      go_roundw
      case rel =>
        refine ⟨k + 1, m / 128, done ++ [UInt8.ofNat (128 + m % 128)], ?_, ?_, by go_num, ?_, _, by rw [← List.append_assoc]; exact HPut.out.1, HS.out.trans HPut.out.2⟩
        · have h1 := HK.out
          rw [Nat.pow_succ, Nat.mul_comm (128 ^ k), ← Nat.mul_assoc]
          exact Nat.le_trans (Nat.mul_le_mul_right _ (Nat.div_mul_le_self m 128)) h1
        · rcases Nat.lt_or_ge k 9 with h | h
          · omega
          · exfalso
            obtain rfl : k = 9 := by omega
            have h1 := HK.out
            have h2 : 128 * 128 ^ 9 ≤ m * 128 ^ 9 := Nat.mul_le_mul_right _ hlt
            have h3 : (128 : Nat) ^ 9 = 9223372036854775808 := by decide
            rw [h3] at h1 h2
            omega
        · rcases Nat.lt_or_ge k 9 with h | h
          · rw [HN.out, show 10 - k = (9 - k) + 1 by omega, numF_more _ _ hlt, List.append_assoc, show 10 - (k + 1) = 9 - k by omega]; rfl
          · exfalso
            obtain rfl : k = 9 := by omega
            have h1 := HK.out
            have h2 : 128 * 128 ^ 9 ≤ m * 128 ^ 9 := Nat.mul_le_mul_right _ hlt
            have h3 : (128 : Nat) ^ 9 = 9223372036854775808 := by decide
            rw [h3] at h1 h2
            omega
      case measure => simp [intOf]; omega
    · skip
      go_wp2_with (refine wpList_append_fp rfl (.tmp 31) (.tmp 34) 30 rfl 0 5 i0 (.int .u8 0) 1 1 Try.underlying30 HI.out.1 HI.out.2.1 HI.out.2.2.1 HI.out.2.2.2 rfl (by decide) _ _ ((xs ++ done).map B) rfl (own_ext HO.out (Ext.new _ _)) _ 1 1 [_] rfl (flat_one _ _ _) (one_mem rfl) ?d1 ?d2 ?d3 ?d4)
      case d1 => simp [maxLen]; omega
      case d2 => simp; omega
      case d3 => omega
      intro v' w1 hown hgr hblk
      obtain ⟨va, vc, rfl⟩ := own_slice hown
      obtain ⟨hc0, hf0⟩ := alloc_at _ hc hf
      obtain ⟨hc1, hf1⟩ := grown_at hgr hc0 hf0 (by rw [HG.out]; exact HG2.out)
      have hput := pen_put (ys := [UInt8.ofNat m]) HP'.out (Ext.new _ _) hc (by rw [B_nat m (by omega)] at hown; simpa [Nat.add_assoc] using hown) hgr (by simpa [Nat.add_assoc] using hblk)
      have HPut := Lib.hid hput
      clear hput hown hgr hblk hc0 hf0
      go_wp2
      go_ret
      refine ⟨rfl, _, ?_, HS.out.trans HPut.out.2⟩
      have e : numB n = done ++ [UInt8.ofNat m] := by
        unfold numB
        rw [HN.out, show 10 - k = (9 - k) + 1 by omega, numF_last _ _ hlt]
      rw [e, ← List.append_assoc]
      exact HPut.out.1
set_option maxRecDepth 100000 in
set_option maxHeartbeats 1000000 in
theorem penNumber_neg (a : Option Addr) (n : Int) (w : World) (h : a = none ∨ n < 0) :
    Calls Try.prog 136 #[.pointer a, .int .i64 n] w fun e w' => e = .returned (.bool false) ∧ w = w' := by
  cases a with
  | none =>
    go_enter Try.func136, Try.ntmps136
    go_wp2
    go_ret
    exact ⟨rfl, rfl⟩
  | some ad =>
    have hn : n < 0 := by rcases h with h | h; cases h; exact h
    go_enter Try.func136, Try.ntmps136
    go_wp2
    go_ret
    exact ⟨rfl, rfl⟩
set_option maxRecDepth 100000 in
set_option maxHeartbeats 1000000 in
theorem penRaw_any (p : Nat) (g : Option Nat) (xs : List UInt8) (a : Option Addr) (m c : Nat) (ys : List UInt8) (w : World) (h : PenAt w p g xs) (hy : By w a m ys) (hl : xs.length + ys.length ≤ 100000000000000) :
    Calls Try.prog 137 #[.pointer (some ⟨p, 0, none⟩), .slice a m c] w fun e w' => e = .returned (.bool true) ∧ ∃ g', PenAt w' p g' (xs ++ ys) ∧ PenStep p w g w' g' := by
  obtain ⟨i0, hi, hz0, hz1, hz2⟩ := info_parts (P := Try.prog) (e := 5) (z := .int .u8 0) (size := 1) (bytes := 1) (by kernel_rfl)
  have HI := Lib.hid (And.intro hi (And.intro hz0 (And.intro hz1 hz2)))
  clear hi hz0 hz1 hz2
  have hm := hy.1
  have hml : m ≤ 100000000000000 := by omega
  have HM := Lib.hid hm; clear hm
  have HY := Lib.hid hy; clear hy
  obtain ⟨sv, hc, hf, ho, hsg, hgp, hplt⟩ := h.cell
  have HP := Lib.hid h; clear h
  have HO := Lib.hid ho; clear ho
  have HG : Hid (some p ≠ sv.ownBlock) := Lib.hid (fun e => by rw [hsg] at e; exact hgp e.symm)
  clear hsg hgp
  go_enter Try.func137, Try.ntmps137
  go_wp2_with (refine wpList_append_fp rfl (.tmp 11) (.tmp 12) 30 rfl 0 5 i0 (.int .u8 0) 1 1 Try.underlying30 HI.out.1 HI.out.2.1 HI.out.2.2.1 HI.out.2.2.2 rfl (by decide) _ _ (xs.map B) rfl (HO.out) _ _ _ (ys.map B) rfl (By.flat HY.out) (B_one _) ?c1 ?c2 ?c3 ?c4)
  case c1 => simp [maxLen]; omega
  case c2 => have := HM.out; simp; omega
  case c3 => omega
  intro v' w1 hown hgr hblk
  obtain ⟨va, vc, rfl⟩ := own_slice hown
  obtain ⟨hc1, hf1⟩ := grown_at hgr hc hf HG.out
  have HPut := Lib.hid (pen_put (ys := ys) HP.out (Ext.refl _) hc (by have := HM.out; subst this; exact hown) hgr hblk)
  clear hown hgr hblk
  go_wp2
  go_ret
  exact ⟨rfl, _, HPut.out.1, HPut.out.2⟩
set_option maxRecDepth 100000 in
set_option maxHeartbeats 1000000 in
theorem penRaw_nil (v : Value) (w : World) :
    Calls Try.prog 137 #[.pointer none, v] w fun e w' => e = .returned (.bool false) ∧ w = w' := by
  go_enter Try.func137, Try.ntmps137
  go_wp2
  go_ret
  exact ⟨rfl, rfl⟩
set_option maxRecDepth 100000 in
set_option maxHeartbeats 1000000 in
theorem penText_any (p : Nat) (g : Option Nat) (xs : List UInt8) (a : Option Addr) (m c : Nat) (ys : List UInt8) (w : World) (h : PenAt w p g xs) (hy : By w a m ys) (hm2 : m ≤ 2048) (hl : xs.length ≤ 50000000) (hlt : 0 < m → ∀ ad, a = some ad → ad.block ≠ p ∧ g ≠ some ad.block) :
    Calls Try.prog 183 #[.pointer (some ⟨p, 0, none⟩), .slice a m c] w fun e w' => e = .returned (.bool true) ∧ ∃ g', PenAt w' p g' (xs ++ (numB m ++ ys)) ∧ PenStep p w g w' g' := by
  obtain ⟨i0, hi, hz0, hz1, hz2⟩ := info_parts (P := Try.prog) (e := 5) (z := .int .u8 0) (size := 1) (bytes := 1) (by kernel_rfl)
  have HI := Lib.hid (And.intro hi (And.intro hz0 (And.intro hz1 hz2)))
  clear hi hz0 hz1 hz2
  have hm := hy.1
  have HM := Lib.hid hm; clear hm
  have HY := Lib.hid hy; clear hy
  have HP := Lib.hid h; clear h
  have HLT := Lib.hid hlt; clear hlt
  go_enter Try.func183, Try.ntmps183
  go_wp2_with fail
  refine (penNumber_any p g xs m _ HP.out (by omega) (by omega)).mono ?_
  rintro e w2 ⟨rfl, g2, hp2, hs2⟩
  obtain ⟨sv, hc, hf, ho, hsg, hgp, hplt⟩ := hp2.cell
  have hy2 : By w2 a m ys := By.mut HY.out hs2.1 (fun h0 ad had hx => by
    have := HLT.out h0 ad had
    exact hx.elim this.1 this.2)
  have HY2 := Lib.hid hy2; clear hy2
  have HS := Lib.hid hs2; clear hs2
  have HP2 := Lib.hid hp2; clear hp2
  have HO := Lib.hid ho; clear ho
  have HG : Hid (some p ≠ sv.ownBlock) := Lib.hid (fun e => by rw [hsg] at e; exact hgp e.symm)
  clear hsg hgp
  have hnl : (numB m).length ≤ 10 := numF_len 10 m
  go_wp2_with (refine wpList_append_fp rfl (.tmp 20) (.tmp 21) 30 rfl 0 5 i0 (.int .u8 0) 1 1 Try.underlying30 HI.out.1 HI.out.2.1 HI.out.2.2.1 HI.out.2.2.2 rfl (by decide) _ _ ((xs ++ numB m).map B) rfl (HO.out) _ _ _ (ys.map B) rfl (By.flat HY2.out) (B_one _) ?c1 ?c2 ?c3 ?c4)
  case c1 => simp [maxLen]; omega
  case c2 => have := HM.out; simp; omega
  case c3 => omega
  intro v' w1 hown hgr hblk
  obtain ⟨va, vc, rfl⟩ := own_slice hown
  obtain ⟨hc1, hf1⟩ := grown_at hgr hc hf HG.out
  have HPut := Lib.hid (pen_put (ys := ys) HP2.out (Ext.refl _) hc (by have := HM.out; subst this; simpa using hown) hgr hblk)
  clear hown hgr hblk
  go_wp2
  go_ret
  exact ⟨rfl, _, by rw [← List.append_assoc]; exact HPut.out.1, HS.out.trans HPut.out.2⟩
set_option maxRecDepth 100000 in
set_option maxHeartbeats 1000000 in
theorem penText_no (pa : Option Addr) (a : Option Addr) (m c : Nat) (w : World) (h : pa = none ∨ 2048 < m) :
    Calls Try.prog 183 #[.pointer pa, .slice a m c] w fun e w' => e = .returned (.bool false) ∧ w = w' := by
  cases pa with
  | none =>
    go_enter Try.func183, Try.ntmps183
    go_wp2
    go_ret
    exact ⟨rfl, rfl⟩
  | some ad =>
    have hn : 2048 < m := by rcases h with h | h; cases h; exact h
    go_enter Try.func183, Try.ntmps183
    go_wp2
    go_ret
    exact ⟨rfl, rfl⟩
set_option maxRecDepth 100000 in
set_option maxHeartbeats 1000000 in
theorem penBytes_any (p : Nat) (g : Option Nat) (xs : List UInt8) (w : World) (h : PenAt w p g xs) (hl : xs.length ≤ 100000000000000) :
    Calls Try.prog 69 #[.pointer (some ⟨p, 0, none⟩)] w fun e w' => ∃ v, e = .returned v ∧ IsBy w' v xs ∧ Ext w w' := by
  obtain ⟨sv, hc, hf, ho, hsg, hgp, hplt⟩ := h.cell
  obtain ⟨a, n, c, rfl, hnc, hcm, hb⟩ := own_by ho
  have HB := Lib.hid hb; clear hb
  have HC := Lib.hid (And.intro hnc hcm); clear hnc hcm
  clear h ho hsg hgp
  go_enter Try.func69, Try.ntmps69
  go_wp2_with fail
  refine (clone_any _ _ _ xs _ HB.out HC.out (by have := HB.out.1; omega)).mono ?_
  rintro e w1 ⟨v, rfl, hown, hx⟩
  have HO := Lib.hid (And.intro (own_by hown) hx); clear hown hx
  go_wp2
  go_ret
  exact ⟨_, rfl, HO.out.1, HO.out.2⟩
theorem penBytes_own (p : Nat) (g : Option Nat) (xs : List UInt8) (w : World) (h : PenAt w p g xs) (hl : xs.length ≤ 100000000000000) :
    Calls Try.prog 69 #[.pointer (some ⟨p, 0, none⟩)] w fun e w' => ∃ v, e = .returned v ∧ w'.ownsRow w.heap.size 5 1 v xs.length (xs.map B) ∧ Ext w w' := by
  obtain ⟨sv, hc, hf, ho, hsg, hgp, hplt⟩ := h.cell
  obtain ⟨a, n, c, rfl, hnc, hcm, hb⟩ := own_by ho
  have hn : n = xs.length := hb.1
  have HB := Lib.hid hb; clear hb
  have HC := Lib.hid (And.intro hnc hcm); clear hnc hcm
  have HN := Lib.hid hn
  clear h ho hsg hgp hn
  go_enter Try.func69, Try.ntmps69
  go_wp2_with fail
  refine (clone_any _ _ _ xs _ HB.out HC.out (by have := HB.out.1; omega)).mono ?_
  rintro e w1 ⟨v, rfl, hown, hx⟩
  have HO := Lib.hid (And.intro hown hx); clear hown hx
  go_wp2
  go_ret
  exact ⟨_, rfl, HN.out ▸ HO.out.1, HO.out.2⟩
set_option maxRecDepth 100000 in
set_option maxHeartbeats 1000000 in
theorem penBytes_nil (w : World) :
    Calls Try.prog 69 #[.pointer none] w fun e w' => e = .returned (.slice none 0 0) ∧ w = w' := by
  go_enter Try.func69, Try.ntmps69
  go_wp2
  go_ret
  exact ⟨rfl, rfl⟩
end Go.Proofs.Ytcminppmmhinjaa
