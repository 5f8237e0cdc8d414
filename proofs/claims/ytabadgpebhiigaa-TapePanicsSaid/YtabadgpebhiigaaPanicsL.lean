/- TapePanics: the law. -/
import Derived.Test.YtabadgpebhiigaaPanics
namespace Go.Proofs.Ytabadgpebhiigaa
open Go Go.RowKit
/-- How a Read of xs by a Text(0) ends. -/
def endOf (xs : List UInt8) : Int := match rdText 0 xs with
  | .error er => er
  | .ok (_, ys) => if ys = [] then 0 else 13
theorem rdText_err {most : Int} {xs : List UInt8} {e : Int} (h : rdText most xs = .error e) : e ≠ 0 := by
  unfold rdText at h
  rcases rdNum_cases xs with ⟨er, her⟩ | ⟨n, ys, hok⟩
  · rw [her] at h; injection h with h; subst h; exact rdNum_err her
  · rw [hok] at h
    simp only at h
    split at h
    · injection h with h; omega
    · split at h
      · injection h with h; omega
      · cases h
theorem refText_end {t : Nat} {w : World} {xs : List UInt8} {en : Ending} {w' : World} (h : RefOut t w (rdText 0 xs) (S []) (fun bs => S bs) en w') :
    MutO (rdFp t) w w' ∧ ∃ b s e, en = .returned (S b) ∧ RefAt w' t s e ∧ (if e = 0 then (if s = [] then 0 else 13) else e) = endOf xs := by
  obtain ⟨hm, h⟩ := h
  refine ⟨hm, ?_⟩
  rcases hE : rdText 0 xs with er | ⟨bs', ys⟩
  · rw [hE] at h
    obtain ⟨rfl, s, hs⟩ := h
    exact ⟨_, s, er, rfl, hs, by rw [if_neg (rdText_err hE)]; unfold endOf; rw [hE]⟩
  · rw [hE] at h
    obtain ⟨rfl, hs⟩ := h
    exact ⟨_, ys, 0, rfl, hs, by rw [if_pos rfl]; unfold endOf; rw [hE]⟩
set_option maxRecDepth 20000 in
set_option maxHeartbeats 300000 in
theorem tapePanics_all (a : Option Addr) (n c : Nat) (bs : List UInt8) (s : ByteArray) (i : Int) (w : World) (hy : By w a n bs) (hnc : n ≤ c ∧ c ≤ maxLen) (hi : 0 ≤ i ∧ i < 256) :
    Calls Try.prog 10 #[.slice a n c, .string s, .int .u8 i] w fun en w' => en = .returned (.bool true) ∧ Ext w w' := by
  have hmf : ∀ (fn : Fn) (first cap : Array Value) (w : World), (Instr.makeFunc fn first cap).run Try.prog w = .ok (.func fn first cap) w := fun _ _ _ _ => rfl
  obtain ⟨e, rfl⟩ : ∃ e : Nat, i = (e : Int) := ⟨i.toNat, by omega⟩
  have he : e < 256 := by omega
  have HW1 : Hid (wrap64 (e : Int) = (e : Int)) := Lib.hid (IntWalk.wrap64_in _ ⟨by omega, by omega⟩)
  have HW2 : Hid (wrap64 (1 + (e : Int)) = 1 + (e : Int)) := Lib.hid (IntWalk.wrap64_in _ ⟨by omega, by omega⟩)
  have HY := Lib.hid hy
  have HNC := Lib.hid hnc
  clear hy hnc hi
  go_enter Try.func10, Try.ntmps10
  go_wp2_with fail
  have hb0 : Blk ((w.alloc (.cells #[.slice a n c] 22)).alloc (.cells #[.int .u8 (e : Int)] 5)) w.heap.size [.slice a n c] := (Blk.lit w [.slice a n c] 22 _ rfl).ext (Ext.new _ _)
  have he0 : Blk ((w.alloc (.cells #[.slice a n c] 22)).alloc (.cells #[.int .u8 (e : Int)] 5)) (w.heap.size + 1) [.int .u8 (e : Int)] := Blk.lit _ [.int .u8 (e : Int)] 5 _ (by simp)
  have hx0 : Ext w ((w.alloc (.cells #[.slice a n c] 22)).alloc (.cells #[.int .u8 (e : Int)] 5)) := (Ext.new _ _).alloc _
  generalize (w.alloc (.cells #[.slice a n c] 22)).alloc (.cells #[.int .u8 (e : Int)] 5) = w0 at *
  obtain ⟨bc, hbc⟩ : ∃ q, q = w.heap.size := ⟨_, rfl⟩
  obtain ⟨ec, hec⟩ : ∃ q, q = bc + 1 := ⟨_, rfl⟩
  rw [← hbc] at hb0 he0 ⊢
  rw [← hec] at he0 ⊢
  have hbcw : w.heap.size ≤ bc := by omega
  have hecw : w.heap.size ≤ ec := by omega
  refine (first_any w0).mono ?_
  rintro en w1 ⟨rfl, hx1⟩
  have HB1 := Lib.hid (hb0.ext hx1)
  have HE1 := Lib.hid (he0.ext hx1)
  have HX1 := Lib.hid (hx0.trans hx1)
  have g0 := HB1.out.cell 0
  have he1lt := HE1.out.lt
  have hb1lt := HB1.out.lt
  clear hb0 he0 hx0 hx1 hbc hec
  by_cases hbig : 500 < n
  · go_wp2_with fail
    go_ret
    exact ⟨rfl, HX1.out⟩
  · go_wp2_with fail
    have hi2 : Blk ((w1.alloc (.cells #[.int .i64 0] 77)).alloc (.cells #[.bool false] 4)) w1.heap.size [.int .i64 0] := (Blk.lit w1 [.int .i64 0] 77 _ rfl).ext (Ext.new _ _)
    have hh2 : Blk ((w1.alloc (.cells #[.int .i64 0] 77)).alloc (.cells #[.bool false] 4)) (w1.heap.size + 1) [.bool false] := Blk.lit _ [.bool false] 4 _ (by simp)
    have hx2 : Ext w1 ((w1.alloc (.cells #[.int .i64 0] 77)).alloc (.cells #[.bool false] 4)) := (Ext.new _ _).alloc _
    generalize (w1.alloc (.cells #[.int .i64 0] 77)).alloc (.cells #[.bool false] 4) = w2 at *
    obtain ⟨ic, hic⟩ : ∃ q, q = w1.heap.size := ⟨_, rfl⟩
    obtain ⟨hc, hhc⟩ : ∃ q, q = ic + 1 := ⟨_, rfl⟩
    rw [← hic] at hi2 hh2 ⊢
    rw [← hhc] at hh2 ⊢
    have hne : ic ≠ hc := by omega
    have hicw : w.heap.size ≤ ic := by have := HX1.out.le; omega
    have hhcw : w.heap.size ≤ hc := by omega
    have hbi : bc < ic ∧ ec < ic := by omega
    have hih : ic < hc := by omega
    have hx2' := HX1.out.trans hx2
    have hnn : n ≤ 100000000000 := by omega
    have hbl : bs.length ≤ 100000000000 := by have := HY.out.1; omega
    have hh2lt := hh2.lt
    have hrd := read_any w2 a n c bs 52 #[.pointer (some ⟨bc, 0, none⟩), .pointer (some ⟨ec, 0, none⟩), .pointer (some ⟨ic, 0, none⟩), .pointer (some ⟨hc, 0, none⟩)]
      (fun en W => en = .returned (.int .i64 (endOf bs)) ∧ Blk W ic [.int .i64 (1 + (e : Int))] ∧ Blk W hc [.bool true] ∧ Blk W bc [.slice a n c] ∧ Blk W ec [.int .u8 (e : Int)] ∧ Ext w W) (HY.out.ext hx2') HNC.out hnn
      (fun _ _ => by kernel_rfl) fun w8 p8 r8 hx8 hp8 hr8 hb8 hk8 hrd8 => by
        have hx9 := hx2'.trans hx8
        have hxb := hx2.trans hx8
        refine (pan52 w2.heap.size w8 r8 bc ec ic hc a n c bs bs e 0 false he hrd8 (HB1.out.ext hxb) (HY.out.ext hx9) HNC.out hnn hbl (HE1.out.ext hxb) (hi2.ext hx8) (hh2.ext hx8) ⟨by omega, by omega⟩ (by omega) hne).mono ?_
        intro en w9 h9
        unfold Pan52 at h9
        obtain ⟨b1, b2, b3, b4⟩ := h9
        have hfin : ∀ W, MutO (RdFp p8 r8) w9 W → Blk W ic [.int .i64 (1 + (e : Int))] ∧ Blk W hc [.bool true] ∧ Blk W bc [.slice a n c] ∧ Blk W ec [.int .u8 (e : Int)] ∧ Ext w W := fun W hmW =>
          ⟨b1.mut hmW (by unfold RdFp; omega), b2.mut hmW (by unfold RdFp; omega), ((HB1.out.ext hxb).mut b3 (by omega)).mut hmW (by unfold RdFp; omega), ((HE1.out.ext hxb).mut b3 (by omega)).mut hmW (by unfold RdFp; omega),
           MutO.ext (MutO.ext hx9 b3 fun k hk => by omega) hmW fun k hk => by unfold RdFp at hk; omega⟩
        refine ⟨hk8.mut b3 (by omega), ?_⟩
        rcases hE : rdText 0 bs with er | ⟨bs', ys⟩
        · rw [hE] at b4
          obtain ⟨rfl, hr⟩ := b4
          exact .inr (.inl ⟨er, [], rfl, rfl, hr, fun W hW hmW => ⟨by unfold endOf; rw [hE], hfin W hmW⟩⟩)
        · rw [hE] at b4
          obtain ⟨rfl, hr⟩ := b4
          exact .inl ⟨_, ys, rfl, hr, fun W hW hmW => ⟨by unfold endOf; rw [hE], hfin W hmW⟩⟩
    refine hrd.mono ?_
    rintro en w3 ⟨rfl, b1, b2, b3, b4, b5⟩
    clear hrd hi2 hh2 hx2 hx2' HB1 HE1 HX1 hic hhc
    have HI3 := Lib.hid b1
    have HH3 := Lib.hid b2
    have HB3 := Lib.hid b3
    have HE3 := Lib.hid b4
    have HX3 := Lib.hid b5
    have g0 := HB3.out.cell 0
    have hcv := conv_bs (P := Try.prog) (src := 22) (dst := 9) (c := c) Try.underlying22 Try.underlying5 Try.underlying9 (HY.out.ext b5)
    unfold S at hcv
    clear b1 b2 b3 b4 b5
    go_wp2_with fail
    have ht4 : RefAt (w3.alloc (.cells #[.string ⟨bs.toArray⟩, .int .i64 0] 75)) w3.heap.size bs 0 := Blk.lit w3 [.string ⟨bs.toArray⟩, .int .i64 0] 75 _ rfl
    have hx4 := Ext.new w3 (.cells #[.string ⟨bs.toArray⟩, .int .i64 0] 75)
    generalize w3.alloc (.cells #[.string ⟨bs.toArray⟩, .int .i64 0] 75) = w4 at *

    refine (refTText_any w4 _ bs 0 ht4 hbl).mono ?_
    intro en w5 h5

    obtain ⟨hm5, sb, s5, e5, rfl, ht5, hend⟩ := refText_end h5

    have hmx : MutO (rdFp w3.heap.size) w3 w5 := (MutO.of_ext hx4).trans hm5 fun _ _ h => h
    have hx35 : Ext w3 w5 := MutO.ext (Ext.refl w3) hmx fun k hk => by have hk' : k = w3.heap.size := hk; omega

    have HI5 := HI3.out.ext hx35
    have HH5 := Lib.hid (HH3.out.ext hx35)
    have HB5 := Lib.hid (HB3.out.ext hx35)
    have HE5 := Lib.hid (HE3.out.ext hx35)
    have HX5 := Lib.hid (HX3.out.trans hx35)
    have q0 := HI5.cell 0
    have q1 := HH5.out.cell 0
    have q2 := HE5.out.cell 0
    have q3 := HB5.out.cell 0
    have HT5 := Lib.hid ht5

    have HEND := Lib.hid hend

    have hw1 := HW1.out
    have hw2 := HW2.out
    have HS := Lib.hid (And.intro hh2lt (And.intro hb1lt (And.intro he1lt (And.intro hbi (And.intro hih (And.intro hnn (And.intro hbl (And.intro hne (And.intro hicw hhcw)))))))))
    clear hh2lt hb1lt he1lt hbi hih hnn hbl hne hicw hhcw
    clear ht4 hx4 h5 hm5 hmx hx35 HI5 ht5 hend HB3 HE3 HH3 HI3 HX3 g0 hcv
    go_wp2_with fail
    refine (refEnd_any w5 _ s5 e5 HT5.out).mono ?_
    rintro en w' ⟨rfl, rfl⟩
    rw [HEND.out]
    have hnn := HS.out.2.2.2.2.2.1
    have hrd := read_any w5 a n c bs 54 #[.pointer (some ⟨bc, 0, none⟩), .pointer (some ⟨ec, 0, none⟩), .pointer (some ⟨hc, 0, none⟩)]
      (fun en W => en = .returned (.int .i64 (1 + (e : Int))) ∧ Ext w5 W) (HY.out.ext HX5.out) HNC.out hnn
      (fun _ _ => by kernel_rfl) fun w8 p8 r8 hx8 hp8 hr8 hb8 hk8 hrd8 => by
        refine (pan54 w8 r8 bc ec hc a n c bs e he hrd8.any (HB5.out.ext hx8) (HY.out.ext (HX5.out.trans hx8)) HNC.out hnn (HE5.out.ext hx8)).mono ?_
        rintro en w9 ⟨rfl, hx9⟩
        refine ⟨hk8.ext hx9, .inr (.inl ⟨_, _, rfl, rfl, hrd8.any.mut (fp := fun _ => False) (MutO.of_ext hx9) (fun q => q), fun W hW hmW => ⟨rfl, MutO.ext (hx8.trans hx9) hmW fun k hk => ?_⟩⟩)⟩
        rcases hk with rfl | rfl
        · exact hp8
        · exact Nat.le_of_lt hb8
    have HRD := Lib.hid hrd
    clear hrd hnn
    go_wp2_with fail
    refine HRD.out.mono ?_
    rintro en w6 ⟨rfl, hx6⟩
    have q4 := (HH5.out.ext hx6).cell 0
    have q5 := (HE5.out.ext hx6).cell 0
    have q6 := (HB5.out.ext hx6).cell 0
    have hx7 := Lib.hid (HX5.out.trans hx6)
    have hnn := HS.out.2.2.2.2.2.1
    clear q0 q1 q2 q3 HRD hx6
    go_wp2_with fail
    refine (pan56 w6 a n c bs s (HY.out.ext hx7.out) HNC.out hnn).mono ?_
    rintro en w7 ⟨rfl, hx8⟩
    have hx9 := Lib.hid (hx7.out.trans hx8)
    clear hx8 q4 q5 q6
    go_wp2_with fail
    go_ret
    exact ⟨rfl, hx9.out⟩
end Go.Proofs.Ytabadgpebhiigaa
