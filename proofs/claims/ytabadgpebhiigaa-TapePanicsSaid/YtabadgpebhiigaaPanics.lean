/- TapePanics: its functions. -/
import Derived.Test.YtabadgpebhiigaaFirst
import Derived.Test.YtabadgpebhiigaaRefTapeB
namespace Go.Proofs.Ytabadgpebhiigaa
open Go Go.RowKit
theorem pan53 (w : World) (s c : Nat) (e : Nat) (he : e < 256) (h : RdAny w s) (hc : Blk w c [.int .u8 (e : Int)]) :
    Calls Try.prog 53 #[.pointer (some ⟨s, 0, none⟩), .pointer (some ⟨c, 0, none⟩)] w fun en w' => en = .panicked [{ v := failV s (1 + (e : Int)), recovered := false }] ∧ w = w' := by
  have g := hc.cell 0
  have H := Lib.hid h
  have hw1 : wrap64 (e : Int) = (e : Int) := IntWalk.wrap64_in _ ⟨by omega, by omega⟩
  have hw2 : wrap64 (1 + (e : Int)) = 1 + (e : Int) := IntWalk.wrap64_in _ ⟨by omega, by omega⟩
  clear h hc
  go_enter Try.func53, Try.ntmps53
  go_wp2_with fail
  refine (fail_any _ s _ H.out (by omega)).mono ?_
  rintro en w' ⟨rfl, rfl⟩
  exact ⟨rfl, rfl, rfl⟩
theorem pan55 (w : World) (s q r c : Nat) (e : Nat) (he : e < 256) (h : RdAny w r) (hq : Blk w q [.pointer (some ⟨r, 0, none⟩)]) (hc : Blk w c [.int .u8 (e : Int)]) :
    Calls Try.prog 55 #[.pointer (some ⟨s, 0, none⟩), .pointer (some ⟨q, 0, none⟩), .pointer (some ⟨c, 0, none⟩)] w fun en w' => en = .panicked [{ v := failV r (1 + (e : Int)), recovered := false }] ∧ w = w' := by
  have g := hc.cell 0
  have g' := hq.cell 0
  have H := Lib.hid h
  have hw1 : wrap64 (e : Int) = (e : Int) := IntWalk.wrap64_in _ ⟨by omega, by omega⟩
  have hw2 : wrap64 (1 + (e : Int)) = 1 + (e : Int) := IntWalk.wrap64_in _ ⟨by omega, by omega⟩
  clear h hc hq
  go_enter Try.func55, Try.ntmps55
  go_wp2_with fail
  refine (fail_any _ r _ H.out (by omega)).mono ?_
  rintro en w' ⟨rfl, rfl⟩
  exact ⟨rfl, rfl, rfl⟩
theorem pan81 (w : World) (s c : Nat) (x : Value) (hc : Blk w c [x]) (hx : ∃ b, x = .string b) :
    Calls Try.prog 81 #[.pointer (some ⟨s, 0, none⟩), .pointer (some ⟨c, 0, none⟩)] w fun en w' => en = .panicked [{ v := .iface 9 x, recovered := false }] ∧ w = w' := by
  obtain ⟨b, rfl⟩ := hx
  have g := hc.cell 0
  clear hc
  go_enter Try.func81, Try.ntmps81
  go_wp2
  exact ⟨rfl, rfl, rfl⟩
theorem ta_str (w : World) (v : Value) : (Instr.typeAssert (.iface 9 v) 20 9 true).run Try.prog w = .ok (.tuple #[v, .bool true]) w := by kernel_rfl
set_option maxRecDepth 20000 in
theorem pan80 (w : World) (p c : Nat) (x : ByteArray) (y : Value) (hy : ∃ b, y = .string b) (older : List PanicEntry) (hp : Blk w p [y]) :
    CallsD Try.prog 80 #[.pointer (some ⟨p, 0, none⟩), .pointer (some ⟨c, 0, none⟩)] (.panicking ({ v := .iface 9 (.string x), recovered := false } :: older)) w fun en u w' =>
      en = .returned (.tuple #[]) ∧ u = .panicking ({ v := .iface 9 (.string x), recovered := true } :: older) ∧ w.setCell ⟨p, 0, none⟩ (.string x) = w' := by
  obtain ⟨yb, rfl⟩ := hy
  have g := hp.cell 0
  have f := hp.free 0
  have hta := ta_str w (.string x)
  clear hp
  refine callsD_of_wpS Try.func80 rfl fun c₀ cs hu => ?_
  simp only [Try.ntmps80, List.size_toArray, List.length_cons, List.length_nil, Nat.reduceAdd, Nat.reduceSub, Array.replicate_succ,
     Array.replicate_zero, List.push_toArray, List.append_toArray, List.nil_append, List.cons_append]
  have hrec := recoverD_panic (cs := cs) hu
  apply wpS_seq
  apply wpS_region
  simp [wpOpsS, go_sem, hrec, hta, Exit.thenS]
  refine wpS_of_wp ?_
  go_wp2
  cases c₀
  simp_all [bodyPostS, results, Try.results80]
/-- What the first closure of TapePanics comes to. -/
def Pan52 (z : Nat) (w0 : World) (r ic hc : Nat) (e : Nat) (xs : List UInt8) : Ending → World → Prop := fun en w' =>
  Blk w' ic [.int .i64 (1 + (e : Int))] ∧ Blk w' hc [.bool true] ∧ MutO (fun k => k = r ∨ k = ic ∨ k = hc) w0 w' ∧
  match rdText 0 xs with
  | .error er => en = .panicked [{ v := failV r er, recovered := false }] ∧ RdAny w' r
  | .ok (_, ys) => en = .returned (.tuple #[]) ∧ RdAt z w' r ys
set_option maxRecDepth 20000 in
set_option maxRecDepth 100000 in
set_option maxHeartbeats 1000000 in
theorem pan52 (z : Nat) (w : World) (r bc ec ic hc : Nat) (a : Option Addr) (n c : Nat) (bs xs : List UInt8) (e : Nat) (x : Int) (y : Bool) (he : e < 256) (h : RdAt z w r xs) (hb : Blk w bc [.slice a n c]) (hy : By w a n bs) (hnc : n ≤ c ∧ c ≤ maxLen) (hn : n ≤ 100000000000) (hxl : xs.length ≤ 100000000000)
    (hec : Blk w ec [.int .u8 (e : Int)]) (hic : Blk w ic [.int .i64 x]) (hhc : Blk w hc [.bool y]) (hz : ic < z ∧ hc < z) (hzr : z ≤ r) (hne : ic ≠ hc) :
    Calls Try.prog 52 #[.pointer (some ⟨r, 0, none⟩), .pointer (some ⟨bc, 0, none⟩), .pointer (some ⟨ec, 0, none⟩), .pointer (some ⟨ic, 0, none⟩), .pointer (some ⟨hc, 0, none⟩)] w (Pan52 z w r ic hc e xs) := by
  have hmf : ∀ (fn : Fn) (first cap : Array Value) (w : World), (Instr.makeFunc fn first cap).run Try.prog w = .ok (.func fn first cap) w := fun _ _ _ _ => rfl
  have H := Lib.hid h
  have HE := Lib.hid hec
  have HI := Lib.hid hic
  have HH := Lib.hid hhc
  have hir : ic ≠ r := by omega
  have hhr : hc ≠ r := by omega
  have g0 := hb.cell 0
  have hrd := read_any w a n c bs 53 #[.pointer (some ⟨ec, 0, none⟩)]
    (fun en W => en = .returned (.int .i64 (1 + (e : Int))) ∧ Ext w W) hy hnc hn
    (fun _ _ => by kernel_rfl) fun w8 p8 r8 hx8 hp8 hr8 hb8 hk8 hrd8 => by
      refine (pan53 w8 r8 ec e he hrd8.any (HE.out.ext hx8)).mono ?_
      rintro en w9 ⟨rfl, rfl⟩
      exact ⟨hk8, .inr (.inl ⟨_, [], rfl, rfl, hrd8.any, fun W hW hmW => ⟨rfl, MutO.ext hx8 hmW fun k hk => by unfold RdFp at hk; omega⟩⟩)⟩
  have HRD := Lib.hid hrd
  clear h hec hic hhc hb hy hnc hn hrd
  go_enter Try.func52, Try.ntmps52
  go_wp2_with fail
  refine HRD.out.mono ?_
  rintro en w1 ⟨rfl, hx1⟩
  have hi1 := HI.out.ext hx1
  have hh1 := HH.out.ext hx1
  have q0 := hi1.cell 0
  have q1 := hi1.free 0
  have q2 := hh1.cell 0
  have q3 := hh1.free 0
  have hW : ∀ W, W = (w1.setCell ⟨ic, 0, none⟩ (.int .i64 (1 + (e : Int)))).setCell ⟨hc, 0, none⟩ (.bool true) → Blk W ic [.int .i64 (1 + (e : Int))] ∧ Blk W hc [.bool true] ∧ RdAt z W r xs ∧ MutO (fun k => k = r ∨ k = ic ∨ k = hc) w W := fun W hW => by
    subst hW
    have m1 := set_one w1 ic (.int .i64 (1 + (e : Int)))
    have m2 := set_one (w1.setCell ⟨ic, 0, none⟩ (.int .i64 (1 + (e : Int)))) hc (.bool true)
    refine ⟨(hi1.set 0 _).mut m2 hne, (hh1.mut m1 (fun q => hne q.symm)).set 0 _, ((H.out.mut (fp := fun _ => False) (MutO.of_ext hx1) (fun q => q) (fun _ q => q.elim)).mut m1 hir.symm (fun k hk => by omega)).mut m2 hhr.symm (fun k hk => by omega), ?_⟩
    exact ((MutO.of_ext hx1).trans (m1.mono fun _ h => .inr (.inl h)) fun _ _ h => h).trans (m2.mono fun _ h => .inr (.inr h)) fun _ _ h => h
  have HW := Lib.hid hW
  clear hW hi1 hh1 hx1
  go_wp2_with fail
  obtain ⟨b1, b2, b3, b4⟩ := HW.out _ rfl
  clear HW
  generalize (w1.setCell ⟨ic, 0, none⟩ (.int .i64 (1 + (e : Int)))).setCell ⟨hc, 0, none⟩ (.bool true) = w2 at *
  refine (text_any _ r _ 0 b3 hxl).mono ?_
  intro en w3 h3
  rcases hE : rdText 0 xs with er | ⟨bs', ys⟩
  · rw [hE] at h3
    obtain ⟨rfl, hr3, hm3⟩ := h3
    refine ⟨rfl, ?_⟩
    unfold Pan52
    rw [hE]
    exact ⟨b1.mut hm3 hir, b2.mut hm3 hhr, b4.trans (hm3.mono fun _ h => .inl h) fun _ _ h => h, rfl, hr3⟩
  · rw [hE] at h3
    obtain ⟨v, rfl, _, hr3, hm3⟩ := h3
    have HQ : Hid (Pan52 z w r ic hc e xs (.returned (.tuple #[])) w3) := Lib.hid (by
      unfold Pan52
      rw [hE]
      exact ⟨b1.mut hm3 hir, b2.mut hm3 hhr, b4.trans (hm3.mono fun _ h => .inl h) fun _ _ h => h, rfl, hr3⟩)
    clear b1 b2 b3 b4 hm3 hr3 hE
    go_wp2_with fail
    go_end0
    exact HQ.out
set_option maxRecDepth 20000 in
set_option maxRecDepth 100000 in
set_option maxHeartbeats 1000000 in
theorem pan54 (w : World) (r bc ec hc : Nat) (a : Option Addr) (n c : Nat) (bs : List UInt8) (e : Nat) (he : e < 256) (h : RdAny w r) (hb : Blk w bc [.slice a n c]) (hy : By w a n bs) (hnc : n ≤ c ∧ c ≤ maxLen) (hn : n ≤ 100000000000)
    (hec : Blk w ec [.int .u8 (e : Int)]) :
    Calls Try.prog 54 #[.pointer (some ⟨r, 0, none⟩), .pointer (some ⟨bc, 0, none⟩), .pointer (some ⟨ec, 0, none⟩), .pointer (some ⟨hc, 0, none⟩)] w fun en w' =>
      en = .panicked [{ v := failV r (1 + (e : Int)), recovered := false }, { v := failV r (1 + (e : Int)), recovered := true }] ∧ Ext w w' := by
  have hmf : ∀ (fn : Fn) (first cap : Array Value) (w : World), (Instr.makeFunc fn first cap).run Try.prog w = .ok (.func fn first cap) w := fun _ _ _ _ => rfl
  have hq : Blk (w.alloc (.cells #[.pointer (some ⟨r, 0, none⟩)] 76)) w.heap.size [.pointer (some ⟨r, 0, none⟩)] := Blk.lit _ _ _ _ rfl
  have hx0 : Ext w (w.alloc (.cells #[.pointer (some ⟨r, 0, none⟩)] 76)) := Ext.new _ _
  have g0 := hb.cell 0
  have hblt := hb.lt
  have hrd := read_any (w.alloc (.cells #[.pointer (some ⟨r, 0, none⟩)] 76)) a n c bs 55 #[.pointer (some ⟨w.heap.size, 0, none⟩), .pointer (some ⟨ec, 0, none⟩)]
    (fun en W => en = .panicked [{ v := failV r (1 + (e : Int)), recovered := false }, { v := failV r (1 + (e : Int)), recovered := true }] ∧ Ext w W) (hy.ext hx0) hnc hn
    (fun _ _ => by kernel_rfl) fun w8 p8 r8 hx8 hp8 hr8 hb8 hk8 hrd8 => by
      have hx9 := hx0.trans hx8
      have hr9 := h.mut (fp := fun _ => False) (MutO.of_ext hx9) (fun q => q)
      have hrlt : r < w.heap.size := by obtain ⟨_, _, _, q⟩ := h; exact q.lt
      have h0 := hx0.le
      refine (pan55 w8 r8 w.heap.size r ec e he hr9 (hq.ext hx8) (hec.ext hx9)).mono ?_
      rintro en w9 ⟨rfl, rfl⟩
      refine ⟨hk8, .inr (.inr (.inr ⟨r, _, rfl, hrd8.any, ?_, by omega, fun W hW hmW => ⟨rfl, MutO.ext hx9 hmW fun k hk => by unfold RdFp at hk; omega⟩⟩))⟩
      obtain ⟨_, _, _, q⟩ := hr9
      exact ⟨_, q⟩
  have HRD := Lib.hid hrd
  clear h hec hb hy hnc hn hrd hq hx0
  go_enter Try.func54, Try.ntmps54
  go_wp2_with fail
  refine HRD.out.mono ?_
  rintro en w1 ⟨rfl, hx1⟩
  exact ⟨rfl, rfl, hx1⟩
set_option maxRecDepth 20000 in
set_option maxRecDepth 100000 in
set_option maxHeartbeats 1000000 in
theorem pan56 (w : World) (a : Option Addr) (n c : Nat) (bs : List UInt8) (x : ByteArray) (hy : By w a n bs) (hnc : n ≤ c ∧ c ≤ maxLen) (hn : n ≤ 100000000000) :
    Calls Try.prog 56 #[.slice a n c, .string x] w fun en w' => en = .returned (.string x) ∧ Ext w w' := by
  have hmf : ∀ (fn : Fn) (first cap : Array Value) (w : World), (Instr.makeFunc fn first cap).run Try.prog w = .ok (.func fn first cap) w := fun _ _ _ _ => rfl
  have HY := Lib.hid hy
  have HNC := Lib.hid hnc
  clear hy hnc
  go_enter_defers Try.func56, Try.ntmps56
  go_wp2_with fail
  have hc0 : Blk ((w.alloc (.cells #[.string x] 9)).alloc (.cells #[.string ⟨#[]⟩] 9)) w.heap.size [.string x] := (Blk.lit w [.string x] 9 _ rfl).ext (Ext.new _ _)
  have hp0 : Blk ((w.alloc (.cells #[.string x] 9)).alloc (.cells #[.string ⟨#[]⟩] 9)) (w.heap.size + 1) [.string ⟨#[]⟩] := Blk.lit _ [.string ⟨#[]⟩] 9 _ (by simp)
  have hx0 : Ext w ((w.alloc (.cells #[.string x] 9)).alloc (.cells #[.string ⟨#[]⟩] 9)) := (Ext.new _ _).alloc _
  generalize (w.alloc (.cells #[.string x] 9)).alloc (.cells #[.string ⟨#[]⟩] 9) = w0 at *
  obtain ⟨q, hq⟩ : ∃ q, q = w.heap.size + 1 := ⟨_, rfl⟩
  have hwq : w.heap.size < q := by omega
  rw [← hq] at hp0 ⊢
  have hrd := read_any w0 a n c bs 81 #[.pointer (some ⟨w.heap.size, 0, none⟩)]
    (fun en W => en = .panicked [{ v := .iface 9 (.string x), recovered := false }, { v := .iface 9 (.string x), recovered := true }] ∧ Ext w W ∧ Blk W q [.string ⟨#[]⟩]) (HY.out.ext hx0) HNC.out hn
    (fun _ _ => by kernel_rfl) fun w8 p8 r8 hx8 hp8 hr8 hb8 hk8 hrd8 => by
      refine (pan81 w8 r8 w.heap.size (.string x) (hc0.ext hx8) ⟨_, rfl⟩).mono ?_
      rintro en w9 ⟨rfl, rfl⟩
      have hplt := hp0.lt
      have h0 := hx0.le
      exact ⟨hk8, .inr (.inr (.inl ⟨_, rfl, hrd8.any, fun W hW hmW => ⟨rfl, MutO.ext (hx0.trans hx8) hmW fun k hk => by unfold RdFp at hk; omega, (hp0.ext hx8).mut hmW (by unfold RdFp; omega)⟩⟩))⟩
  refine hrd.mono ?_
  rintro en w1 ⟨rfl, hx1, hb1⟩
  clear hrd
  refine leaves_cons (f := 80) (args := #[.pointer (some ⟨q, 0, none⟩), .pointer (some ⟨w.heap.size, 0, none⟩)]) (by simp) (by kernel_rfl) ?_
  refine (pan80 w1 q w.heap.size x _ ⟨_, rfl⟩ _ hb1).mono ?_
  rintro en u' w2 ⟨rfl, rfl, rfl⟩
  have g0 := (hb1.set 0 (.string x)).cell 0
  have hx2 : Ext w (w1.setCell ⟨q, 0, none⟩ (.string x)) := hx1.setCell (p := ⟨q, 0, none⟩) (Nat.le_of_lt hwq) _
  simp [Leaves, settle, results, Try.results56, go_sem]
  exact ⟨_, by rw [g0]; rfl, rfl, hx2⟩
end Go.Proofs.Ytabadgpebhiigaa
