/- tape.Read, whatever its function. -/
import Derived.Test.YtcminppmmhinjaaCaught
namespace Go.Proofs.Ytcminppmmhinjaa
set_option linter.unusedSimpArgs false
set_option linter.unusedVariables false
open Go Go.RowKit
/-- What the function that Read was given came to, and what is then asked. -/
def RdFp (p r : Nat) : Nat → Prop := fun k => k = p ∨ k = r
def ReadK (p r : Nat) (R : Ending → World → Prop) (en : Ending) (w2 : World) : Prop :=
  Blk w2 p [.int .i64 0] ∧
  ((∃ z v ys, en = .returned v ∧ RdAt z w2 r ys ∧ ∀ W, RdOver W r → MutO (RdFp p r) w2 W → R (.returned (.int .i64 (if ys = [] then 0 else 13))) W) ∨
   (∃ e older, en = .panicked ({ v := failV r e, recovered := false } :: older) ∧ older.dropWhile (!·.goexit) = [] ∧ RdAny w2 r ∧ ∀ W, RdOver W r → MutO (RdFp p r) w2 W → R (.returned (.int .i64 e)) W) ∨
   (∃ x, en = .panicked [{ v := .iface 9 x, recovered := false }] ∧ RdAny w2 r ∧ ∀ W, RdOver W r → MutO (RdFp p r) w2 W → R (.panicked [{ v := .iface 9 x, recovered := false }, { v := .iface 9 x, recovered := true }]) W) ∨
   (∃ r' e, en = .panicked [{ v := failV r' e, recovered := false }] ∧ RdAny w2 r ∧ (∃ vs, Blk w2 r' vs) ∧ r' ≠ r ∧ ∀ W, RdOver W r → MutO (RdFp p r) w2 W → R (.panicked [{ v := failV r' e, recovered := false }, { v := failV r' e, recovered := true }]) W))
theorem invoke_caught (w : World) (a b : Value) : (invoke (.fn (.func 140) #[]) #[a, b]).run Try.prog w = .ok (.enter 140 #[a, b]) w := by kernel_rfl
theorem res_read (tmps : Array Value) (p : Nat) (x : Value) (w : World) (h4 : tmps[4]? = some (.pointer (some ⟨p, 0, none⟩))) (hb : Blk w p [x]) : (results Try.f70 tmps).run Try.prog w = .ok x w := by
  have h0 := hb.cell 0
  obtain ⟨h5, h6⟩ := Array.getElem?_eq_some_iff.1 h4
  simp [results, Try.results70, go_sem, h4, h0]
theorem leave_back (tmps : Array Value) (p r : Nat) (x : Int) (w : World) (R : Ending → World → Prop) (h4 : tmps[4]? = some (.pointer (some ⟨p, 0, none⟩))) (hpr : p ≠ r) (hany : RdAny w r) (hb : Blk w p [.int .i64 x])
    (hR : ∀ W, RdOver W r → MutO (RdFp p r) w W → R (.returned (.int .i64 x)) W) :
    Leaves Try.prog Try.f70 tmps R [{ target := .fn (.func 140) #[], args := #[.pointer (some ⟨r, 0, none⟩), .pointer (some ⟨p, 0, none⟩)] }] .returning w := by
  refine leaves_cons (by simp) (invoke_caught _ _ _) ?_
  refine (caught_back _ r p hany).mono ?_
  rintro e u' w'' ⟨rfl, rfl, rfl⟩
  obtain ⟨a, n, c, hr⟩ := hany
  exact ⟨_, res_read tmps p _ _ h4 (hb.set_other (fun q => hpr q.symm) _), hR _ ⟨a, n, c, hr.set 1 _⟩ (MutO.set (MutO.refl _ _) (Or.inr rfl) _)⟩
theorem leave_own (tmps : Array Value) (p r : Nat) (x e : Int) (older : List PanicEntry) (w : World) (R : Ending → World → Prop) (h4 : tmps[4]? = some (.pointer (some ⟨p, 0, none⟩))) (hpr : p ≠ r) (hany : RdAny w r) (hb : Blk w p [.int .i64 x]) (hold : older.dropWhile (!·.goexit) = [])
    (hR : ∀ W, RdOver W r → MutO (RdFp p r) w W → R (.returned (.int .i64 e)) W) :
    Leaves Try.prog Try.f70 tmps R [{ target := .fn (.func 140) #[], args := #[.pointer (some ⟨r, 0, none⟩), .pointer (some ⟨p, 0, none⟩)] }] (.panicking ({ v := failV r e, recovered := false } :: older)) w := by
  refine leaves_cons (by simp) (invoke_caught _ _ _) ?_
  refine (caught_own _ r p x e older hany hb hpr).mono ?_
  rintro en u' w'' ⟨rfl, rfl, rfl⟩
  obtain ⟨a, n, c, hr⟩ := hany
  have h1 : settle (.panicking ({ v := failV r e, recovered := true } :: older)) = .returning := by simp only [settle, hold]
  show Leaves _ _ _ _ _ (settle _) _
  rw [h1]
  refine ⟨_, res_read tmps p _ _ h4 (((hb.set_other (p := ⟨r, 1, none⟩) (fun q => hpr q.symm) _).set 0 _).ext (Ext.new _ _)), hR _ ⟨a, n, c, (((hr.set 1 _).set_other (p := ⟨p, 0, none⟩) hpr _).ext (Ext.new _ _))⟩ (MutO.alloc (MutO.set (MutO.set (MutO.refl _ _) (Or.inr rfl) _) (Or.inl rfl) _) _)⟩
theorem leave_word (tmps : Array Value) (p r : Nat) (x : Value) (w : World) (R : Ending → World → Prop) (hany : RdAny w r)
    (hR : ∀ W, RdOver W r → MutO (RdFp p r) w W → R (.panicked [{ v := .iface 9 x, recovered := false }, { v := .iface 9 x, recovered := true }]) W) :
    Leaves Try.prog Try.f70 tmps R [{ target := .fn (.func 140) #[], args := #[.pointer (some ⟨r, 0, none⟩), .pointer (some ⟨p, 0, none⟩)] }] (.panicking [{ v := .iface 9 x, recovered := false }]) w := by
  refine leaves_cons (by simp) (invoke_caught _ _ _) ?_
  refine (caught_word _ r p x [] hany).mono ?_
  rintro en u' w'' ⟨rfl, rfl, rfl⟩
  obtain ⟨a, n, c, hr⟩ := hany
  exact hR _ ⟨a, n, c, (hr.set 1 _).ext (Ext.new _ _)⟩ (MutO.alloc (MutO.set (MutO.refl _ _) (Or.inr rfl) _) _)
theorem leave_other (tmps : Array Value) (p r r' : Nat) (e : Int) (w : World) (R : Ending → World → Prop) (hany : RdAny w r) (hr' : ∃ vs, Blk w r' vs) (hne : r' ≠ r)
    (hR : ∀ W, RdOver W r → MutO (RdFp p r) w W → R (.panicked [{ v := failV r' e, recovered := false }, { v := failV r' e, recovered := true }]) W) :
    Leaves Try.prog Try.f70 tmps R [{ target := .fn (.func 140) #[], args := #[.pointer (some ⟨r, 0, none⟩), .pointer (some ⟨p, 0, none⟩)] }] (.panicking [{ v := failV r' e, recovered := false }]) w := by
  refine leaves_cons (by simp) (invoke_caught _ _ _) ?_
  refine (caught_other _ r p r' e [] hany hr' hne).mono ?_
  rintro en u' w'' ⟨rfl, rfl, rfl⟩
  obtain ⟨a, n, c, hr⟩ := hany
  exact hR _ ⟨a, n, c, (hr.set 1 _).ext (Ext.new _ _)⟩ (MutO.alloc (MutO.set (MutO.refl _ _) (Or.inr rfl) _) _)
set_option maxRecDepth 20000 in
set_option maxHeartbeats 1000000 in
theorem read_any (w : World) (a : Option Addr) (n c : Nat) (xs : List UInt8) (F : FuncId) (cap : Array Value) (R : Ending → World → Prop) (h : By w a n xs) (hc : n ≤ c ∧ c ≤ maxLen) (hn : n ≤ 100000000000)
    (hi : ∀ w r, (callFunc F (#[.pointer (some ⟨r, 0, none⟩)] ++ cap)).run Try.prog w = .ok (.enter F (#[.pointer (some ⟨r, 0, none⟩)] ++ cap)) w)
    (K : ∀ w1 p r, Ext w w1 → w.heap.size ≤ p → p < r → w.heap.size < r → Blk w1 p [.int .i64 0] → RdAt (fun k => p < k ∧ k < w1.heap.size) w1 r xs → Calls Try.prog F (#[.pointer (some ⟨r, 0, none⟩)] ++ cap) w1 (ReadK p r R)) :
    Calls Try.prog 70 #[.slice a n c, .func (.func F) #[] cap] w R := by
  have HY := Lib.hid h; clear h
  have HC := Lib.hid hc; clear hc
  have HK := Lib.hid K; clear K
  have hmf : ∀ (fn : Fn) (first cap : Array Value) (w : World), (Instr.makeFunc fn first cap).run Try.prog w = .ok (.func fn first cap) w := fun _ _ _ _ => rfl
  have hnf : ∀ w, (binOp .neq 128 (.func (.func F) #[] cap) .nilFunc).run Try.prog w = .ok (.bool true) w := fun _ => by kernel_rfl
  go_enter_defers Try.func70, Try.ntmps70
  go_wp2_with fail
  refine (clone_any a n c xs _ (HY.out.ext (Ext.new _ _)) HC.out (by omega)).mono ?_
  rintro e w1 ⟨v, rfl, hown, hx1⟩
  have HO := Lib.hid hown
  have HX := Lib.hid hx1
  obtain ⟨va, vc, rfl⟩ := own_slice hown
  clear hown hx1
  go_wp2_with fail
  have hsz : w.heap.size + 1 ≤ w1.heap.size := by have h0 := HX.out.le; have h1 : (w.heap.push (Obj.cells #[Value.int IntKind.i64 0] 68)).size ≤ w1.heap.size := h0; rwa [Array.size_push] at h1
  have hrd : RdAt (fun k => w.heap.size < k ∧ k < (w1.alloc (.cells #[.slice va n vc, .bool false] 200)).heap.size) (w1.alloc (.cells #[.slice va n vc, .bool false] 200)) w1.heap.size xs := by
    have hby := own_by HO.out
    obtain ⟨a3, n3, c3, e3, h31, h32, h33⟩ := hby
    injection e3 with e4 e5 e6
    subst e4 e5 e6
    refine ⟨va, n, vc, Blk.lit _ _ _ _ rfl, h33.ext (Ext.new _ _), ⟨h31, h32⟩, fun ad had => ?_⟩
    have := HO.out.lt ad.block (by rw [had]; rfl)
    have h0 : (w.alloc (Obj.cells #[Value.int IntKind.i64 0] 68)).heap.size = w.heap.size + 1 := Array.size_push _
    have h1 : (w1.alloc (.cells #[.slice va n vc, .bool false] 200)).heap.size = w1.heap.size + 1 := Array.size_push _
    omega
  have hblk : Blk (w1.alloc (.cells #[.slice va n vc, .bool false] 200)) w.heap.size [.int .i64 0] := ((Blk.lit _ _ _ _ rfl).ext HX.out).ext (Ext.new _ _)
  have hext : Ext w (w1.alloc (.cells #[.slice va n vc, .bool false] 200)) := ((Ext.new w _).trans HX.out).trans (Ext.new _ _)
  have hpr : w.heap.size ≠ w1.heap.size := by omega
  refine (HK.out _ w.heap.size w1.heap.size hext (Nat.le_refl _) (by omega) (by omega) hblk hrd).mono ?_
  generalize w.heap.size = p at *
  generalize w1.heap.size = r at *
  clear HK hrd hblk hext HX HO HY HC hsz hn
  intro en w2 hen
  obtain ⟨hbp, hen⟩ := hen
  rcases hen with ⟨z, v, ys, rfl, hrd, hR⟩ | ⟨e, older, rfl, hold, hany, hR⟩ | ⟨x, rfl, hany, hR⟩ | ⟨r', e, rfl, hany, hr', hne, hR⟩
  · obtain ⟨a4, n4, c4, hb4, hy4, _⟩ := hrd
    have h0 := hb4.cell 0
    have g0 := hbp.cell 0
    have g1 := hbp.free 0
    have hlen := hy4.1
    have HB := Lib.hid hb4
    have HP := Lib.hid hbp
    have HR := Lib.hid hR
    clear hb4 hbp hR hy4
    have hput : ∀ y, Blk (w2.setCell ⟨p, 0, none⟩ (.int .i64 y)) p [.int .i64 y] ∧ RdAny (w2.setCell ⟨p, 0, none⟩ (.int .i64 y)) r ∧ MutO (RdFp p r) w2 (w2.setCell ⟨p, 0, none⟩ (.int .i64 y)) := fun y =>
      ⟨HP.out.set 0 _, ⟨a4, n4, c4, HB.out.set_other (p := ⟨p, 0, none⟩) hpr _⟩, MutO.set (MutO.refl _ _) (Or.inl rfl) _⟩
    have HU := Lib.hid hput
    clear hput
    by_cases hy : ys = []
    · subst hy
      obtain rfl : n4 = 0 := hlen
      go_wp2_with fail
      exact leave_back _ p r 0 _ R (by simp) hpr (HU.out 0).2.1 (HU.out 0).1 fun W hW hm => by simpa using HR.out W hW ((HU.out 0).2.2.trans hm fun _ _ q => q)
    · have hpos : 0 < n4 := by
        rcases Nat.eq_zero_or_pos n4 with q | q
        · exact absurd (List.length_eq_zero_iff.1 (hlen ▸ q)) hy
        · exact q
      clear hlen
      go_wp2_with fail
      exact leave_back _ p r 13 _ R (by simp) hpr (HU.out 13).2.1 (HU.out 13).1 fun W hW hm => by simpa [hy] using HR.out W hW ((HU.out 13).2.2.trans hm fun _ _ q => q)
  · exact leave_own _ p r 0 e older _ R (by simp) hpr hany hbp hold hR
  · exact leave_word _ p r x _ R hany hR
  · exact leave_other _ p r r' e _ R hany hr' hne hR
set_option maxRecDepth 20000 in
set_option maxHeartbeats 1000000 in
theorem read_nil (w : World) (a : Option Addr) (n c : Nat) (xs : List UInt8) (R : Ending → World → Prop) (h : By w a n xs) (hc : n ≤ c ∧ c ≤ maxLen) (hn : n ≤ 100000000000) (hR : ∀ W, Ext w W → R (.returned (.int .i64 (if xs = [] then 0 else 13))) W) :
    Calls Try.prog 70 #[.slice a n c, .nilFunc] w R := by
  have HR := Lib.hid hR; clear hR
  have HY := Lib.hid h; clear h
  have HC := Lib.hid hc; clear hc
  have hmf : ∀ (fn : Fn) (first cap : Array Value) (w : World), (Instr.makeFunc fn first cap).run Try.prog w = .ok (.func fn first cap) w := fun _ _ _ _ => rfl
  have hnf : ∀ w, (binOp .neq 128 .nilFunc .nilFunc).run Try.prog w = .ok (.bool false) w := fun _ => by kernel_rfl
  go_enter_defers Try.func70, Try.ntmps70
  go_wp2_with fail
  refine (clone_any a n c xs _ (HY.out.ext (Ext.new _ _)) HC.out (by omega)).mono ?_
  rintro e w1 ⟨v, rfl, hown, hx1⟩
  have HO := Lib.hid hown
  have HX := Lib.hid hx1
  obtain ⟨va, vc, rfl⟩ := own_slice hown
  have hlen : n = xs.length := HY.out.1
  clear hown hx1
  have hsz : w.heap.size + 1 ≤ w1.heap.size := by have h0 := HX.out.le; have h1 : (w.heap.push (Obj.cells #[Value.int IntKind.i64 0] 68)).size ≤ w1.heap.size := h0; rwa [Array.size_push] at h1
  have hpr : w.heap.size ≠ w1.heap.size := by omega
  have hlt : w.heap.size < w1.heap.size := by omega
  have hblk0 : Blk w1 w.heap.size [.int .i64 0] := (Blk.lit _ _ _ _ rfl).ext HX.out
  have g1 := hblk0.free 0
  have g0 := hblk0.cell 0
  have hput : ∀ W y, W = (w1.setCell ⟨w.heap.size, 0, none⟩ (.int .i64 y)).alloc (.cells #[.slice va n vc, .bool false] 200) → Blk W w.heap.size [.int .i64 y] ∧ RdAny W w1.heap.size ∧ Ext w W := fun W y e => by
    subst e
    exact ⟨(hblk0.set 0 _).ext (Ext.new _ _), ⟨va, n, vc, Blk.lit _ _ _ _ (by simp [World.setCell])⟩, (((Ext.new w _).trans HX.out).setCell (Nat.le_refl _) _).alloc _⟩
  have HU := Lib.hid hput
  clear hput hblk0
  by_cases hy : xs = []
  · subst hy
    obtain rfl : n = 0 := hlen
    go_wp2_with fail
    exact leave_back _ w.heap.size w1.heap.size 0 _ R rfl hpr (HU.out _ 0 rfl).2.1 (HU.out _ 0 rfl).1 fun W hW hm => by simpa using HR.out W (MutO.ext (HU.out _ 0 rfl).2.2 hm (fun k hk => by rcases hk with rfl | rfl <;> omega))
  · have hpos : 0 < n := by
      rcases Nat.eq_zero_or_pos n with q | q
      · exact absurd (List.length_eq_zero_iff.1 (hlen ▸ q)) hy
      · exact q
    clear hlen
    go_wp2_with fail
    exact leave_back _ w.heap.size w1.heap.size 13 _ R rfl hpr (HU.out _ 13 rfl).2.1 (HU.out _ 13 rfl).1 fun W hW hm => by simpa [hy] using HR.out W (MutO.ext (HU.out _ 13 rfl).2.2 hm (fun k hk => by rcases hk with rfl | rfl <;> omega))
end Go.Proofs.Ytcminppmmhinjaa
