/- tape.caught: the deferred call of Read, in each mode. -/
import Derived.Test.YtpenjnccdachaaaSepT
import Derived.Defers
import Derived.Recover
import Derived.Lib.Builder
namespace Go.Proofs.Ytpenjnccdachaaa
set_option linter.unusedSimpArgs false
set_option linter.unusedVariables false
open Go Go.RowKit
theorem wpS_rec_none {P : Program} {Q : Exit → Act → List Frame → World → Prop} {d e ty ty' id : Nat} {pos pos' : String} {af af' : Array Edge} {a : Act} {cs : List Frame} {w : World}
    (hrec : recoverD cs = none) (hd : d < a.tmps.size) (h : Q .normal { tmps := (a.tmps.setIfInBounds d .nilIface).setIfInBounds e .nilIface, defers := a.defers } cs w) :
    (Code.region id #[{ dst := some d, op := .call { callee := .builtin .recover, args := #[], argTypes := #[] }, type := ty, pos := pos, after := af, guard := none }, { dst := some e, op := .assign (.tmp d), type := ty', pos := pos', after := af', guard := none }] false).wpS P Q a cs w := by
  apply wpS_region
  simp [wpOpsS, go_sem, hrec]
  simpa [hd] using h
theorem wpS_rec_some {P : Program} {Q : Exit → Act → List Frame → World → Prop} {d e ty ty' id : Nat} {pos pos' : String} {af af' : Array Edge} {a : Act} {cs cs' : List Frame} {w : World} {v : Value}
    (hrec : recoverD cs = some (v, cs')) (hd : d < a.tmps.size) (h : Q .normal { tmps := (a.tmps.setIfInBounds d v).setIfInBounds e v, defers := a.defers } cs' w) :
    (Code.region id #[{ dst := some d, op := .call { callee := .builtin .recover, args := #[], argTypes := #[] }, type := ty, pos := pos, after := af, guard := none }, { dst := some e, op := .assign (.tmp d), type := ty', pos := pos', after := af', guard := none }] false).wpS P Q a cs w := by
  apply wpS_region
  simp [wpOpsS, go_sem, hrec]
  simpa [hd] using h
theorem recoverD_back {c₀ : Frame} {cs : List Frame} (hu : c₀.mode = .returning) : recoverD (c₀ :: cs) = none := by simp [recoverD, hu]
theorem recoverD_panic {c₀ : Frame} {cs : List Frame} {v : Value} {older : List PanicEntry} (hu : c₀.mode = .panicking ({ v := v, recovered := false } :: older)) :
    recoverD (c₀ :: cs) = some (v, { c₀ with mode := .panicking ({ v := v, recovered := true } :: older) } :: cs) := by simp [recoverD, hu]

theorem caught_back (w : World) (r p : Nat) (h : RdAny w r) :
    CallsD Try.prog 95 #[.pointer (some ⟨r, 0, none⟩), .pointer (some ⟨p, 0, none⟩)] .returning w fun e u w' => e = .returned (.tuple #[]) ∧ u = .returning ∧ w.setCell ⟨r, 1, none⟩ (.bool true) = w' := by
  obtain ⟨a, n, c, hb⟩ := h
  have h1 := hb.cell 1
  have f1 := hb.free 1
  clear hb
  refine callsD_of_wpS Try.func95 rfl fun c₀ cs hu => ?_
  simp only [Try.ntmps95, List.size_toArray, List.length_cons, List.length_nil, Nat.reduceAdd, Nat.reduceSub, Array.replicate_succ,
     Array.replicate_zero, List.push_toArray, List.append_toArray, List.nil_append, List.cons_append]
  apply wpS_seq
  refine wpS_of_wp ?_
  go_wp2
  simp only [Exit.thenS]
  apply wpS_seq
  refine wpS_rec_none (recoverD_back hu) (by simp) ?_
  simp only [Exit.thenS]
  refine wpS_of_wp ?_
  simp only [List.setIfInBounds_toArray, List.set_cons_zero, List.set_cons_succ]
  go_wp2
  cases c₀
  simp_all [bodyPostS, results, Try.results95]
theorem rd_size : (Try.prog.info? 126).map (·.size) = some 2 := by kernel_rfl
theorem rd_info : ∃ j, Try.prog.info? 126 = some j ∧ j.size ≠ 0 := by
  have h := rd_size
  cases q : Try.prog.info? 126 with
  | none => rw [q] at h; cases h
  | some j => rw [q] at h; injection h with h; exact ⟨j, rfl, by have h2 : j.size = 2 := h; omega⟩
theorem neq_same (w : World) (a : Addr) : (binOp .neq 55 (.pointer (some a)) (.pointer (some a))).run Try.prog w = .ok (.bool false) w := let ⟨_, h, _⟩ := rd_info; Lib.run_neq_ptr_same w a Try.underlying55 h
theorem neq_other (w : World) {a b : Addr} {ca cb : Array Value} {ta tb : TypeId} (hne : a ≠ b) (ha : w.heap[a.block]? = some (.cells ca ta (0, 0))) (hb : w.heap[b.block]? = some (.cells cb tb (0, 0))) :
    (binOp .neq 55 (.pointer (some a)) (.pointer (some b))).run Try.prog w = .ok (.bool true) w := by
  obtain ⟨j, hj, hz⟩ := rd_info
  have h : ∀ d : Nat, (Op.equalIn (d + 1) 55 (.pointer (some a)) (.pointer (some b))).run Try.prog w = .ok false w := fun d => by
    simp [Op.equalIn, run_underlying Try.underlying55, sizeOf, typeInfo, hj, hz, run_sameAddr_other w hne ha hb]
  simp only [binOp]
  simp [Op.equal, Op.maxDepth, h 9999]
theorem ta_own (w : World) (v : Value) : (Instr.typeAssert (.iface 161 v) 20 161 true).run Try.prog w = .ok (.tuple #[v, .bool true]) w := by kernel_rfl
theorem ta_word (w : World) (v : Value) : (Instr.typeAssert (.iface 9 v) 20 161 true).run Try.prog w = .ok (.tuple #[.agg #[.pointer none, .int .i64 0], .bool false]) w := by kernel_rfl
set_option maxRecDepth 20000 in
theorem caught_own (w : World) (r p : Nat) (x e : Int) (older : List PanicEntry) (h : RdAny w r) (hp : Blk w p [.int .i64 x]) (hpr : p ≠ r) :
    CallsD Try.prog 95 #[.pointer (some ⟨r, 0, none⟩), .pointer (some ⟨p, 0, none⟩)] (.panicking ({ v := failV r e, recovered := false } :: older)) w fun en u w' =>
      en = .returned (.tuple #[]) ∧ u = .panicking ({ v := failV r e, recovered := true } :: older) ∧ ((w.setCell ⟨r, 1, none⟩ (.bool true)).setCell ⟨p, 0, none⟩ (.int .i64 e)).alloc (.cells #[.pointer (some ⟨r, 0, none⟩), .int .i64 e] 161) = w' := by
  obtain ⟨a, n, c, hb⟩ := h
  have h1 := hb.cell 1
  have f1 := hb.free 1
  have g1 := hp.cell 0
  have g2 := hp.free 0
  have hpl := hp.lt
  clear hb hp
  refine callsD_of_wpS Try.func95 rfl fun c₀ cs hu => ?_
  simp only [Try.ntmps95, List.size_toArray, List.length_cons, List.length_nil, Nat.reduceAdd, Nat.reduceSub, Array.replicate_succ,
     Array.replicate_zero, List.push_toArray, List.append_toArray, List.nil_append, List.cons_append]
  apply wpS_seq
  refine wpS_of_wp ?_
  go_wp2
  simp only [Exit.thenS]
  apply wpS_seq
  refine wpS_rec_some (recoverD_panic hu) (by simp) ?_
  simp only [Exit.thenS]
  refine wpS_of_wp ?_
  simp only [List.setIfInBounds_toArray, List.set_cons_zero, List.set_cons_succ]
  have hta := ta_own (w.setCell ⟨r, 1, none⟩ (.bool true)) (.agg #[.pointer (some ⟨r, 0, none⟩), .int .i64 e])
  have hv : failV r e = .iface 161 (.agg #[.pointer (some ⟨r, 0, none⟩), .int .i64 e]) := rfl
  have heq := neq_same (((w.setCell ⟨r, 1, none⟩ (.bool true)).alloc (.cells #[.pointer (some ⟨r, 0, none⟩), .int .i64 e] 161))) ⟨r, 0, none⟩
  rw [hv]
  clear hv

  go_wp2

  cases c₀
  simp_all [bodyPostS, results, Try.results95]
set_option maxRecDepth 20000 in
theorem caught_word (w : World) (r p : Nat) (x : Value) (older : List PanicEntry) (h : RdAny w r) :
    CallsD Try.prog 95 #[.pointer (some ⟨r, 0, none⟩), .pointer (some ⟨p, 0, none⟩)] (.panicking ({ v := .iface 9 x, recovered := false } :: older)) w fun en u w' =>
      en = .panicked [{ v := .iface 9 x, recovered := false }] ∧ u = .panicking ({ v := .iface 9 x, recovered := true } :: older) ∧ (w.setCell ⟨r, 1, none⟩ (.bool true)).alloc (.cells #[.pointer none, .int .i64 0] 161) = w' := by
  obtain ⟨a, n, c, hb⟩ := h
  have h1 := hb.cell 1
  have f1 := hb.free 1
  clear hb
  refine callsD_of_wpS Try.func95 rfl fun c₀ cs hu => ?_
  simp only [Try.ntmps95, List.size_toArray, List.length_cons, List.length_nil, Nat.reduceAdd, Nat.reduceSub, Array.replicate_succ,
     Array.replicate_zero, List.push_toArray, List.append_toArray, List.nil_append, List.cons_append]
  apply wpS_seq
  refine wpS_of_wp ?_
  go_wp2
  simp only [Exit.thenS]
  apply wpS_seq
  refine wpS_rec_some (recoverD_panic hu) (by simp) ?_
  simp only [Exit.thenS]
  refine wpS_of_wp ?_
  simp only [List.setIfInBounds_toArray, List.set_cons_zero, List.set_cons_succ]
  have hta := ta_word (w.setCell ⟨r, 1, none⟩ (.bool true)) x
  go_wp2
  cases c₀
  simp_all [bodyPostS, results, Try.results95]
set_option maxRecDepth 20000 in
theorem caught_other (w : World) (r p r' : Nat) (e : Int) (older : List PanicEntry) (h : RdAny w r) (hr' : ∃ vs, Blk w r' vs) (hne : r' ≠ r) :
    CallsD Try.prog 95 #[.pointer (some ⟨r, 0, none⟩), .pointer (some ⟨p, 0, none⟩)] (.panicking ({ v := failV r' e, recovered := false } :: older)) w fun en u w' =>
      en = .panicked [{ v := failV r' e, recovered := false }] ∧ u = .panicking ({ v := failV r' e, recovered := true } :: older) ∧ (w.setCell ⟨r, 1, none⟩ (.bool true)).alloc (.cells #[.pointer (some ⟨r', 0, none⟩), .int .i64 e] 161) = w' := by
  obtain ⟨a, n, c, hb⟩ := h
  have h1 := hb.cell 1
  have f1 := hb.free 1
  have heq : (binOp .neq 55 (.pointer (some ⟨r', 0, none⟩)) (.pointer (some ⟨r, 0, none⟩))).run Try.prog ((w.setCell ⟨r, 1, none⟩ (.bool true)).alloc (.cells #[.pointer (some ⟨r', 0, none⟩), .int .i64 e] 161)) = .ok (.bool true) ((w.setCell ⟨r, 1, none⟩ (.bool true)).alloc (.cells #[.pointer (some ⟨r', 0, none⟩), .int .i64 e] 161)) := by
    obtain ⟨vs, hv⟩ := hr'
    obtain ⟨t1, q1⟩ := (hb.set 1 (.bool true)).ext (Ext.new _ (.cells #[.pointer (some ⟨r', 0, none⟩), .int .i64 e] 161))
    obtain ⟨t2, q2⟩ := (hv.set_other (p := ⟨r, 1, none⟩) (fun q => hne q.symm) (.bool true)).ext (Ext.new _ (.cells #[.pointer (some ⟨r', 0, none⟩), .int .i64 e] 161))
    exact neq_other _ (by intro q; injection q with q; exact hne q) q2 q1
  clear hb
  refine callsD_of_wpS Try.func95 rfl fun c₀ cs hu => ?_
  simp only [Try.ntmps95, List.size_toArray, List.length_cons, List.length_nil, Nat.reduceAdd, Nat.reduceSub, Array.replicate_succ,
     Array.replicate_zero, List.push_toArray, List.append_toArray, List.nil_append, List.cons_append]
  apply wpS_seq
  refine wpS_of_wp ?_
  go_wp2
  simp only [Exit.thenS]
  apply wpS_seq
  refine wpS_rec_some (recoverD_panic hu) (by simp) ?_
  simp only [Exit.thenS]
  refine wpS_of_wp ?_
  simp only [List.setIfInBounds_toArray, List.set_cons_zero, List.set_cons_succ]
  have hta := ta_own (w.setCell ⟨r, 1, none⟩ (.bool true)) (.agg #[.pointer (some ⟨r', 0, none⟩), .int .i64 e])
  have hv : failV r' e = .iface 161 (.agg #[.pointer (some ⟨r', 0, none⟩), .int .i64 e]) := rfl
  rw [hv]
  clear hv
  go_wp2
  cases c₀
  simp_all [bodyPostS, results, Try.results95]
end Go.Proofs.Ytpenjnccdachaaa

namespace Go.Proofs.Ytpenjnccdachaaa
set_option linter.unusedSimpArgs false
set_option linter.unusedVariables false
open Go Go.RowKit
/-- What the function that Read was given came to, and what is then asked. -/
def RdFp (p r : Nat) : Nat → Prop := fun k => k = p ∨ k = r
def ReadK (p r : Nat) (R : Ending → World → Prop) (en : Ending) (w2 : World) : Prop :=
  Blk w2 p [.int .i64 0] ∧
  ((∃ z v ys, en = .returned v ∧ RdAt z w2 r ys ∧ ∀ W, RdOver W r → MutO (RdFp p r) w2 W → R (.returned (.int .i64 (if ys = [] then 0 else 13))) W) ∨
   (∃ e older, en = .panicked ({ v := failV r e, recovered := false } :: older) ∧ older.dropWhile (!·.goexit) = [] ∧ RdAny w2 r ∧ ∀ W, RdOver W r → MutO (RdFp p r) w2 W → R (.returned (.int .i64 e)) W) ∨
   (∃ x, en = .panicked [{ v := .iface 9 x, recovered := false }] ∧ RdAny w2 r ∧ ∀ W, RdOver W r → MutO (RdFp p r) w2 W → R (.panicked [{ v := .iface 9 x, recovered := false }, { v := .iface 9 x, recovered := true }]) W) ∨
   (∃ r' e, en = .panicked [{ v := failV r' e, recovered := false }] ∧ RdAny w2 r ∧ (∃ vs, Blk w2 r' vs) ∧ r' ≠ r ∧ ∀ W, RdOver W r → MutO (RdFp p r) w2 W → R (.panicked [{ v := failV r' e, recovered := false }, { v := failV r' e, recovered := true }]) W))
theorem invoke_caught (w : World) (a b : Value) : (invoke (.fn (.func 95) #[]) #[a, b]).run Try.prog w = .ok (.enter 95 #[a, b]) w := by kernel_rfl
theorem res_read (tmps : Array Value) (p : Nat) (x : Value) (w : World) (h4 : tmps[4]? = some (.pointer (some ⟨p, 0, none⟩))) (hb : Blk w p [x]) : (results Try.f26 tmps).run Try.prog w = .ok x w := by
  have h0 := hb.cell 0
  obtain ⟨h5, h6⟩ := Array.getElem?_eq_some_iff.1 h4
  simp [results, Try.results26, go_sem, h4, h0]
theorem leave_back (tmps : Array Value) (p r : Nat) (x : Int) (w : World) (R : Ending → World → Prop) (h4 : tmps[4]? = some (.pointer (some ⟨p, 0, none⟩))) (hpr : p ≠ r) (hany : RdAny w r) (hb : Blk w p [.int .i64 x])
    (hR : ∀ W, RdOver W r → MutO (RdFp p r) w W → R (.returned (.int .i64 x)) W) :
    Leaves Try.prog Try.f26 tmps R [{ target := .fn (.func 95) #[], args := #[.pointer (some ⟨r, 0, none⟩), .pointer (some ⟨p, 0, none⟩)] }] .returning w := by
  refine leaves_cons (by simp) (invoke_caught _ _ _) ?_
  refine (caught_back _ r p hany).mono ?_
  rintro e u' w'' ⟨rfl, rfl, rfl⟩
  obtain ⟨a, n, c, hr⟩ := hany
  exact ⟨_, res_read tmps p _ _ h4 (hb.set_other (fun q => hpr q.symm) _), hR _ ⟨a, n, c, hr.set 1 _⟩ (MutO.set (MutO.refl _ _) (Or.inr rfl) _)⟩
theorem leave_own (tmps : Array Value) (p r : Nat) (x e : Int) (older : List PanicEntry) (w : World) (R : Ending → World → Prop) (h4 : tmps[4]? = some (.pointer (some ⟨p, 0, none⟩))) (hpr : p ≠ r) (hany : RdAny w r) (hb : Blk w p [.int .i64 x]) (hold : older.dropWhile (!·.goexit) = [])
    (hR : ∀ W, RdOver W r → MutO (RdFp p r) w W → R (.returned (.int .i64 e)) W) :
    Leaves Try.prog Try.f26 tmps R [{ target := .fn (.func 95) #[], args := #[.pointer (some ⟨r, 0, none⟩), .pointer (some ⟨p, 0, none⟩)] }] (.panicking ({ v := failV r e, recovered := false } :: older)) w := by
  refine leaves_cons (by simp) (invoke_caught _ _ _) ?_
  refine (caught_own _ r p x e older hany hb hpr).mono ?_
  rintro en u' w'' ⟨rfl, rfl, rfl⟩
  obtain ⟨a, n, c, hr⟩ := hany
  have h1 : settle (.panicking ({ v := failV r e, recovered := true } :: older)) = .returning := by simp only [settle, hold]
  show Leaves _ _ _ _ _ (settle _) _
  rw [h1]
  refine ⟨_, res_read tmps p _ _ h4 (((hb.set_other (p := ⟨r, 1, none⟩) (fun q => hpr q.symm) _).set 0 _).ext (Ext.new _ _)), hR _ ⟨a, n, c, (((hr.set 1 _).set_other (p := ⟨p, 0, none⟩) hpr _).ext (Ext.new _ _))⟩ (MutO.alloc (MutO.set (MutO.set (MutO.refl _ _) (Or.inr rfl) _) (Or.inl rfl) _) _)⟩
theorem leave_word (tmps : Array Value) (p r : Nat) (x : Value) (w : World) (R : Ending → World → Prop) (hany : RdAny w r)
    (hR : ∀ W, RdOver W r → MutO (RdFp p r) w W → R (.panicked [{ v := .iface 9 x, recovered := false }, { v := .iface 9 x, recovered := true }]) W) :
    Leaves Try.prog Try.f26 tmps R [{ target := .fn (.func 95) #[], args := #[.pointer (some ⟨r, 0, none⟩), .pointer (some ⟨p, 0, none⟩)] }] (.panicking [{ v := .iface 9 x, recovered := false }]) w := by
  refine leaves_cons (by simp) (invoke_caught _ _ _) ?_
  refine (caught_word _ r p x [] hany).mono ?_
  rintro en u' w'' ⟨rfl, rfl, rfl⟩
  obtain ⟨a, n, c, hr⟩ := hany
  exact hR _ ⟨a, n, c, (hr.set 1 _).ext (Ext.new _ _)⟩ (MutO.alloc (MutO.set (MutO.refl _ _) (Or.inr rfl) _) _)
theorem leave_other (tmps : Array Value) (p r r' : Nat) (e : Int) (w : World) (R : Ending → World → Prop) (hany : RdAny w r) (hr' : ∃ vs, Blk w r' vs) (hne : r' ≠ r)
    (hR : ∀ W, RdOver W r → MutO (RdFp p r) w W → R (.panicked [{ v := failV r' e, recovered := false }, { v := failV r' e, recovered := true }]) W) :
    Leaves Try.prog Try.f26 tmps R [{ target := .fn (.func 95) #[], args := #[.pointer (some ⟨r, 0, none⟩), .pointer (some ⟨p, 0, none⟩)] }] (.panicking [{ v := failV r' e, recovered := false }]) w := by
  refine leaves_cons (by simp) (invoke_caught _ _ _) ?_
  refine (caught_other _ r p r' e [] hany hr' hne).mono ?_
  rintro en u' w'' ⟨rfl, rfl, rfl⟩
  obtain ⟨a, n, c, hr⟩ := hany
  exact hR _ ⟨a, n, c, (hr.set 1 _).ext (Ext.new _ _)⟩ (MutO.alloc (MutO.set (MutO.refl _ _) (Or.inr rfl) _) _)
set_option maxRecDepth 20000 in
set_option maxHeartbeats 1000000 in
theorem read_any (w : World) (a : Option Addr) (n c : Nat) (xs : List UInt8) (F : FuncId) (cap : Array Value) (R : Ending → World → Prop) (h : By w a n xs) (hc : n ≤ c ∧ c ≤ maxLen) (hn : n ≤ 100000000000)
    (hi : ∀ w r, (callFunc F (#[.pointer (some ⟨r, 0, none⟩)] ++ cap)).run Try.prog w = .ok (.enter F (#[.pointer (some ⟨r, 0, none⟩)] ++ cap)) w)
    (K : ∀ w1 p r, Ext w w1 → w.heap.size ≤ p → p < r → w.heap.size < r → Blk w1 p [.int .i64 0] → RdAt (fun k => p < k ∧ k < w1.heap.size) w1 r xs → Calls Try.prog F (#[.pointer (some ⟨r, 0, none⟩)] ++ cap) w1 (ReadK p r R)) :
    Calls Try.prog 26 #[.slice a n c, .func (.func F) #[] cap] w R := by
  have HY := Lib.hid h; clear h
  have HC := Lib.hid hc; clear hc
  have HK := Lib.hid K; clear K
  have hmf : ∀ (fn : Fn) (first cap : Array Value) (w : World), (Instr.makeFunc fn first cap).run Try.prog w = .ok (.func fn first cap) w := fun _ _ _ _ => rfl
  have hnf : ∀ w, (binOp .neq 57 (.func (.func F) #[] cap) .nilFunc).run Try.prog w = .ok (.bool true) w := fun _ => by kernel_rfl
  go_enter_defers Try.func26, Try.ntmps26
  go_wp2_with fail
  refine (clone_any a n c xs _ (HY.out.ext (Ext.new _ _)) HC.out (by omega)).mono ?_
  rintro e w1 ⟨v, rfl, hown, hx1⟩
  have HO := Lib.hid hown
  have HX := Lib.hid hx1
  obtain ⟨va, vc, rfl⟩ := own_slice hown
  clear hown hx1
  go_wp2_with fail
  have hsz : w.heap.size + 1 ≤ w1.heap.size := by have h0 := HX.out.le; have h1 : (w.heap.push (Obj.cells #[Value.int IntKind.i64 0] 31)).size ≤ w1.heap.size := h0; rwa [Array.size_push] at h1
  have hrd : RdAt (fun k => w.heap.size < k ∧ k < (w1.alloc (.cells #[.slice va n vc, .bool false] 126)).heap.size) (w1.alloc (.cells #[.slice va n vc, .bool false] 126)) w1.heap.size xs := by
    have hby := own_by HO.out
    obtain ⟨a3, n3, c3, e3, h31, h32, h33⟩ := hby
    injection e3 with e4 e5 e6
    subst e4 e5 e6
    refine ⟨va, n, vc, Blk.lit _ _ _ _ rfl, h33.ext (Ext.new _ _), ⟨h31, h32⟩, fun ad had => ?_⟩
    have := HO.out.lt ad.block (by rw [had]; rfl)
    have h0 : (w.alloc (Obj.cells #[Value.int IntKind.i64 0] 31)).heap.size = w.heap.size + 1 := Array.size_push _
    have h1 : (w1.alloc (.cells #[.slice va n vc, .bool false] 126)).heap.size = w1.heap.size + 1 := Array.size_push _
    omega
  have hblk : Blk (w1.alloc (.cells #[.slice va n vc, .bool false] 126)) w.heap.size [.int .i64 0] := ((Blk.lit _ _ _ _ rfl).ext HX.out).ext (Ext.new _ _)
  have hext : Ext w (w1.alloc (.cells #[.slice va n vc, .bool false] 126)) := ((Ext.new w _).trans HX.out).trans (Ext.new _ _)
  have hpr : w.heap.size ≠ w1.heap.size := by omega
  refine (HK.out _ w.heap.size w1.heap.size hext (Nat.le_refl _) (by omega) (by omega) hblk hrd).mono ?_
  generalize w.heap.size = p at *
  generalize w1.heap.size = r at *
  clear HK hrd hblk hext HX HO HY HC hsz hn
  intro en w2 hen
  obtain ⟨hbp, hen⟩ := hen
  rcases hen with ⟨z, v, ys, rfl, hrd, hR⟩ | ⟨e, older, rfl, hold, hany, hR⟩ | ⟨x, rfl, hany, hR⟩ | ⟨r', e, rfl, hany, hr', hne, hR⟩
  · obtain ⟨a4, n4, c4, hb4, hy4, _⟩ := hrd
    have h0 := hb4.cell 0
    have g0 := hbp.cell 0
    have g1 := hbp.free 0
    have hlen := hy4.1
    have HB := Lib.hid hb4
    have HP := Lib.hid hbp
    have HR := Lib.hid hR
    clear hb4 hbp hR hy4
    have hput : ∀ y, Blk (w2.setCell ⟨p, 0, none⟩ (.int .i64 y)) p [.int .i64 y] ∧ RdAny (w2.setCell ⟨p, 0, none⟩ (.int .i64 y)) r ∧ MutO (RdFp p r) w2 (w2.setCell ⟨p, 0, none⟩ (.int .i64 y)) := fun y =>
      ⟨HP.out.set 0 _, ⟨a4, n4, c4, HB.out.set_other (p := ⟨p, 0, none⟩) hpr _⟩, MutO.set (MutO.refl _ _) (Or.inl rfl) _⟩
    have HU := Lib.hid hput
    clear hput
    by_cases hy : ys = []
    · subst hy
      obtain rfl : n4 = 0 := hlen
      go_wp2_with fail
      exact leave_back _ p r 0 _ R (by simp) hpr (HU.out 0).2.1 (HU.out 0).1 fun W hW hm => by simpa using HR.out W hW ((HU.out 0).2.2.trans hm fun _ _ q => q)
    · have hpos : 0 < n4 := by
        rcases Nat.eq_zero_or_pos n4 with q | q
        · exact absurd (List.length_eq_zero_iff.1 (hlen ▸ q)) hy
        · exact q
      clear hlen
      go_wp2_with fail
      exact leave_back _ p r 13 _ R (by simp) hpr (HU.out 13).2.1 (HU.out 13).1 fun W hW hm => by simpa [hy] using HR.out W hW ((HU.out 13).2.2.trans hm fun _ _ q => q)
  · exact leave_own _ p r 0 e older _ R (by simp) hpr hany hbp hold hR
  · exact leave_word _ p r x _ R hany hR
  · exact leave_other _ p r r' e _ R hany hr' hne hR
set_option maxRecDepth 20000 in
set_option maxHeartbeats 1000000 in
theorem read_nil (w : World) (a : Option Addr) (n c : Nat) (xs : List UInt8) (R : Ending → World → Prop) (h : By w a n xs) (hc : n ≤ c ∧ c ≤ maxLen) (hn : n ≤ 100000000000) (hR : ∀ W, Ext w W → R (.returned (.int .i64 (if xs = [] then 0 else 13))) W) :
    Calls Try.prog 26 #[.slice a n c, .nilFunc] w R := by
  have HR := Lib.hid hR; clear hR
  have HY := Lib.hid h; clear h
  have HC := Lib.hid hc; clear hc
  have hmf : ∀ (fn : Fn) (first cap : Array Value) (w : World), (Instr.makeFunc fn first cap).run Try.prog w = .ok (.func fn first cap) w := fun _ _ _ _ => rfl
  have hnf : ∀ w, (binOp .neq 57 .nilFunc .nilFunc).run Try.prog w = .ok (.bool false) w := fun _ => by kernel_rfl
  go_enter_defers Try.func26, Try.ntmps26
  go_wp2_with fail
  refine (clone_any a n c xs _ (HY.out.ext (Ext.new _ _)) HC.out (by omega)).mono ?_
  rintro e w1 ⟨v, rfl, hown, hx1⟩
  have HO := Lib.hid hown
  have HX := Lib.hid hx1
  obtain ⟨va, vc, rfl⟩ := own_slice hown
  have hlen : n = xs.length := HY.out.1
  clear hown hx1
  have hsz : w.heap.size + 1 ≤ w1.heap.size := by have h0 := HX.out.le; have h1 : (w.heap.push (Obj.cells #[Value.int IntKind.i64 0] 31)).size ≤ w1.heap.size := h0; rwa [Array.size_push] at h1
  have hpr : w.heap.size ≠ w1.heap.size := by omega
  have hlt : w.heap.size < w1.heap.size := by omega
  have hblk0 : Blk w1 w.heap.size [.int .i64 0] := (Blk.lit _ _ _ _ rfl).ext HX.out
  have g1 := hblk0.free 0
  have g0 := hblk0.cell 0
  have hput : ∀ W y, W = (w1.setCell ⟨w.heap.size, 0, none⟩ (.int .i64 y)).alloc (.cells #[.slice va n vc, .bool false] 126) → Blk W w.heap.size [.int .i64 y] ∧ RdAny W w1.heap.size ∧ Ext w W := fun W y e => by
    subst e
    exact ⟨(hblk0.set 0 _).ext (Ext.new _ _), ⟨va, n, vc, Blk.lit _ _ _ _ (by simp [World.setCell])⟩, (((Ext.new w _).trans HX.out).setCell (Nat.le_refl _) _).alloc _⟩
  have HU := Lib.hid hput
  clear hput hblk0
  by_cases hy : xs = []
  · subst hy
    obtain rfl : n = 0 := hlen
    go_wp2_with fail
    exact leave_back _ w.heap.size w1.heap.size 0 _ R rfl hpr (HU.out _ 0 rfl).2.1 (HU.out _ 0 rfl).1 fun W hW hm => by simpa using HR.out W (MutO.ext (HU.out _ 0 rfl).2.2 hm (fun k hk => by rcases hk with rfl | rfl <;> omega))
  · have hpos : 0 < n := by
      rcases Nat.eq_zero_or_pos n with q | q
      · exact absurd (List.length_eq_zero_iff.1 (hlen ▸ q)) hy
      · exact q
    clear hlen
    go_wp2_with fail
    exact leave_back _ w.heap.size w1.heap.size 13 _ R rfl hpr (HU.out _ 13 rfl).2.1 (HU.out _ 13 rfl).1 fun W hW hm => by simpa [hy] using HR.out W (MutO.ext (HU.out _ 13 rfl).2.2 hm (fun k hk => by rcases hk with rfl | rfl <;> omega))
end Go.Proofs.Ytpenjnccdachaaa

namespace Go.Proofs.Ytpenjnccdachaaa
set_option linter.unusedSimpArgs false
set_option linter.unusedVariables false
open Go Go.RowKit
section
variable {fr al : Nat → Prop} {w0 w w' : World} {L : List It}
theorem Own.dropLast {J : It} (st : Own fr al w0 (L ++ [J]) w) : Own fr al w0 L w := by
  obtain ⟨hm, e, s, F⟩ := st
  have hl : ∀ {j}, j < L.length → j < (L ++ [J]).length := fun h => by simp; omega
  exact ⟨hm, e, s, fun j I hj => F.holds j I (by rw [List.getElem?_append_left (get_lt hj)]; exact hj), fun j b hj => F.lo j b (hl hj), fun j b hj => F.fr j b (hl hj), fun j b hj => F.al j b (hl hj),
    fun j k b hj hk => F.ee j k b (hl hj) (hl hk), fun j k b hj hk => F.es j k b (hl hj) (hl hk)⟩
/-- The frame rule for all items but the last one. -/
theorem Own.pre {J : It} (st : Own fr al w0 (L ++ [J]) w) : ∃ fr' al' : Nat → Prop, Own fr' al' w L w ∧ ∀ M w', Own fr' al' w M w' → Own fr al w0 (M ++ [J]) w' := by
  obtain ⟨hm, e, s, F⟩ := st
  have hl : ∀ {j}, j < L.length → j < (L ++ [J]).length := fun h => by simp; omega
  have hn : L.length < (L ++ [J]).length := by simp
  refine ⟨fun b => ∃ i, i < L.length ∧ e i b, fun b => ∃ i, i < L.length ∧ (e i b ∨ s i b), ⟨MutO.refl _ _, e, s, fun j I hj => F.holds j I (by rw [List.getElem?_append_left (get_lt hj)]; exact hj), fun j b hj => F.lo j b (hl hj), fun j b hj hb _ => ⟨j, hj, hb⟩, fun j b hj hb _ => ⟨j, hj, hb⟩,
    fun j k b hj hk => F.ee j k b (hl hj) (hl hk), fun j k b hj hk => F.es j k b (hl hj) (hl hk)⟩, ?_⟩
  rintro M w' ⟨hm', eM, sM, G⟩
  have hle := hm.size
  have z : ∀ {j}, j < (M ++ [J]).length → j < M.length ∨ j = M.length := fun {j} h => by simp at h; omega
  have hfar : ∀ {b}, (e L.length b ∨ s L.length b) → ¬ ∃ i, i < L.length ∧ e i b := fun {b} hb ⟨i, hi, he⟩ => by
    rcases hb with hb | hb
    · exact F.ee i L.length b (hl hi) hn (by omega) he hb
    · exact F.es i L.length b (hl hi) hn he hb
  have hfar' : ∀ {b}, e L.length b → ¬ ∃ i, i < L.length ∧ (e i b ∨ s i b) := fun {b} hb ⟨i, hi, he⟩ => by
    rcases he with he | he
    · exact F.ee i L.length b (hl hi) hn (by omega) he hb
    · exact F.es L.length i b hn (hl hi) hb he
  refine ⟨hm.trans hm' fun b hb ⟨i, hi, he⟩ => F.fr i b (hl hi) he hb, fun j => if j < M.length then eM j else e L.length, fun j => if j < M.length then sM j else s L.length, fun j I hj => ?_, fun j b hj hb => ?_, fun j b hj hb hb0 => ?_, fun j b hj hb hb0 => ?_, fun j k b hj hk hjk hb hb' => ?_, fun j k b hj hk hb hb' => ?_⟩
  · rcases z (get_lt hj) with h | h
    · rw [List.getElem?_append_left h] at hj
      simp only [h, if_true]
      exact G.holds j I hj
    · subst h
      simp at hj
      subst hj
      simp only [Nat.lt_irrefl, if_false]
      exact J.st (F.holds L.length J (by simp)) fun b hb => hm'.block b (F.lo _ b hn hb) (hfar hb)
  · rcases z hj with h | h
    · simp only [h, if_true] at hb
      exact G.lo j b h hb
    · subst h
      simp only [Nat.lt_irrefl, if_false] at hb
      exact Nat.lt_of_lt_of_le (F.lo _ b hn hb) hm'.size
  · rcases z hj with h | h
    · simp only [h, if_true] at hb
      obtain ⟨i, hi, he⟩ := G.fr j b h hb (by omega)
      exact F.fr i b (hl hi) he hb0
    · subst h
      simp only [Nat.lt_irrefl, if_false] at hb
      exact F.fr _ b hn hb hb0
  · rcases z hj with h | h
    · simp only [h, if_true] at hb
      obtain ⟨i, hi, he⟩ := G.al j b h hb (by omega)
      exact F.al i b (hl hi) he hb0
    · subst h
      simp only [Nat.lt_irrefl, if_false] at hb
      exact F.al _ b hn hb hb0
  · rcases z hj with h | h <;> rcases z hk with h' | h'
    · simp only [h, h', if_true] at hb hb'
      exact G.ee j k b h h' hjk hb hb'
    · subst h'
      simp only [h, if_true, Nat.lt_irrefl, if_false] at hb hb'
      exact hfar (.inl hb') (G.fr j b h hb (F.lo _ b hn (.inl hb')))
    · subst h
      simp only [h', if_true, Nat.lt_irrefl, if_false] at hb hb'
      exact hfar (.inl hb) (G.fr k b h' hb' (F.lo _ b hn (.inl hb)))
    · omega
  · rcases z hj with h | h <;> rcases z hk with h' | h'
    · simp only [h, h', if_true] at hb hb'
      exact G.es j k b h h' hb hb'
    · subst h'
      simp only [h, if_true, Nat.lt_irrefl, if_false] at hb hb'
      exact hfar (.inr hb') (G.fr j b h hb (F.lo _ b hn (.inr hb')))
    · subst h
      simp only [h', if_true, Nat.lt_irrefl, if_false] at hb hb'
      exact hfar' hb (G.al k b h' (.inr hb') (F.lo _ b hn (.inl hb)))
    · subst h
      simp only [h', Nat.lt_irrefl, if_false] at hb hb'
      exact F.es _ _ b hn hn hb hb'
end
/-- Two items in one. -/
def sepI (I J : It) : It where
  P e s w := ∃ e1 e2 s1 s2 : Nat → Prop, I.P e1 s1 w ∧ J.P e2 s2 w ∧ (∀ b, e1 b → e b) ∧ (∀ b, e2 b → e b) ∧ (∀ b, s1 b → s b) ∧ (∀ b, s2 b → s b) ∧ ∀ b, e1 b → ¬ e2 b
  st := by
    rintro e s w w' ⟨e1, e2, s1, s2, h1, h2, h3, h4, h5, h6, h7⟩ hag
    exact ⟨e1, e2, s1, s2, I.st h1 fun b hb => hag b (hb.imp (h3 b) (h5 b)), J.st h2 fun b hb => hag b (hb.imp (h4 b) (h6 b)), h3, h4, h5, h6, h7⟩
  facts w := I.facts w ∧ J.facts w
  ok := fun ⟨_, _, _, _, h1, h2, _⟩ => ⟨I.ok h1, J.ok h2⟩
def exI {α : Type} (F : α → It) : It where
  P e s w := ∃ x, (F x).P e s w
  st := fun ⟨x, h⟩ hag => ⟨x, (F x).st h hag⟩
  facts _ := True
  ok := fun _ => trivial
section
variable {fr al : Nat → Prop} {w0 w w' : World} {L : List It}
theorem Own.unex (st : Own fr al w0 L w) {i : Nat} {α : Type} {F : α → It} (hi : L[i]? = some (exI F)) : ∃ x, Own fr al w0 (L.set i (F x)) w := by
  obtain ⟨hm, e, s, G⟩ := st
  obtain ⟨x, hx⟩ := G.holds i _ hi
  exact ⟨x, G.upd hm hi fun _ h2 h3 => ⟨e i, s i, hx, fun b hb => ⟨h2 b (.inl hb), .inl hb⟩, fun b hb => ⟨h2 b (.inr hb), .inr (.inl hb)⟩, h3, MutO.refl _ _⟩⟩
theorem Own.ex (st : Own fr al w0 L w) {i : Nat} {α : Type} {F : α → It} (x : α) (hi : L[i]? = some (F x)) : Own fr al w0 (L.set i (exI F)) w :=
  st.conv hi fun e s h h3 => ⟨e, s, ⟨x, h⟩, fun _ q => q, fun _ q => .inr q, h3⟩
theorem Own.split (st : Own fr al w0 L w) {i : Nat} {I J : It} (hi : L[i]? = some (sepI I J)) : Own fr al w0 (L.set i I ++ [J]) w := by
  obtain ⟨hm, e, s, G⟩ := st
  obtain ⟨e1, e2, s1, s2, h1, h2, h3, h4, h5, h6, h7⟩ := G.holds i _ hi
  have hil := get_lt hi
  have z : ∀ {j}, j < (L.set i I ++ [J]).length → j < L.length ∨ j = L.length := fun {j} h => by simp at h; omega
  have hle : ∀ j b, (if j = L.length then e2 b else if j = i then e1 b else e j b) → e (if j = L.length then i else j) b := fun j b hb => by
    by_cases h : j = L.length
    · simp only [h, if_true] at hb ⊢; exact h4 b hb
    · simp only [h, if_false] at hb ⊢
      by_cases h' : j = i
      · simp only [h', if_true] at hb ⊢; exact h3 b hb
      · simp only [h', if_false] at hb; exact hb
  have hls : ∀ j b, (if j = L.length then s2 b else if j = i then s1 b else s j b) → s (if j = L.length then i else j) b := fun j b hb => by
    by_cases h : j = L.length
    · simp only [h, if_true] at hb ⊢; exact h6 b hb
    · simp only [h, if_false] at hb ⊢
      by_cases h' : j = i
      · simp only [h', if_true] at hb ⊢; exact h5 b hb
      · simp only [h', if_false] at hb; exact hb
  have hlt : ∀ {j}, j < (L.set i I ++ [J]).length → (if j = L.length then i else j) < L.length := fun {j} hj => by
    rcases z hj with h | h
    · rw [if_neg (by omega)]; exact h
    · rw [if_pos h]; exact hil
  refine ⟨hm, fun j b => if j = L.length then e2 b else if j = i then e1 b else e j b, fun j b => if j = L.length then s2 b else if j = i then s1 b else s j b, fun j K hj => ?_, fun j b hj hb => G.lo _ b (hlt hj) (hb.imp (hle j b) (hls j b)), fun j b hj hb => G.fr _ b (hlt hj) (hle j b hb),
    fun j b hj hb => G.al _ b (hlt hj) (hb.imp (hle j b) (hls j b)), fun j k b hj hk hjk hb hb' => ?_, fun j k b hj hk hb hb' => G.es _ _ b (hlt hj) (hlt hk) (hle j b hb) (hls k b hb')⟩
  · rcases z (get_lt hj) with h | h
    · rw [List.getElem?_append_left (by simpa using h), List.getElem?_set] at hj
      have hn : j ≠ L.length := by omega
      by_cases hji : j = i
      · subst hji
        simp [hil] at hj
        subst hj
        simpa [hn] using h1
      · rw [if_neg (Ne.symm hji)] at hj
        simpa [hn, hji] using G.holds j K hj
    · subst h
      simp at hj
      subst hj
      simpa using h2
  · rcases z hj with h | h <;> rcases z hk with h' | h'
    · have hn : j ≠ L.length := by omega
      have hn' : k ≠ L.length := by omega
      have q1 := hle j b hb
      have q2 := hle k b hb'
      simp only [hn, hn', if_false] at q1 q2
      exact G.ee j k b h h' hjk q1 q2
    · subst h'
      have hn : j ≠ L.length := by omega
      by_cases hji : j = i
      · subst hji
        simp only [hn, if_false, if_true] at hb hb'
        exact h7 b hb hb'
      · have q1 := hle j b hb
        have q2 := hle L.length b hb'
        simp only [hn, if_false, if_true] at q1 q2
        exact G.ee j i b h hil hji q1 q2
    · subst h
      have hn : k ≠ L.length := by omega
      by_cases hji : k = i
      · subst hji
        simp only [hn, if_false, if_true] at hb hb'
        exact h7 b hb' hb
      · have q1 := hle L.length b hb
        have q2 := hle k b hb'
        simp only [hn, if_false, if_true] at q1 q2
        exact G.ee i k b hil h' (Ne.symm hji) q1 q2
    · omega
end

/-- How the function that Read was given ends, and what is then asked. -/
def RdB (fr al : Nat → Prop) (w1 : World) (r : Nat) (R : Int → List It → Prop) (en : Ending) (w2 : World) : Prop :=
  (∃ v ys M, en = .returned v ∧ R (if ys = [] then 0 else 13) M ∧ Own fr al w1 (rdI r ys :: M) w2) ∨
  (∃ e older M, en = .panicked ({ v := failV r e, recovered := false } :: older) ∧ older.dropWhile (!·.goexit) = [] ∧ R e M ∧ Own fr al w1 (rdAnyI r :: M) w2)
theorem over_back {fr al : Nat → Prop} {w0 w2 W : World} {p r : Nat} {x : Value} {I : It} {M : List It} (hI : ∀ e s, I.P e s w2 → e r) (st : Own fr al w0 (I :: M ++ [blkI p [x]]) w2) (hW : RdOver W r) (hm : MutO (RdFp p r) w2 W) : Own fr al w0 (rdOverI r :: M) W := by
  have hlen : (I :: M ++ [blkI p [x]]).length = M.length + 2 := by simp
  obtain ⟨fr', al', st', back⟩ := st.sub [0, M.length + 1] (by simp) (by rw [hlen]; simp)
  have hp : pick (I :: M ++ [blkI p [x]]) [0, M.length + 1] = [I, blkI p [x]] := by simp [pick]
  rw [hp] at st'
  obtain ⟨hm0, e, s, F⟩ := st'
  have hr := hI _ _ (F.holds 0 _ rfl)
  have hpp := (F.holds 1 _ rfl).1
  have hrl := F.lo 0 r (by simp) (.inl hr)
  have hpl := F.lo 1 p (by simp) (.inl hpp)
  have hfr : ∀ k, RdFp p r k → fr' k := fun k hk => by
    rcases hk with rfl | rfl
    · exact F.fr 1 _ (by simp) hpp hpl
    · exact F.fr 0 _ (by simp) hr hrl
  have hal : al' r := F.al 0 _ (by simp) (.inl hr) hrl
  have h1 : Own fr' al' w2 [rdOverI r, nullI] W := Own.mk2 (hm.mono hfr) (e := fun k => k = r) (s := fun _ => False) (f := fun _ => False) (t := fun _ => False) ⟨rfl, hW⟩ trivial
    (fun b hb => by rcases hb with (rfl | q) | q | q; exact Nat.lt_of_lt_of_le hrl hm.size; exact q.elim; exact q.elim; exact q.elim)
    (fun b hb _ => by rcases hb with rfl | q; exact hfr _ (.inr rfl); exact q.elim)
    (fun b hb _ => by rcases hb with (rfl | q) | q | q; exact hal; exact q.elim; exact q.elim; exact q.elim)
    (fun _ _ => ⟨fun q => q, fun q => q, fun q => q⟩) (fun _ q => q.elim)
  have h2 := back _ _ (by simp) h1
  have h3 : putIt (I :: M ++ [blkI p [x]]) [rdOverI r, nullI] 0 [0, M.length + 1] = (rdOverI r :: M) ++ [nullI] := by
    simp [putIt, List.set_append]
  rw [h3] at h2
  exact h2.dropLast
theorem read_c {fr al : Nat → Prop} {w0 w : World} {L : List It} (st : Own fr al w0 L w) {a : Option Addr} {n c : Nat} {xs : List UInt8} (h : By w a n xs) (hc : n ≤ c ∧ c ≤ maxLen) (hn : n ≤ 100000000000) (F : FuncId) (cap : Array Value)
    (hi : ∀ w r, (callFunc F (#[.pointer (some ⟨r, 0, none⟩)] ++ cap)).run Try.prog w = .ok (.enter F (#[.pointer (some ⟨r, 0, none⟩)] ++ cap)) w) (R : Nat → Int → List It → Prop)
    (K : ∀ fr' al' w1 r, w.heap.size ≤ r → Own fr' al' w1 (L ++ [rdI r xs]) w1 → Calls Try.prog F (#[.pointer (some ⟨r, 0, none⟩)] ++ cap) w1 (RdB fr' al' w1 r (R r))) :
    Calls Try.prog 26 #[.slice a n c, .func (.func F) #[] cap] w fun en w' => ∃ r e M, en = .returned (.int .i64 e) ∧ R r e M ∧ Own fr al w0 (rdOverI r :: M) w' := by
  refine read_any w a n c xs F cap _ h hc hn hi fun w1 p r hx hp hpr hwr hb hrd => ?_
  have hrd' := hrd
  obtain ⟨a1, n1, c1, hb1, _⟩ := hrd'
  have hrl := hb1.lt
  have hpl := hb.lt
  have st1 : Own fr al w0 (L ++ [sepI (rdI r xs) (blkI p [.int .i64 0])]) w1 := by
    refine st.new hx (e' := fun k => k = p ∨ k = r) (s' := fun k => p < k ∧ k < w1.heap.size ∧ k ≠ r) ⟨fun k => k = r, fun k => k = p, fun k => p < k ∧ k < w1.heap.size ∧ k ≠ r, fun _ => False, ⟨rfl, ?_⟩, ⟨rfl, hb⟩, fun _ q => .inr q, fun _ q => .inl q, fun _ q => q, fun _ q => q.elim, ?_⟩ ?_ ?_ ?_
    · obtain ⟨a, n, c, h1, h2, h3, h4⟩ := hrd
      exact ⟨a, n, c, h1, h2, h3, fun ad had => ⟨(h4 ad had).1, (h4 ad had).2.1, (h4 ad had).2.2, (h4 ad had).1⟩⟩
    · intro b e1 e2; omega
    · intro b hb; omega
    · intro b hb; omega
    · intro b hb hb'; omega
  have st2 := st1.split (i := L.length) (I := rdI r xs) (J := blkI p [.int .i64 0]) (by simp)
  have e1 : (L ++ [sepI (rdI r xs) (blkI p [.int .i64 0])]).set L.length (rdI r xs) = L ++ [rdI r xs] := by simp [List.set_append]
  rw [e1] at st2
  obtain ⟨fr', al', st3, back⟩ := st2.pre
  refine (K fr' al' w1 r (by omega) st3).mono fun en w2 hen => ?_
  rcases hen with ⟨v, ys, M, h1, h2, h3⟩ | ⟨e, older, M, h1, h2, h3, h4⟩
  · have st4 := back _ _ h3
    obtain ⟨e, s, ⟨_, h5⟩, _⟩ := st4.get (i := 0) (I := rdI r ys) rfl
    refine ⟨st4.blk (i := M.length + 1) (by simp), .inl ⟨s, v, ys, h1, h5, fun W hW hm => ⟨r, _, M, rfl, h2, over_back (I := rdI r ys) (fun _ _ q => q.1) st4 hW hm⟩⟩⟩
  · have st4 := back _ _ h4
    obtain ⟨_, s, ⟨_, h5⟩, _⟩ := st4.get (i := 0) (I := rdAnyI r) rfl
    refine ⟨st4.blk (i := M.length + 1) (by simp), .inr (.inl ⟨e, older, h1, h2, h5, fun W hW hm => ⟨r, _, M, rfl, h3, over_back (I := rdAnyI r) (fun _ _ q => q.1) st4 hW hm⟩⟩)⟩
end Go.Proofs.Ytpenjnccdachaaa

namespace Go.Proofs.Ytpenjnccdachaaa
set_option linter.unusedSimpArgs false
set_option linter.unusedVariables false
open Go Go.RowKit
theorem div_tdiv (m : Nat) : ((m : Int)).tdiv 128 = ((m / 128 : Nat) : Int) := by
  rw [Int.tdiv_eq_ediv_of_nonneg (by omega)]; omega
set_option maxRecDepth 100000 in
set_option maxHeartbeats 1000000 in
theorem refNumber_any (n : Nat) (w : World) (hn : n < 9223372036854775808) :
    Calls Try.prog 89 #[.int .i64 (n : Int)] w fun e w' => e = .returned (S (numB n)) ∧ Ext w w' := by
  have hcv := fun (w : World) (x : Int) => conv_one (P := Try.prog) (src := 23) (dst := 9) (e := 5) Try.underlying23 Try.underlying5 Try.underlying9 5 w x
  have happ := ba_append
  unfold S
  go_enter Try.func89, Try.ntmps89
  go_wp2
  go_loopw [0, 3] (fun i s wr => ∃ (k m : Nat) (done : List UInt8), m * 128 ^ k ≤ n ∧ k ≤ 9 ∧ i = .int .i64 (m : Int) ∧ s = .string ⟨done.toArray⟩ ∧ numF 10 n = done ++ numF (10 - k) m ∧ Ext w wr) (fun i _ _ => (intOf i).toNat)
  case atStart => exact ⟨0, n, [], by simp, by omega, rfl, rfl, by simp, Ext.refl _⟩
  case round =>
    obtain ⟨k, m, done, hmk, hk, rfl, rfl, hnum, hx⟩ := hrel
    have hm : m < 9223372036854775808 := by
      have h1 : m * 1 ≤ m * 128 ^ k := Nat.mul_le_mul_left m (Nat.one_le_pow _ _ (by decide))
      omega
    have hdl : done.length ≤ 10 := by
      have h1 := congrArg List.length hnum
      have h2 := numF_len 10 n
      rw [List.length_append] at h1
      omega
    have HN := Lib.hid hnum; clear hnum
    have HK := Lib.hid hmk; clear hmk
    have HX := Lib.hid hx; clear hx
    have h9 : 128 ≤ m → k < 9 := fun h => by
      rcases Nat.lt_or_ge k 9 with h | h
      · exact h
      · exfalso
        obtain rfl : k = 9 := by omega
        have h1 := HK.out
        have h2 : 128 * 128 ^ 9 ≤ m * 128 ^ 9 := Nat.mul_le_mul_right _ (by assumption)
        have h3 : (128 : Nat) ^ 9 = 9223372036854775808 := by decide
        rw [h3] at h1 h2
        omega
    have H9 := Lib.hid h9; clear h9
    by_cases hlt : 128 ≤ m
    · go_wp2
      go_roundw
      case rel =>
        refine ⟨k + 1, m / 128, done ++ [UInt8.ofNat (128 + m % 128)], ?_, by have := H9.out hlt; omega, by first | rfl | go_num | (congr 1; omega), ?_, ?_, by first | exact HX.out.alloc _ | exact HX.out⟩
        · have h1 := HK.out
          rw [Nat.pow_succ, Nat.mul_comm (128 ^ k), ← Nat.mul_assoc]
          exact Nat.le_trans (Nat.mul_le_mul_right _ (Nat.div_mul_le_self m 128)) h1
        · rw [UInt8.ofNat_add]; rfl
        · have := H9.out hlt
          rw [HN.out, show 10 - k = (9 - k) + 1 by omega, numF_more _ _ hlt, List.append_assoc, show 10 - (k + 1) = 9 - k by omega]; rfl
      case measure => simp [intOf]; omega
    · go_wp2
      go_ret
      refine ⟨?_, by first | exact HX.out.alloc _ | exact HX.out⟩
      have e : numB n = done ++ [UInt8.ofNat m] := by
        unfold numB
        rw [HN.out, show 10 - k = (9 - k) + 1 by omega, numF_last _ _ hlt]
      rw [e]
      rfl
set_option maxRecDepth 100000 in
set_option maxHeartbeats 1000000 in
theorem refText_any (s : List UInt8) (w : World) (hs : s.length ≤ 100000000) :
    Calls Try.prog 45 #[S s] w fun e w' => e = .returned (S (numB s.length ++ s)) ∧ Ext w w' := by
  have happ := ba_append
  unfold S
  go_enter Try.func45, Try.ntmps45
  go_wp2_with fail
  refine (refNumber_any s.length _ (by omega)).mono ?_
  rintro e w1 ⟨rfl, hx⟩
  have HX := Lib.hid hx; clear hx
  unfold S
  have hnl : (numB s.length).length ≤ 10 := numF_len 10 s.length
  go_wp2
  go_ret
  exact ⟨rfl, HX.out⟩
end Go.Proofs.Ytpenjnccdachaaa

namespace Go.Proofs.Ytpenjnccdachaaa
set_option linter.unusedSimpArgs false
set_option linter.unusedVariables false
open Go Go.RowKit
/-- The reference's tape at block t. -/
def RefAt (w : World) (t : Nat) (s : List UInt8) (e : Int) : Prop := Blk w t [S s, .int .i64 e]
/-- What a reading method of the reference comes to. -/
def RefOut {α : Type} (t : Nat) (w : World) (res : Except Int (α × List UInt8)) (zero : Value) (ok : α → Value) : Ending → World → Prop := fun en w' =>
  MutO (rdFp t) w w' ∧ match res with
  | .error e => en = .returned zero ∧ ∃ s, RefAt w' t s e
  | .ok (a, ys) => en = .returned (ok a) ∧ RefAt w' t ys 0
theorem RefAt.mut {fp : Nat → Prop} {w w' : World} {t : Nat} {s : List UInt8} {e : Int} (h : RefAt w t s e) (hm : MutO fp w w') (ht : ¬ fp t) : RefAt w' t s e := Blk.mut h hm ht
theorem RefOut.err {α : Type} {t : Nat} {w : World} {res : Except Int (α × List UInt8)} {zero : Value} {ok : α → Value} {e : Int} {en : Ending} {w' : World} (hE : res = .error e) (hm : MutO (rdFp t) w w') (h : en = .returned zero ∧ ∃ s, RefAt w' t s e) : RefOut t w res zero ok en w' := by
  subst hE; exact ⟨hm, h⟩
theorem RefOut.ok {α : Type} {t : Nat} {w : World} {res : Except Int (α × List UInt8)} {zero : Value} {ok : α → Value} {a : α} {ys : List UInt8} {en : Ending} {w' : World} (hE : res = .ok (a, ys)) (hm : MutO (rdFp t) w w') (h : en = .returned (ok a) ∧ RefAt w' t ys 0) : RefOut t w res zero ok en w' := by
  subst hE; exact ⟨hm, h⟩
/-- The string behind its first byte. -/
theorem ba_eq_nil (xs : List UInt8) : ((⟨xs.toArray⟩ : ByteArray) = ⟨#[]⟩) ↔ xs = [] := by
  constructor
  · intro h
    have := congrArg ByteArray.data h
    simpa using this
  · rintro rfl; rfl
theorem ba_head (c : UInt8) (zs : List UInt8) (h : 0 < ByteArray.size ⟨(c :: zs).toArray⟩) : (⟨(c :: zs).toArray⟩ : ByteArray)[0] = c := rfl
theorem ba_tail (c : UInt8) (zs : List UInt8) : (⟨(c :: zs).toArray⟩ : ByteArray).extract 1 (zs.length + 1) = ⟨zs.toArray⟩ := by
  apply ByteArray.ext
  simp [ByteArray.data_extract]
theorem step_val2 (acc j : Nat) (c : UInt8) (hj : j ≤ 8) (ha : acc < 128 ^ j) :
    wrap64 ((acc : Int) + wrap64 (((c.toNat : Int)).tmod 128 * ((128 ^ j : Nat) : Int))) = ((acc + c.toNat % 128 * 128 ^ j : Nat) : Int) := by
  have hp := pow128_le j hj
  have hd : c.toNat % 128 < 128 := Nat.mod_lt _ (by decide)
  have h2 := acc_lt acc j _ ha hd
  rw [Int.tmod_eq_emod_of_nonneg (by omega), show ((c.toNat : Int) % 128) = ((c.toNat % 128 : Nat) : Int) by omega, ← Int.natCast_mul]
  rw [IntWalk.wrap64_in ((c.toNat % 128 * 128 ^ j : Nat) : Int) ⟨by omega, by omega⟩, ← Int.natCast_add]
  exact IntWalk.wrap64_in _ ⟨by omega, by omega⟩
theorem rdNumF_err (f : Nat) : ∀ (i acc : Nat) (xs : List UInt8) (e : Int), rdNumF f i acc xs = .error e → e ≠ 0 := by
  induction f with
  | zero => intro i acc xs e h; simp only [rdNumF] at h; injection h with h; omega
  | succ f ih =>
    intro i acc xs e h
    unfold rdNumF at h
    rcases rdNext_cases i xs with ⟨e', he⟩ | ⟨c, zs, hok⟩
    · rw [he] at h
      injection h with h
      subst h
      unfold rdNext at he
      split at he
      · injection he with he; omega
      · cases xs with
        | nil => injection he with he; omega
        | cons x ys =>
          simp only at he
          split at he
          · injection he with he; omega
          · cases he
    · rw [hok] at h
      simp only at h
      split at h
      · cases h
      · exact ih _ _ _ _ h
theorem rdNum_err {xs : List UInt8} {e : Int} (h : rdNum xs = .error e) : e ≠ 0 := rdNumF_err _ _ _ _ _ h
theorem refEnd_any (w : World) (t : Nat) (s : List UInt8) (e : Int) (h : RefAt w t s e) :
    Calls Try.prog 30 #[.pointer (some ⟨t, 0, none⟩)] w fun en w' => en = .returned (.int .i64 (if e = 0 then (if s = [] then 0 else 13) else e)) ∧ w = w' := by
  have h0 := h.cell 0
  have h1 := h.cell 1
  clear h
  unfold S at h0
  by_cases he : e = 0
  · subst he
    cases s with
    | nil =>
      go_enter Try.func30, Try.ntmps30
      go_wp2
      go_ret
      exact ⟨rfl, rfl⟩
    | cons x xs =>
      have hne : (⟨(x :: xs).toArray⟩ : ByteArray) ≠ ⟨#[]⟩ := fun q => by simpa using (ba_eq_nil _).1 q
      go_enter Try.func30, Try.ntmps30
      go_wp2_with fail
      go_ret
      exact ⟨rfl, rfl⟩
  · skip
    go_enter Try.func30, Try.ntmps30
    go_wp2
    go_ret
    exact ⟨rfl, rfl⟩
set_option maxRecDepth 100000 in
set_option maxHeartbeats 1000000 in
set_option maxRecDepth 20000 in
theorem refTNumber_any (w : World) (t : Nat) (xs : List UInt8) (most : Int) (h : RefAt w t xs 0) :
    Calls Try.prog 99 #[.pointer (some ⟨t, 0, none⟩), .int .i64 most] w (RefOut t w (rdNumber most xs) (.int .i64 0) fun n => .int .i64 (n : Int)) := by
  have h1 := h.cell 1
  have H := Lib.hid h; clear h
  go_enter Try.func99, Try.ntmps99
  go_wp2_with fail
  go_loopw [5, 6, 7] (fun a u i wr => ∃ (j acc : Nat) (ys : List UInt8) (uu : Int), j ≤ 9 ∧ i = .int .i64 (j : Int) ∧ a = .int .i64 (acc : Int) ∧ u = .int .i64 uu ∧ (j ≤ 8 → uu = ((128 ^ j : Nat) : Int)) ∧ acc < 128 ^ j ∧ rdNum xs = rdNumF (10 - j) j acc ys ∧ RefAt wr t ys 0 ∧ MutO (rdFp t) w wr) (fun _ _ i _ => 10 - (intOf i).toNat)
  case atStart => exact ⟨0, 0, xs, 1, by omega, rfl, rfl, rfl, by simp, by simp, rfl, H.out, MutO.refl _ _⟩
  case round =>
    obtain ⟨j, acc, ys, uu, hj, rfl, rfl, rfl, huu, hacc, hnum, hrd, hm⟩ := hrel
    have HN := Lib.hid hnum; clear hnum
    have HA := Lib.hid hacc; clear hacc
    have HU := Lib.hid huu; clear huu
    have HM := Lib.hid hm; clear hm
    have HR := Lib.hid hrd; clear hrd
    have g0 := HR.out.cell 0
    have g1 := HR.out.cell 1
    have f0 := HR.out.free 0
    have f1 := HR.out.free 1
    unfold S at g0
    clear h1
    have hset : ∀ (e : Int), RefAt (wr.setCell ⟨t, 1, none⟩ (.int .i64 e)) t ys e ∧ MutO (rdFp t) w (wr.setCell ⟨t, 1, none⟩ (.int .i64 e)) := fun e => ⟨HR.out.set 1 _, MutO.set (fp := rdFp t) (p := ⟨t, 1, none⟩) HM.out rfl _⟩
    have HS := Lib.hid hset; clear hset
    by_cases h9 : j = 9
    · subst h9
      go_wp2_with fail
      go_ret
      refine RefOut.err (e := 11) ?_ (HS.out 11).2 ⟨rfl, _, (HS.out 11).1⟩
      unfold rdNumber; rw [HN.out]; rfl
    · have hj8 : j ≤ 8 := by omega
      cases ys with
      | nil =>
        go_wp2_with fail
        go_ret
        refine RefOut.err (e := 10) ?_ (HS.out 10).2 ⟨rfl, _, (HS.out 10).1⟩
        unfold rdNumber; rw [HN.out, show 10 - j = (9 - j) + 1 by omega, rdNumF]
        simp [rdNext, h9]
      | cons c zs =>
        have hne : (⟨(c :: zs).toArray⟩ : ByteArray) ≠ ⟨#[]⟩ := fun q => by simpa using (ba_eq_nil _).1 q
        have hb0 := ba_head c zs (by simp [ByteArray.size])
        have hb1 := ba_tail c zs
        have hw : wrap64 (c.toNat : Int) = (c.toNat : Int) := IntWalk.wrap64_in _ ⟨by omega, by have := c.toNat_lt; omega⟩
        have HS2 : Hid (∀ e : Int, RefAt ((wr.setCell ⟨t, 0, none⟩ (.string ⟨zs.toArray⟩)).setCell ⟨t, 1, none⟩ (.int .i64 e)) t zs e ∧ MutO (rdFp t) w ((wr.setCell ⟨t, 0, none⟩ (.string ⟨zs.toArray⟩)).setCell ⟨t, 1, none⟩ (.int .i64 e))) :=
          Lib.hid fun e => ⟨(HR.out.set 0 (S zs)).set 1 _, MutO.set (fp := rdFp t) (p := ⟨t, 1, none⟩) (MutO.set (fp := rdFp t) (p := ⟨t, 0, none⟩) HM.out rfl _) rfl _⟩
        have HS0 : Hid (RefAt (wr.setCell ⟨t, 0, none⟩ (.string ⟨zs.toArray⟩)) t zs 0 ∧ MutO (rdFp t) w (wr.setCell ⟨t, 0, none⟩ (.string ⟨zs.toArray⟩))) := Lib.hid ⟨HR.out.set 0 (S zs), MutO.set (fp := rdFp t) (p := ⟨t, 0, none⟩) HM.out rfl _⟩
        by_cases hz : c = 0 ∧ 0 < j
        · obtain ⟨rfl, hj0⟩ := hz
          go_wp2_with fail
          go_ret
          refine RefOut.err (e := 11) ?_ (HS2.out 11).2 ⟨rfl, _, (HS2.out 11).1⟩
          unfold rdNumber; rw [HN.out, show 10 - j = (9 - j) + 1 by omega, rdNumF]
          simp [rdNext, h9, hj0]
        · have hnx : rdNext j (c :: zs) = .ok (c, zs) := by 
            have : ¬ (c = 0 ∧ 0 < j) := hz
            unfold rdNext
            rw [if_neg h9]
            show (if c = 0 ∧ 0 < j then _ else _) = _
            rw [if_neg this]
          have hval := step_val2 acc j c hj8 HA.out
          have hN : rdNum xs = if c.toNat < 128 then .ok (acc + c.toNat % 128 * 128 ^ j, zs) else rdNumF (10 - (j + 1)) (j + 1) (acc + c.toNat % 128 * 128 ^ j) zs := by
            rw [HN.out, show 10 - j = (9 - j) + 1 by omega, rdNumF, hnx, show 10 - (j + 1) = 9 - j by omega]
          have HL : Hid (acc + c.toNat % 128 * 128 ^ j < 128 ^ (j + 1)) := Lib.hid (acc_lt _ _ _ HA.out (Nat.mod_lt _ (by decide)))
          have hacc63 : acc + c.toNat % 128 * 128 ^ j < 9223372036854775808 := Nat.lt_of_lt_of_le HL.out (pow128_le j hj8)
          have huu := HU.out hj8
          obtain ⟨acc', hacc'⟩ : ∃ x, acc + c.toNat % 128 * 128 ^ j = x := ⟨_, rfl⟩
          obtain ⟨pw, hpw⟩ : ∃ x, x = 128 ^ j := ⟨_, rfl⟩
          rw [hacc'] at hval hN HL hacc63
          rw [← hpw] at hval huu
          subst huu
          have HPW := Lib.hid hpw
          have HN' := Lib.hid hN
          have hc0 : ¬ (c.toNat = 0 ∧ 0 < j) := fun ⟨q, q2⟩ => hz ⟨UInt8.toNat.inj (by simpa using q), q2⟩
          have hc256 := c.toNat_lt
          have hzero : c.toNat = 0 → acc' = acc := fun q => by rw [← hacc', q]; simp
          have HZ := Lib.hid hzero
          have hval2 : wrap64 ((acc : Int) + wrap64 ((c.toNat : Int) % 128 * (pw : Int))) = (acc' : Int) := by
            rw [Int.tmod_eq_emod_of_nonneg (by omega)] at hval; exact hval
          have HX : Hid (j + 1 ≤ 8 → wrap64 ((pw : Int) * 128) = ((128 ^ (j + 1) : Nat) : Int)) := Lib.hid fun q => by
            have h1 := pow128_le (j + 1) q
            rw [hpw, Nat.pow_succ]
            have h2 : 128 ^ (j + 1 + 1) = 128 ^ j * 128 * 128 := by rw [Nat.pow_succ, Nat.pow_succ]
            rw [h2] at h1
            rw [show ((128 ^ j : Nat) : Int) * 128 = ((128 ^ j * 128 : Nat) : Int) by simp]
            exact IntWalk.wrap64_in _ ⟨by omega, by omega⟩
          clear hN hacc' hpw hnx HN HA HU hz hzero
          by_cases hc : c.toNat < 128
          · have hok : rdNum xs = .ok (acc', zs) := by rw [HN'.out, if_pos hc]
            have HOK := Lib.hid hok
            clear hok
            by_cases hmost : most < (acc' : Int)
            · have hE : rdNumber most xs = .error 12 := by unfold rdNumber; rw [HOK.out]; simp [hmost]
              have HE := Lib.hid hE
              clear hE
              by_cases hcc : c.toNat = 0
              · obtain rfl : j = 0 := by omega
                obtain rfl := HZ.out hcc
                have hwa : wrap64 (acc' : Int) = (acc' : Int) := IntWalk.wrap64_in _ ⟨by omega, by omega⟩
                go_wp2_with fail
                go_ret
                exact RefOut.err HE.out (HS2.out 12).2 ⟨rfl, _, (HS2.out 12).1⟩
              · go_wp2_with fail
                go_ret
                exact RefOut.err HE.out (HS2.out 12).2 ⟨rfl, _, (HS2.out 12).1⟩
            · have hE : rdNumber most xs = .ok (acc', zs) := by unfold rdNumber; rw [HOK.out]; simp [hmost]
              have HE := Lib.hid hE
              clear hE
              by_cases hcc : c.toNat = 0
              · obtain rfl : j = 0 := by omega
                obtain rfl := HZ.out hcc
                have hwa : wrap64 (acc' : Int) = (acc' : Int) := IntWalk.wrap64_in _ ⟨by omega, by omega⟩
                go_wp2_with fail
                go_ret
                exact RefOut.ok HE.out HS0.out.2 ⟨rfl, HS0.out.1⟩
              · go_wp2_with fail
                go_ret
                exact RefOut.ok HE.out HS0.out.2 ⟨rfl, HS0.out.1⟩
          · go_wp2_with fail
            go_roundw
            case rel => exact ⟨j + 1, acc', zs, _, by omega, by go_num, by go_num, rfl, fun q => by first | exact HX.out q | (have := HX.out q; simp at this ⊢; omega), HL.out, by rw [HN'.out, if_neg hc], HS0.out.1, HS0.out.2⟩
            case measure => simp [intOf]; omega
theorem ba_size (ys : List UInt8) : ByteArray.size ⟨ys.toArray⟩ = ys.length := by simp [ByteArray.size]
theorem ba_take (ys : List UInt8) (n : Nat) : (⟨ys.toArray⟩ : ByteArray).extract 0 n = ⟨(ys.take n).toArray⟩ := by
  apply ByteArray.ext
  simp [ByteArray.data_extract]
theorem ba_drop (ys : List UInt8) (n : Nat) : (⟨ys.toArray⟩ : ByteArray).extract n ys.length = ⟨(ys.drop n).toArray⟩ := by
  apply ByteArray.ext
  simp [ByteArray.data_extract, List.take_of_length_le]
set_option maxRecDepth 100000 in
set_option maxHeartbeats 1000000 in
set_option maxRecDepth 20000 in
theorem refTText_any (w : World) (t : Nat) (xs : List UInt8) (most : Int) (h : RefAt w t xs 0) (hl : xs.length ≤ 100000000000) :
    Calls Try.prog 100 #[.pointer (some ⟨t, 0, none⟩), .int .i64 most] w (RefOut t w (rdText most xs) (S []) fun bs => S bs) := by
  have H := Lib.hid h; clear h
  go_enter Try.func100, Try.ntmps100
  go_wp2_with fail
  refine (refTNumber_any _ t xs _ H.out).mono ?_
  intro e w1 h1
  rcases rdNum_cases xs with ⟨er, her⟩ | ⟨n, ys, hok⟩
  · have h2 : rdNumber 9223372036854775807 xs = .error er := by unfold rdNumber; rw [her]
    rw [h2] at h1
    have hE : rdText most xs = .error er := by unfold rdText; rw [her]
    obtain ⟨hm1, rfl, s, hs⟩ := h1
    have hne := rdNum_err her
    have g1 := hs.cell 1
    have HE := Lib.hid hE
    have HM := Lib.hid hm1
    have HR := Lib.hid hs
    clear hE hm1 hs her h2
    go_wp2_with fail
    go_ret
    exact RefOut.err HE.out HM.out ⟨rfl, _, HR.out⟩
  · have hsp := rdNum_spec hok
    have h2 : rdNumber 9223372036854775807 xs = .ok (n, ys) := by
      unfold rdNumber; rw [hok]
      simp only
      rw [if_neg (by omega)]
    rw [h2] at h1
    obtain ⟨hm1, rfl, hr⟩ := h1
    have hout : rdText most xs = if most < n then .error 12 else if ys.length < n then .error 10 else .ok (ys.take n, ys.drop n) := by unfold rdText; rw [hok]
    have HO := Lib.hid hout
    have g0 := hr.cell 0
    have g1 := hr.cell 1
    have f0 := hr.free 0
    have f1 := hr.free 1
    unfold S at g0
    have hsz := ba_size ys
    have HR := Lib.hid hr
    have HM := Lib.hid hm1
    have hn63 := hsp.1
    have hyl : ys.length ≤ 100000000000 := by omega
    have HSE : Hid (∀ e : Int, RefAt (w1.setCell ⟨t, 1, none⟩ (.int .i64 e)) t ys e ∧ MutO (rdFp t) w (w1.setCell ⟨t, 1, none⟩ (.int .i64 e))) := Lib.hid fun e => ⟨HR.out.set 1 _, MutO.set (fp := rdFp t) (p := ⟨t, 1, none⟩) HM.out rfl _⟩
    clear hout hok h2 hr hm1 hsp
    by_cases g2 : most < (n : Int)
    · go_wp2_with fail
      go_ret
      exact RefOut.err (by rw [HO.out, if_pos g2]) (HSE.out 12).2 ⟨rfl, _, (HSE.out 12).1⟩
    · by_cases g3 : ys.length < n
      · go_wp2_with fail
        go_ret
        exact RefOut.err (by rw [HO.out, if_neg (show ¬ most < (n : Int) by omega), if_pos g3]) (HSE.out 10).2 ⟨rfl, _, (HSE.out 10).1⟩
      · have htk := ba_take ys n
        have hdr := ba_drop ys n
        have HS0 : Hid (RefAt (w1.setCell ⟨t, 0, none⟩ (.string ⟨(ys.drop n).toArray⟩)) t (ys.drop n) 0 ∧ MutO (rdFp t) w (w1.setCell ⟨t, 0, none⟩ (.string ⟨(ys.drop n).toArray⟩))) := Lib.hid ⟨HR.out.set 0 (S (ys.drop n)), MutO.set (fp := rdFp t) (p := ⟨t, 0, none⟩) HM.out rfl _⟩
        go_wp2_with fail
        go_ret
        exact RefOut.ok (by rw [HO.out, if_neg (show ¬ most < (n : Int) by omega), if_neg (by omega)]) HS0.out.2 ⟨rfl, HS0.out.1⟩
end Go.Proofs.Ytpenjnccdachaaa
