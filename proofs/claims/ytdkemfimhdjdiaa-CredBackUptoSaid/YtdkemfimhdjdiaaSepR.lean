/- tape.caught: the deferred call of Read, in each mode. -/
import Derived.Test.YtdkemfimhdjdiaaSepT
import Derived.Defers
import Derived.Recover
import Derived.Lib.Builder
namespace Go.Proofs.Ytdkemfimhdjdiaa
set_option linter.unusedSimpArgs false
set_option linter.unusedVariables false
open Go Go.RowKit
theorem wpS_rec_none {P : Program} {Q : Exit → Act → List Frame → World → Prop} {d e ty ty' id : Nat} {pos pos' : String} {af af' : Array Edge} {a : Act} {cs : List Frame} {w : World}
    (hrec : recoverD cs = none) (hd : d < a.tmps.size) (h : Q .normal { tmps := (a.tmps.setIfInBounds d .nilIface).setIfInBounds e .nilIface, defers := a.defers } cs w) :
    (Code.region id #[{ dst := some d, op := .call { callee := .builtin .recover, args := #[], argTypes := #[] }, type := ty, pos := pos, after := af, guard := none }, { dst := some e, op := .assign (.tmp d), type := ty', pos := pos', after := af', guard := none }] false).wpS P Q a cs w := by
  apply wpS_region
  simp [wpOpsS, go_sem, hrec]
  simpa [hd] using h
theorem wpS_rec_some {P : Program} {Q : Exit → Act → List Frame → World → Prop} {d e ty ty' id : Nat} {pos pos' : String} {af af' : Array Edge} {a : Act} {cs cs' : List Frame} {w : World} {v : Value}
    (hrec : recoverD cs = some (v, cs')) (hd : d < a.tmps.size) (h : Q .normal { tmps := (a.tmps.setIfInBounds d v).setIfInBounds e v, defers := a.defers } cs' w) :
    (Code.region id #[{ dst := some d, op := .call { callee := .builtin .recover, args := #[], argTypes := #[] }, type := ty, pos := pos, after := af, guard := none }, { dst := some e, op := .assign (.tmp d), type := ty', pos := pos', after := af', guard := none }] false).wpS P Q a cs w := by
  apply wpS_region
  simp [wpOpsS, go_sem, hrec]
  simpa [hd] using h
theorem recoverD_back {c₀ : Frame} {cs : List Frame} (hu : c₀.mode = .returning) : recoverD (c₀ :: cs) = none := by simp [recoverD, hu]
theorem recoverD_panic {c₀ : Frame} {cs : List Frame} {v : Value} {older : List PanicEntry} (hu : c₀.mode = .panicking ({ v := v, recovered := false } :: older)) :
    recoverD (c₀ :: cs) = some (v, { c₀ with mode := .panicking ({ v := v, recovered := true } :: older) } :: cs) := by simp [recoverD, hu]

theorem caught_back (w : World) (r p : Nat) (h : RdAny w r) :
    CallsD Try.prog 74 #[.pointer (some ⟨r, 0, none⟩), .pointer (some ⟨p, 0, none⟩)] .returning w fun e u w' => e = .returned (.tuple #[]) ∧ u = .returning ∧ w.setCell ⟨r, 1, none⟩ (.bool true) = w' := by
  obtain ⟨a, n, c, hb⟩ := h
  have h1 := hb.cell 1
  have f1 := hb.free 1
  clear hb
  refine callsD_of_wpS Try.func74 rfl fun c₀ cs hu => ?_
  simp only [Try.ntmps74, List.size_toArray, List.length_cons, List.length_nil, Nat.reduceAdd, Nat.reduceSub, Array.replicate_succ,
     Array.replicate_zero, List.push_toArray, List.append_toArray, List.nil_append, List.cons_append]
  apply wpS_seq
  refine wpS_of_wp ?_
  go_wp2
  simp only [Exit.thenS]
  apply wpS_seq
  refine wpS_rec_none (recoverD_back hu) (by simp) ?_
  simp only [Exit.thenS]
  refine wpS_of_wp ?_
  simp only [List.setIfInBounds_toArray, List.set_cons_zero, List.set_cons_succ]
  go_wp2
  cases c₀
  simp_all [bodyPostS, results, Try.results74]
theorem rd_size : (Try.prog.info? 139).map (·.size) = some 2 := by kernel_rfl
theorem rd_info : ∃ j, Try.prog.info? 139 = some j ∧ j.size ≠ 0 := by
  have h := rd_size
  cases q : Try.prog.info? 139 with
  | none => rw [q] at h; cases h
  | some j => rw [q] at h; injection h with h; exact ⟨j, rfl, by have h2 : j.size = 2 := h; omega⟩
theorem neq_same (w : World) (a : Addr) : (binOp .neq 81 (.pointer (some a)) (.pointer (some a))).run Try.prog w = .ok (.bool false) w := let ⟨_, h, _⟩ := rd_info; Lib.run_neq_ptr_same w a Try.underlying81 h
theorem neq_other (w : World) {a b : Addr} {ca cb : Array Value} {ta tb : TypeId} (hne : a ≠ b) (ha : w.heap[a.block]? = some (.cells ca ta (0, 0))) (hb : w.heap[b.block]? = some (.cells cb tb (0, 0))) :
    (binOp .neq 81 (.pointer (some a)) (.pointer (some b))).run Try.prog w = .ok (.bool true) w := by
  obtain ⟨j, hj, hz⟩ := rd_info
  have h : ∀ d : Nat, (Op.equalIn (d + 1) 81 (.pointer (some a)) (.pointer (some b))).run Try.prog w = .ok false w := fun d => by
    simp [Op.equalIn, run_underlying Try.underlying81, sizeOf, typeInfo, hj, hz, run_sameAddr_other w hne ha hb]
  simp only [binOp]
  simp [Op.equal, Op.maxDepth, h 9999]
theorem ta_own (w : World) (v : Value) : (Instr.typeAssert (.iface 173 v) 20 173 true).run Try.prog w = .ok (.tuple #[v, .bool true]) w := by kernel_rfl
theorem ta_word (w : World) (v : Value) : (Instr.typeAssert (.iface 9 v) 20 173 true).run Try.prog w = .ok (.tuple #[.agg #[.pointer none, .int .i64 0], .bool false]) w := by kernel_rfl
set_option maxRecDepth 20000 in
theorem caught_own (w : World) (r p : Nat) (x e : Int) (older : List PanicEntry) (h : RdAny w r) (hp : Blk w p [.int .i64 x]) (hpr : p ≠ r) :
    CallsD Try.prog 74 #[.pointer (some ⟨r, 0, none⟩), .pointer (some ⟨p, 0, none⟩)] (.panicking ({ v := failV r e, recovered := false } :: older)) w fun en u w' =>
      en = .returned (.tuple #[]) ∧ u = .panicking ({ v := failV r e, recovered := true } :: older) ∧ ((w.setCell ⟨r, 1, none⟩ (.bool true)).setCell ⟨p, 0, none⟩ (.int .i64 e)).alloc (.cells #[.pointer (some ⟨r, 0, none⟩), .int .i64 e] 173) = w' := by
  obtain ⟨a, n, c, hb⟩ := h
  have h1 := hb.cell 1
  have f1 := hb.free 1
  have g1 := hp.cell 0
  have g2 := hp.free 0
  have hpl := hp.lt
  clear hb hp
  refine callsD_of_wpS Try.func74 rfl fun c₀ cs hu => ?_
  simp only [Try.ntmps74, List.size_toArray, List.length_cons, List.length_nil, Nat.reduceAdd, Nat.reduceSub, Array.replicate_succ,
     Array.replicate_zero, List.push_toArray, List.append_toArray, List.nil_append, List.cons_append]
  apply wpS_seq
  refine wpS_of_wp ?_
  go_wp2
  simp only [Exit.thenS]
  apply wpS_seq
  refine wpS_rec_some (recoverD_panic hu) (by simp) ?_
  simp only [Exit.thenS]
  refine wpS_of_wp ?_
  simp only [List.setIfInBounds_toArray, List.set_cons_zero, List.set_cons_succ]
  have hta := ta_own (w.setCell ⟨r, 1, none⟩ (.bool true)) (.agg #[.pointer (some ⟨r, 0, none⟩), .int .i64 e])
  have hv : failV r e = .iface 173 (.agg #[.pointer (some ⟨r, 0, none⟩), .int .i64 e]) := rfl
  have heq := neq_same (((w.setCell ⟨r, 1, none⟩ (.bool true)).alloc (.cells #[.pointer (some ⟨r, 0, none⟩), .int .i64 e] 173))) ⟨r, 0, none⟩
  rw [hv]
  clear hv

  go_wp2

  cases c₀
  simp_all [bodyPostS, results, Try.results74]
set_option maxRecDepth 20000 in
theorem caught_word (w : World) (r p : Nat) (x : Value) (older : List PanicEntry) (h : RdAny w r) :
    CallsD Try.prog 74 #[.pointer (some ⟨r, 0, none⟩), .pointer (some ⟨p, 0, none⟩)] (.panicking ({ v := .iface 9 x, recovered := false } :: older)) w fun en u w' =>
      en = .panicked [{ v := .iface 9 x, recovered := false }] ∧ u = .panicking ({ v := .iface 9 x, recovered := true } :: older) ∧ (w.setCell ⟨r, 1, none⟩ (.bool true)).alloc (.cells #[.pointer none, .int .i64 0] 173) = w' := by
  obtain ⟨a, n, c, hb⟩ := h
  have h1 := hb.cell 1
  have f1 := hb.free 1
  clear hb
  refine callsD_of_wpS Try.func74 rfl fun c₀ cs hu => ?_
  simp only [Try.ntmps74, List.size_toArray, List.length_cons, List.length_nil, Nat.reduceAdd, Nat.reduceSub, Array.replicate_succ,
     Array.replicate_zero, List.push_toArray, List.append_toArray, List.nil_append, List.cons_append]
  apply wpS_seq
  refine wpS_of_wp ?_
  go_wp2
  simp only [Exit.thenS]
  apply wpS_seq
  refine wpS_rec_some (recoverD_panic hu) (by simp) ?_
  simp only [Exit.thenS]
  refine wpS_of_wp ?_
  simp only [List.setIfInBounds_toArray, List.set_cons_zero, List.set_cons_succ]
  have hta := ta_word (w.setCell ⟨r, 1, none⟩ (.bool true)) x
  go_wp2
  cases c₀
  simp_all [bodyPostS, results, Try.results74]
set_option maxRecDepth 20000 in
theorem caught_other (w : World) (r p r' : Nat) (e : Int) (older : List PanicEntry) (h : RdAny w r) (hr' : ∃ vs, Blk w r' vs) (hne : r' ≠ r) :
    CallsD Try.prog 74 #[.pointer (some ⟨r, 0, none⟩), .pointer (some ⟨p, 0, none⟩)] (.panicking ({ v := failV r' e, recovered := false } :: older)) w fun en u w' =>
      en = .panicked [{ v := failV r' e, recovered := false }] ∧ u = .panicking ({ v := failV r' e, recovered := true } :: older) ∧ (w.setCell ⟨r, 1, none⟩ (.bool true)).alloc (.cells #[.pointer (some ⟨r', 0, none⟩), .int .i64 e] 173) = w' := by
  obtain ⟨a, n, c, hb⟩ := h
  have h1 := hb.cell 1
  have f1 := hb.free 1
  have heq : (binOp .neq 81 (.pointer (some ⟨r', 0, none⟩)) (.pointer (some ⟨r, 0, none⟩))).run Try.prog ((w.setCell ⟨r, 1, none⟩ (.bool true)).alloc (.cells #[.pointer (some ⟨r', 0, none⟩), .int .i64 e] 173)) = .ok (.bool true) ((w.setCell ⟨r, 1, none⟩ (.bool true)).alloc (.cells #[.pointer (some ⟨r', 0, none⟩), .int .i64 e] 173)) := by
    obtain ⟨vs, hv⟩ := hr'
    obtain ⟨t1, q1⟩ := (hb.set 1 (.bool true)).ext (Ext.new _ (.cells #[.pointer (some ⟨r', 0, none⟩), .int .i64 e] 173))
    obtain ⟨t2, q2⟩ := (hv.set_other (p := ⟨r, 1, none⟩) (fun q => hne q.symm) (.bool true)).ext (Ext.new _ (.cells #[.pointer (some ⟨r', 0, none⟩), .int .i64 e] 173))
    exact neq_other _ (by intro q; injection q with q; exact hne q) q2 q1
  clear hb
  refine callsD_of_wpS Try.func74 rfl fun c₀ cs hu => ?_
  simp only [Try.ntmps74, List.size_toArray, List.length_cons, List.length_nil, Nat.reduceAdd, Nat.reduceSub, Array.replicate_succ,
     Array.replicate_zero, List.push_toArray, List.append_toArray, List.nil_append, List.cons_append]
  apply wpS_seq
  refine wpS_of_wp ?_
  go_wp2
  simp only [Exit.thenS]
  apply wpS_seq
  refine wpS_rec_some (recoverD_panic hu) (by simp) ?_
  simp only [Exit.thenS]
  refine wpS_of_wp ?_
  simp only [List.setIfInBounds_toArray, List.set_cons_zero, List.set_cons_succ]
  have hta := ta_own (w.setCell ⟨r, 1, none⟩ (.bool true)) (.agg #[.pointer (some ⟨r', 0, none⟩), .int .i64 e])
  have hv : failV r' e = .iface 173 (.agg #[.pointer (some ⟨r', 0, none⟩), .int .i64 e]) := rfl
  rw [hv]
  clear hv
  go_wp2
  cases c₀
  simp_all [bodyPostS, results, Try.results74]
end Go.Proofs.Ytdkemfimhdjdiaa

namespace Go.Proofs.Ytdkemfimhdjdiaa
set_option linter.unusedSimpArgs false
set_option linter.unusedVariables false
open Go Go.RowKit
/-- What the function that Read was given came to, and what is then asked. -/
def RdFp (p r : Nat) : Nat → Prop := fun k => k = p ∨ k = r
def ReadK (p r : Nat) (R : Ending → World → Prop) (en : Ending) (w2 : World) : Prop :=
  Blk w2 p [.int .i64 0] ∧
  ((∃ z v ys, en = .returned v ∧ RdAt z w2 r ys ∧ ∀ W, RdOver W r → MutO (RdFp p r) w2 W → R (.returned (.int .i64 (if ys = [] then 0 else 13))) W) ∨
   (∃ e older, en = .panicked ({ v := failV r e, recovered := false } :: older) ∧ older.dropWhile (!·.goexit) = [] ∧ RdAny w2 r ∧ ∀ W, RdOver W r → MutO (RdFp p r) w2 W → R (.returned (.int .i64 e)) W) ∨
   (∃ x, en = .panicked [{ v := .iface 9 x, recovered := false }] ∧ RdAny w2 r ∧ ∀ W, RdOver W r → MutO (RdFp p r) w2 W → R (.panicked [{ v := .iface 9 x, recovered := false }, { v := .iface 9 x, recovered := true }]) W) ∨
   (∃ r' e, en = .panicked [{ v := failV r' e, recovered := false }] ∧ RdAny w2 r ∧ (∃ vs, Blk w2 r' vs) ∧ r' ≠ r ∧ ∀ W, RdOver W r → MutO (RdFp p r) w2 W → R (.panicked [{ v := failV r' e, recovered := false }, { v := failV r' e, recovered := true }]) W))
theorem invoke_caught (w : World) (a b : Value) : (invoke (.fn (.func 74) #[]) #[a, b]).run Try.prog w = .ok (.enter 74 #[a, b]) w := by kernel_rfl
theorem res_read (tmps : Array Value) (p : Nat) (x : Value) (w : World) (h4 : tmps[4]? = some (.pointer (some ⟨p, 0, none⟩))) (hb : Blk w p [x]) : (results Try.f37 tmps).run Try.prog w = .ok x w := by
  have h0 := hb.cell 0
  obtain ⟨h5, h6⟩ := Array.getElem?_eq_some_iff.1 h4
  simp [results, Try.results37, go_sem, h4, h0]
theorem leave_back (tmps : Array Value) (p r : Nat) (x : Int) (w : World) (R : Ending → World → Prop) (h4 : tmps[4]? = some (.pointer (some ⟨p, 0, none⟩))) (hpr : p ≠ r) (hany : RdAny w r) (hb : Blk w p [.int .i64 x])
    (hR : ∀ W, RdOver W r → MutO (RdFp p r) w W → R (.returned (.int .i64 x)) W) :
    Leaves Try.prog Try.f37 tmps R [{ target := .fn (.func 74) #[], args := #[.pointer (some ⟨r, 0, none⟩), .pointer (some ⟨p, 0, none⟩)] }] .returning w := by
  refine leaves_cons (by simp) (invoke_caught _ _ _) ?_
  refine (caught_back _ r p hany).mono ?_
  rintro e u' w'' ⟨rfl, rfl, rfl⟩
  obtain ⟨a, n, c, hr⟩ := hany
  exact ⟨_, res_read tmps p _ _ h4 (hb.set_other (fun q => hpr q.symm) _), hR _ ⟨a, n, c, hr.set 1 _⟩ (MutO.set (MutO.refl _ _) (Or.inr rfl) _)⟩
theorem leave_own (tmps : Array Value) (p r : Nat) (x e : Int) (older : List PanicEntry) (w : World) (R : Ending → World → Prop) (h4 : tmps[4]? = some (.pointer (some ⟨p, 0, none⟩))) (hpr : p ≠ r) (hany : RdAny w r) (hb : Blk w p [.int .i64 x]) (hold : older.dropWhile (!·.goexit) = [])
    (hR : ∀ W, RdOver W r → MutO (RdFp p r) w W → R (.returned (.int .i64 e)) W) :
    Leaves Try.prog Try.f37 tmps R [{ target := .fn (.func 74) #[], args := #[.pointer (some ⟨r, 0, none⟩), .pointer (some ⟨p, 0, none⟩)] }] (.panicking ({ v := failV r e, recovered := false } :: older)) w := by
  refine leaves_cons (by simp) (invoke_caught _ _ _) ?_
  refine (caught_own _ r p x e older hany hb hpr).mono ?_
  rintro en u' w'' ⟨rfl, rfl, rfl⟩
  obtain ⟨a, n, c, hr⟩ := hany
  have h1 : settle (.panicking ({ v := failV r e, recovered := true } :: older)) = .returning := by simp only [settle, hold]
  show Leaves _ _ _ _ _ (settle _) _
  rw [h1]
  refine ⟨_, res_read tmps p _ _ h4 (((hb.set_other (p := ⟨r, 1, none⟩) (fun q => hpr q.symm) _).set 0 _).ext (Ext.new _ _)), hR _ ⟨a, n, c, (((hr.set 1 _).set_other (p := ⟨p, 0, none⟩) hpr _).ext (Ext.new _ _))⟩ (MutO.alloc (MutO.set (MutO.set (MutO.refl _ _) (Or.inr rfl) _) (Or.inl rfl) _) _)⟩
theorem leave_word (tmps : Array Value) (p r : Nat) (x : Value) (w : World) (R : Ending → World → Prop) (hany : RdAny w r)
    (hR : ∀ W, RdOver W r → MutO (RdFp p r) w W → R (.panicked [{ v := .iface 9 x, recovered := false }, { v := .iface 9 x, recovered := true }]) W) :
    Leaves Try.prog Try.f37 tmps R [{ target := .fn (.func 74) #[], args := #[.pointer (some ⟨r, 0, none⟩), .pointer (some ⟨p, 0, none⟩)] }] (.panicking [{ v := .iface 9 x, recovered := false }]) w := by
  refine leaves_cons (by simp) (invoke_caught _ _ _) ?_
  refine (caught_word _ r p x [] hany).mono ?_
  rintro en u' w'' ⟨rfl, rfl, rfl⟩
  obtain ⟨a, n, c, hr⟩ := hany
  exact hR _ ⟨a, n, c, (hr.set 1 _).ext (Ext.new _ _)⟩ (MutO.alloc (MutO.set (MutO.refl _ _) (Or.inr rfl) _) _)
theorem leave_other (tmps : Array Value) (p r r' : Nat) (e : Int) (w : World) (R : Ending → World → Prop) (hany : RdAny w r) (hr' : ∃ vs, Blk w r' vs) (hne : r' ≠ r)
    (hR : ∀ W, RdOver W r → MutO (RdFp p r) w W → R (.panicked [{ v := failV r' e, recovered := false }, { v := failV r' e, recovered := true }]) W) :
    Leaves Try.prog Try.f37 tmps R [{ target := .fn (.func 74) #[], args := #[.pointer (some ⟨r, 0, none⟩), .pointer (some ⟨p, 0, none⟩)] }] (.panicking [{ v := failV r' e, recovered := false }]) w := by
  refine leaves_cons (by simp) (invoke_caught _ _ _) ?_
  refine (caught_other _ r p r' e [] hany hr' hne).mono ?_
  rintro en u' w'' ⟨rfl, rfl, rfl⟩
  obtain ⟨a, n, c, hr⟩ := hany
  exact hR _ ⟨a, n, c, (hr.set 1 _).ext (Ext.new _ _)⟩ (MutO.alloc (MutO.set (MutO.refl _ _) (Or.inr rfl) _) _)
set_option maxRecDepth 20000 in
set_option maxHeartbeats 1000000 in
theorem read_any (w : World) (a : Option Addr) (n c : Nat) (xs : List UInt8) (F : FuncId) (cap : Array Value) (R : Ending → World → Prop) (h : By w a n xs) (hc : n ≤ c ∧ c ≤ maxLen) (hn : n ≤ 100000000000)
    (hi : ∀ w r, (callFunc F (#[.pointer (some ⟨r, 0, none⟩)] ++ cap)).run Try.prog w = .ok (.enter F (#[.pointer (some ⟨r, 0, none⟩)] ++ cap)) w)
    (K : ∀ w1 p r, Ext w w1 → w.heap.size ≤ p → p < r → w.heap.size < r → Blk w1 p [.int .i64 0] → RdAt (fun k => p < k ∧ k < w1.heap.size) w1 r xs → Calls Try.prog F (#[.pointer (some ⟨r, 0, none⟩)] ++ cap) w1 (ReadK p r R)) :
    Calls Try.prog 37 #[.slice a n c, .func (.func F) #[] cap] w R := by
  have HY := Lib.hid h; clear h
  have HC := Lib.hid hc; clear hc
  have HK := Lib.hid K; clear K
  have hmf : ∀ (fn : Fn) (first cap : Array Value) (w : World), (Instr.makeFunc fn first cap).run Try.prog w = .ok (.func fn first cap) w := fun _ _ _ _ => rfl
  have hnf : ∀ w, (binOp .neq 83 (.func (.func F) #[] cap) .nilFunc).run Try.prog w = .ok (.bool true) w := fun _ => by kernel_rfl
  go_enter_defers Try.func37, Try.ntmps37
  go_wp2_with fail
  refine (clone_any a n c xs _ (HY.out.ext (Ext.new _ _)) HC.out (by omega)).mono ?_
  rintro e w1 ⟨v, rfl, hown, hx1⟩
  have HO := Lib.hid hown
  have HX := Lib.hid hx1
  obtain ⟨va, vc, rfl⟩ := own_slice hown
  clear hown hx1
  go_wp2_with fail
  have hsz : w.heap.size + 1 ≤ w1.heap.size := by have h0 := HX.out.le; have h1 : (w.heap.push (Obj.cells #[Value.int IntKind.i64 0] 79)).size ≤ w1.heap.size := h0; rwa [Array.size_push] at h1
  have hrd : RdAt (fun k => w.heap.size < k ∧ k < (w1.alloc (.cells #[.slice va n vc, .bool false] 139)).heap.size) (w1.alloc (.cells #[.slice va n vc, .bool false] 139)) w1.heap.size xs := by
    have hby := own_by HO.out
    obtain ⟨a3, n3, c3, e3, h31, h32, h33⟩ := hby
    injection e3 with e4 e5 e6
    subst e4 e5 e6
    refine ⟨va, n, vc, Blk.lit _ _ _ _ rfl, h33.ext (Ext.new _ _), ⟨h31, h32⟩, fun ad had => ?_⟩
    have := HO.out.lt ad.block (by rw [had]; rfl)
    have h0 : (w.alloc (Obj.cells #[Value.int IntKind.i64 0] 79)).heap.size = w.heap.size + 1 := Array.size_push _
    have h1 : (w1.alloc (.cells #[.slice va n vc, .bool false] 139)).heap.size = w1.heap.size + 1 := Array.size_push _
    omega
  have hblk : Blk (w1.alloc (.cells #[.slice va n vc, .bool false] 139)) w.heap.size [.int .i64 0] := ((Blk.lit _ _ _ _ rfl).ext HX.out).ext (Ext.new _ _)
  have hext : Ext w (w1.alloc (.cells #[.slice va n vc, .bool false] 139)) := ((Ext.new w _).trans HX.out).trans (Ext.new _ _)
  have hpr : w.heap.size ≠ w1.heap.size := by omega
  refine (HK.out _ w.heap.size w1.heap.size hext (Nat.le_refl _) (by omega) (by omega) hblk hrd).mono ?_
  generalize w.heap.size = p at *
  generalize w1.heap.size = r at *
  clear HK hrd hblk hext HX HO HY HC hsz hn
  intro en w2 hen
  obtain ⟨hbp, hen⟩ := hen
  rcases hen with ⟨z, v, ys, rfl, hrd, hR⟩ | ⟨e, older, rfl, hold, hany, hR⟩ | ⟨x, rfl, hany, hR⟩ | ⟨r', e, rfl, hany, hr', hne, hR⟩
  · obtain ⟨a4, n4, c4, hb4, hy4, _⟩ := hrd
    have h0 := hb4.cell 0
    have g0 := hbp.cell 0
    have g1 := hbp.free 0
    have hlen := hy4.1
    have HB := Lib.hid hb4
    have HP := Lib.hid hbp
    have HR := Lib.hid hR
    clear hb4 hbp hR hy4
    have hput : ∀ y, Blk (w2.setCell ⟨p, 0, none⟩ (.int .i64 y)) p [.int .i64 y] ∧ RdAny (w2.setCell ⟨p, 0, none⟩ (.int .i64 y)) r ∧ MutO (RdFp p r) w2 (w2.setCell ⟨p, 0, none⟩ (.int .i64 y)) := fun y =>
      ⟨HP.out.set 0 _, ⟨a4, n4, c4, HB.out.set_other (p := ⟨p, 0, none⟩) hpr _⟩, MutO.set (MutO.refl _ _) (Or.inl rfl) _⟩
    have HU := Lib.hid hput
    clear hput
    by_cases hy : ys = []
    · subst hy
      obtain rfl : n4 = 0 := hlen
      go_wp2_with fail
      exact leave_back _ p r 0 _ R (by simp) hpr (HU.out 0).2.1 (HU.out 0).1 fun W hW hm => by simpa using HR.out W hW ((HU.out 0).2.2.trans hm fun _ _ q => q)
    · have hpos : 0 < n4 := by
        rcases Nat.eq_zero_or_pos n4 with q | q
        · exact absurd (List.length_eq_zero_iff.1 (hlen ▸ q)) hy
        · exact q
      clear hlen
      go_wp2_with fail
      exact leave_back _ p r 13 _ R (by simp) hpr (HU.out 13).2.1 (HU.out 13).1 fun W hW hm => by simpa [hy] using HR.out W hW ((HU.out 13).2.2.trans hm fun _ _ q => q)
  · exact leave_own _ p r 0 e older _ R (by simp) hpr hany hbp hold hR
  · exact leave_word _ p r x _ R hany hR
  · exact leave_other _ p r r' e _ R hany hr' hne hR
set_option maxRecDepth 20000 in
set_option maxHeartbeats 1000000 in
theorem read_nil (w : World) (a : Option Addr) (n c : Nat) (xs : List UInt8) (R : Ending → World → Prop) (h : By w a n xs) (hc : n ≤ c ∧ c ≤ maxLen) (hn : n ≤ 100000000000) (hR : ∀ W, Ext w W → R (.returned (.int .i64 (if xs = [] then 0 else 13))) W) :
    Calls Try.prog 37 #[.slice a n c, .nilFunc] w R := by
  have HR := Lib.hid hR; clear hR
  have HY := Lib.hid h; clear h
  have HC := Lib.hid hc; clear hc
  have hmf : ∀ (fn : Fn) (first cap : Array Value) (w : World), (Instr.makeFunc fn first cap).run Try.prog w = .ok (.func fn first cap) w := fun _ _ _ _ => rfl
  have hnf : ∀ w, (binOp .neq 83 .nilFunc .nilFunc).run Try.prog w = .ok (.bool false) w := fun _ => by kernel_rfl
  go_enter_defers Try.func37, Try.ntmps37
  go_wp2_with fail
  refine (clone_any a n c xs _ (HY.out.ext (Ext.new _ _)) HC.out (by omega)).mono ?_
  rintro e w1 ⟨v, rfl, hown, hx1⟩
  have HO := Lib.hid hown
  have HX := Lib.hid hx1
  obtain ⟨va, vc, rfl⟩ := own_slice hown
  have hlen : n = xs.length := HY.out.1
  clear hown hx1
  have hsz : w.heap.size + 1 ≤ w1.heap.size := by have h0 := HX.out.le; have h1 : (w.heap.push (Obj.cells #[Value.int IntKind.i64 0] 79)).size ≤ w1.heap.size := h0; rwa [Array.size_push] at h1
  have hpr : w.heap.size ≠ w1.heap.size := by omega
  have hlt : w.heap.size < w1.heap.size := by omega
  have hblk0 : Blk w1 w.heap.size [.int .i64 0] := (Blk.lit _ _ _ _ rfl).ext HX.out
  have g1 := hblk0.free 0
  have g0 := hblk0.cell 0
  have hput : ∀ W y, W = (w1.setCell ⟨w.heap.size, 0, none⟩ (.int .i64 y)).alloc (.cells #[.slice va n vc, .bool false] 139) → Blk W w.heap.size [.int .i64 y] ∧ RdAny W w1.heap.size ∧ Ext w W := fun W y e => by
    subst e
    exact ⟨(hblk0.set 0 _).ext (Ext.new _ _), ⟨va, n, vc, Blk.lit _ _ _ _ (by simp [World.setCell])⟩, (((Ext.new w _).trans HX.out).setCell (Nat.le_refl _) _).alloc _⟩
  have HU := Lib.hid hput
  clear hput hblk0
  by_cases hy : xs = []
  · subst hy
    obtain rfl : n = 0 := hlen
    go_wp2_with fail
    exact leave_back _ w.heap.size w1.heap.size 0 _ R rfl hpr (HU.out _ 0 rfl).2.1 (HU.out _ 0 rfl).1 fun W hW hm => by simpa using HR.out W (MutO.ext (HU.out _ 0 rfl).2.2 hm (fun k hk => by rcases hk with rfl | rfl <;> omega))
  · have hpos : 0 < n := by
      rcases Nat.eq_zero_or_pos n with q | q
      · exact absurd (List.length_eq_zero_iff.1 (hlen ▸ q)) hy
      · exact q
    clear hlen
    go_wp2_with fail
    exact leave_back _ w.heap.size w1.heap.size 13 _ R rfl hpr (HU.out _ 13 rfl).2.1 (HU.out _ 13 rfl).1 fun W hW hm => by simpa [hy] using HR.out W (MutO.ext (HU.out _ 13 rfl).2.2 hm (fun k hk => by rcases hk with rfl | rfl <;> omega))
end Go.Proofs.Ytdkemfimhdjdiaa

namespace Go.Proofs.Ytdkemfimhdjdiaa
set_option linter.unusedSimpArgs false
set_option linter.unusedVariables false
open Go Go.RowKit
section
variable {fr al : Nat → Prop} {w0 w w' : World} {L : List It}
theorem Own.dropLast {J : It} (st : Own fr al w0 (L ++ [J]) w) : Own fr al w0 L w := by
  obtain ⟨hm, e, s, F⟩ := st
  have hl : ∀ {j}, j < L.length → j < (L ++ [J]).length := fun h => by simp; omega
  exact ⟨hm, e, s, fun j I hj => F.holds j I (by rw [List.getElem?_append_left (get_lt hj)]; exact hj), fun j b hj => F.lo j b (hl hj), fun j b hj => F.fr j b (hl hj), fun j b hj => F.al j b (hl hj),
    fun j k b hj hk => F.ee j k b (hl hj) (hl hk), fun j k b hj hk => F.es j k b (hl hj) (hl hk)⟩
/-- The frame rule for all items but the last one. -/
theorem Own.pre {J : It} (st : Own fr al w0 (L ++ [J]) w) : ∃ fr' al' : Nat → Prop, Own fr' al' w L w ∧ ∀ M w', Own fr' al' w M w' → Own fr al w0 (M ++ [J]) w' := by
  obtain ⟨hm, e, s, F⟩ := st
  have hl : ∀ {j}, j < L.length → j < (L ++ [J]).length := fun h => by simp; omega
  have hn : L.length < (L ++ [J]).length := by simp
  refine ⟨fun b => ∃ i, i < L.length ∧ e i b, fun b => ∃ i, i < L.length ∧ (e i b ∨ s i b), ⟨MutO.refl _ _, e, s, fun j I hj => F.holds j I (by rw [List.getElem?_append_left (get_lt hj)]; exact hj), fun j b hj => F.lo j b (hl hj), fun j b hj hb _ => ⟨j, hj, hb⟩, fun j b hj hb _ => ⟨j, hj, hb⟩,
    fun j k b hj hk => F.ee j k b (hl hj) (hl hk), fun j k b hj hk => F.es j k b (hl hj) (hl hk)⟩, ?_⟩
  rintro M w' ⟨hm', eM, sM, G⟩
  have hle := hm.size
  have z : ∀ {j}, j < (M ++ [J]).length → j < M.length ∨ j = M.length := fun {j} h => by simp at h; omega
  have hfar : ∀ {b}, (e L.length b ∨ s L.length b) → ¬ ∃ i, i < L.length ∧ e i b := fun {b} hb ⟨i, hi, he⟩ => by
    rcases hb with hb | hb
    · exact F.ee i L.length b (hl hi) hn (by omega) he hb
    · exact F.es i L.length b (hl hi) hn he hb
  have hfar' : ∀ {b}, e L.length b → ¬ ∃ i, i < L.length ∧ (e i b ∨ s i b) := fun {b} hb ⟨i, hi, he⟩ => by
    rcases he with he | he
    · exact F.ee i L.length b (hl hi) hn (by omega) he hb
    · exact F.es L.length i b hn (hl hi) hb he
  refine ⟨hm.trans hm' fun b hb ⟨i, hi, he⟩ => F.fr i b (hl hi) he hb, fun j => if j < M.length then eM j else e L.length, fun j => if j < M.length then sM j else s L.length, fun j I hj => ?_, fun j b hj hb => ?_, fun j b hj hb hb0 => ?_, fun j b hj hb hb0 => ?_, fun j k b hj hk hjk hb hb' => ?_, fun j k b hj hk hb hb' => ?_⟩
  · rcases z (get_lt hj) with h | h
    · rw [List.getElem?_append_left h] at hj
      simp only [h, if_true]
      exact G.holds j I hj
    · subst h
      simp at hj
      subst hj
      simp only [Nat.lt_irrefl, if_false]
      exact J.st (F.holds L.length J (by simp)) fun b hb => hm'.block b (F.lo _ b hn hb) (hfar hb)
  · rcases z hj with h | h
    · simp only [h, if_true] at hb
      exact G.lo j b h hb
    · subst h
      simp only [Nat.lt_irrefl, if_false] at hb
      exact Nat.lt_of_lt_of_le (F.lo _ b hn hb) hm'.size
  · rcases z hj with h | h
    · simp only [h, if_true] at hb
      obtain ⟨i, hi, he⟩ := G.fr j b h hb (by omega)
      exact F.fr i b (hl hi) he hb0
    · subst h
      simp only [Nat.lt_irrefl, if_false] at hb
      exact F.fr _ b hn hb hb0
  · rcases z hj with h | h
    · simp only [h, if_true] at hb
      obtain ⟨i, hi, he⟩ := G.al j b h hb (by omega)
      exact F.al i b (hl hi) he hb0
    · subst h
      simp only [Nat.lt_irrefl, if_false] at hb
      exact F.al _ b hn hb hb0
  · rcases z hj with h | h <;> rcases z hk with h' | h'
    · simp only [h, h', if_true] at hb hb'
      exact G.ee j k b h h' hjk hb hb'
    · subst h'
      simp only [h, if_true, Nat.lt_irrefl, if_false] at hb hb'
      exact hfar (.inl hb') (G.fr j b h hb (F.lo _ b hn (.inl hb')))
    · subst h
      simp only [h', if_true, Nat.lt_irrefl, if_false] at hb hb'
      exact hfar (.inl hb) (G.fr k b h' hb' (F.lo _ b hn (.inl hb)))
    · omega
  · rcases z hj with h | h <;> rcases z hk with h' | h'
    · simp only [h, h', if_true] at hb hb'
      exact G.es j k b h h' hb hb'
    · subst h'
      simp only [h, if_true, Nat.lt_irrefl, if_false] at hb hb'
      exact hfar (.inr hb') (G.fr j b h hb (F.lo _ b hn (.inr hb')))
    · subst h
      simp only [h', if_true, Nat.lt_irrefl, if_false] at hb hb'
      exact hfar' hb (G.al k b h' (.inr hb') (F.lo _ b hn (.inl hb)))
    · subst h
      simp only [h', Nat.lt_irrefl, if_false] at hb hb'
      exact F.es _ _ b hn hn hb hb'
end
/-- Two items in one. -/
def sepI (I J : It) : It where
  P e s w := ∃ e1 e2 s1 s2 : Nat → Prop, I.P e1 s1 w ∧ J.P e2 s2 w ∧ (∀ b, e1 b → e b) ∧ (∀ b, e2 b → e b) ∧ (∀ b, s1 b → s b) ∧ (∀ b, s2 b → s b) ∧ ∀ b, e1 b → ¬ e2 b
  st := by
    rintro e s w w' ⟨e1, e2, s1, s2, h1, h2, h3, h4, h5, h6, h7⟩ hag
    exact ⟨e1, e2, s1, s2, I.st h1 fun b hb => hag b (hb.imp (h3 b) (h5 b)), J.st h2 fun b hb => hag b (hb.imp (h4 b) (h6 b)), h3, h4, h5, h6, h7⟩
  facts w := I.facts w ∧ J.facts w
  ok := fun ⟨_, _, _, _, h1, h2, _⟩ => ⟨I.ok h1, J.ok h2⟩
def exI {α : Type} (F : α → It) : It where
  P e s w := ∃ x, (F x).P e s w
  st := fun ⟨x, h⟩ hag => ⟨x, (F x).st h hag⟩
  facts _ := True
  ok := fun _ => trivial
section
variable {fr al : Nat → Prop} {w0 w w' : World} {L : List It}
theorem Own.unex (st : Own fr al w0 L w) {i : Nat} {α : Type} {F : α → It} (hi : L[i]? = some (exI F)) : ∃ x, Own fr al w0 (L.set i (F x)) w := by
  obtain ⟨hm, e, s, G⟩ := st
  obtain ⟨x, hx⟩ := G.holds i _ hi
  exact ⟨x, G.upd hm hi fun _ h2 h3 => ⟨e i, s i, hx, fun b hb => ⟨h2 b (.inl hb), .inl hb⟩, fun b hb => ⟨h2 b (.inr hb), .inr (.inl hb)⟩, h3, MutO.refl _ _⟩⟩
theorem Own.ex (st : Own fr al w0 L w) {i : Nat} {α : Type} {F : α → It} (x : α) (hi : L[i]? = some (F x)) : Own fr al w0 (L.set i (exI F)) w :=
  st.conv hi fun e s h h3 => ⟨e, s, ⟨x, h⟩, fun _ q => q, fun _ q => .inr q, h3⟩
theorem Own.split (st : Own fr al w0 L w) {i : Nat} {I J : It} (hi : L[i]? = some (sepI I J)) : Own fr al w0 (L.set i I ++ [J]) w := by
  obtain ⟨hm, e, s, G⟩ := st
  obtain ⟨e1, e2, s1, s2, h1, h2, h3, h4, h5, h6, h7⟩ := G.holds i _ hi
  have hil := get_lt hi
  have z : ∀ {j}, j < (L.set i I ++ [J]).length → j < L.length ∨ j = L.length := fun {j} h => by simp at h; omega
  have hle : ∀ j b, (if j = L.length then e2 b else if j = i then e1 b else e j b) → e (if j = L.length then i else j) b := fun j b hb => by
    by_cases h : j = L.length
    · simp only [h, if_true] at hb ⊢; exact h4 b hb
    · simp only [h, if_false] at hb ⊢
      by_cases h' : j = i
      · simp only [h', if_true] at hb ⊢; exact h3 b hb
      · simp only [h', if_false] at hb; exact hb
  have hls : ∀ j b, (if j = L.length then s2 b else if j = i then s1 b else s j b) → s (if j = L.length then i else j) b := fun j b hb => by
    by_cases h : j = L.length
    · simp only [h, if_true] at hb ⊢; exact h6 b hb
    · simp only [h, if_false] at hb ⊢
      by_cases h' : j = i
      · simp only [h', if_true] at hb ⊢; exact h5 b hb
      · simp only [h', if_false] at hb; exact hb
  have hlt : ∀ {j}, j < (L.set i I ++ [J]).length → (if j = L.length then i else j) < L.length := fun {j} hj => by
    rcases z hj with h | h
    · rw [if_neg (by omega)]; exact h
    · rw [if_pos h]; exact hil
  refine ⟨hm, fun j b => if j = L.length then e2 b else if j = i then e1 b else e j b, fun j b => if j = L.length then s2 b else if j = i then s1 b else s j b, fun j K hj => ?_, fun j b hj hb => G.lo _ b (hlt hj) (hb.imp (hle j b) (hls j b)), fun j b hj hb => G.fr _ b (hlt hj) (hle j b hb),
    fun j b hj hb => G.al _ b (hlt hj) (hb.imp (hle j b) (hls j b)), fun j k b hj hk hjk hb hb' => ?_, fun j k b hj hk hb hb' => G.es _ _ b (hlt hj) (hlt hk) (hle j b hb) (hls k b hb')⟩
  · rcases z (get_lt hj) with h | h
    · rw [List.getElem?_append_left (by simpa using h), List.getElem?_set] at hj
      have hn : j ≠ L.length := by omega
      by_cases hji : j = i
      · subst hji
        simp [hil] at hj
        subst hj
        simpa [hn] using h1
      · rw [if_neg (Ne.symm hji)] at hj
        simpa [hn, hji] using G.holds j K hj
    · subst h
      simp at hj
      subst hj
      simpa using h2
  · rcases z hj with h | h <;> rcases z hk with h' | h'
    · have hn : j ≠ L.length := by omega
      have hn' : k ≠ L.length := by omega
      have q1 := hle j b hb
      have q2 := hle k b hb'
      simp only [hn, hn', if_false] at q1 q2
      exact G.ee j k b h h' hjk q1 q2
    · subst h'
      have hn : j ≠ L.length := by omega
      by_cases hji : j = i
      · subst hji
        simp only [hn, if_false, if_true] at hb hb'
        exact h7 b hb hb'
      · have q1 := hle j b hb
        have q2 := hle L.length b hb'
        simp only [hn, if_false, if_true] at q1 q2
        exact G.ee j i b h hil hji q1 q2
    · subst h
      have hn : k ≠ L.length := by omega
      by_cases hji : k = i
      · subst hji
        simp only [hn, if_false, if_true] at hb hb'
        exact h7 b hb' hb
      · have q1 := hle L.length b hb
        have q2 := hle k b hb'
        simp only [hn, if_false, if_true] at q1 q2
        exact G.ee i k b hil h' (Ne.symm hji) q1 q2
    · omega
end

/-- How the function that Read was given ends, and what is then asked. -/
def RdB (fr al : Nat → Prop) (w1 : World) (r : Nat) (R : Int → List It → Prop) (en : Ending) (w2 : World) : Prop :=
  (∃ v ys M, en = .returned v ∧ R (if ys = [] then 0 else 13) M ∧ Own fr al w1 (rdI r ys :: M) w2) ∨
  (∃ e older M, en = .panicked ({ v := failV r e, recovered := false } :: older) ∧ older.dropWhile (!·.goexit) = [] ∧ R e M ∧ Own fr al w1 (rdAnyI r :: M) w2)
theorem over_back {fr al : Nat → Prop} {w0 w2 W : World} {p r : Nat} {x : Value} {I : It} {M : List It} (hI : ∀ e s, I.P e s w2 → e r) (st : Own fr al w0 (I :: M ++ [blkI p [x]]) w2) (hW : RdOver W r) (hm : MutO (RdFp p r) w2 W) : Own fr al w0 (rdOverI r :: M) W := by
  have hlen : (I :: M ++ [blkI p [x]]).length = M.length + 2 := by simp
  obtain ⟨fr', al', st', back⟩ := st.sub [0, M.length + 1] (by simp) (by rw [hlen]; simp)
  have hp : pick (I :: M ++ [blkI p [x]]) [0, M.length + 1] = [I, blkI p [x]] := by simp [pick]
  rw [hp] at st'
  obtain ⟨hm0, e, s, F⟩ := st'
  have hr := hI _ _ (F.holds 0 _ rfl)
  have hpp := (F.holds 1 _ rfl).1
  have hrl := F.lo 0 r (by simp) (.inl hr)
  have hpl := F.lo 1 p (by simp) (.inl hpp)
  have hfr : ∀ k, RdFp p r k → fr' k := fun k hk => by
    rcases hk with rfl | rfl
    · exact F.fr 1 _ (by simp) hpp hpl
    · exact F.fr 0 _ (by simp) hr hrl
  have hal : al' r := F.al 0 _ (by simp) (.inl hr) hrl
  have h1 : Own fr' al' w2 [rdOverI r, nullI] W := Own.mk2 (hm.mono hfr) (e := fun k => k = r) (s := fun _ => False) (f := fun _ => False) (t := fun _ => False) ⟨rfl, hW⟩ trivial
    (fun b hb => by rcases hb with (rfl | q) | q | q; exact Nat.lt_of_lt_of_le hrl hm.size; exact q.elim; exact q.elim; exact q.elim)
    (fun b hb _ => by rcases hb with rfl | q; exact hfr _ (.inr rfl); exact q.elim)
    (fun b hb _ => by rcases hb with (rfl | q) | q | q; exact hal; exact q.elim; exact q.elim; exact q.elim)
    (fun _ _ => ⟨fun q => q, fun q => q, fun q => q⟩) (fun _ q => q.elim)
  have h2 := back _ _ (by simp) h1
  have h3 : putIt (I :: M ++ [blkI p [x]]) [rdOverI r, nullI] 0 [0, M.length + 1] = (rdOverI r :: M) ++ [nullI] := by
    simp [putIt, List.set_append]
  rw [h3] at h2
  exact h2.dropLast
theorem read_c {fr al : Nat → Prop} {w0 w : World} {L : List It} (st : Own fr al w0 L w) {a : Option Addr} {n c : Nat} {xs : List UInt8} (h : By w a n xs) (hc : n ≤ c ∧ c ≤ maxLen) (hn : n ≤ 100000000000) (F : FuncId) (cap : Array Value)
    (hi : ∀ w r, (callFunc F (#[.pointer (some ⟨r, 0, none⟩)] ++ cap)).run Try.prog w = .ok (.enter F (#[.pointer (some ⟨r, 0, none⟩)] ++ cap)) w) (R : Nat → Int → List It → Prop)
    (K : ∀ fr' al' w1 r, w.heap.size ≤ r → Own fr' al' w1 (L ++ [rdI r xs]) w1 → Calls Try.prog F (#[.pointer (some ⟨r, 0, none⟩)] ++ cap) w1 (RdB fr' al' w1 r (R r))) :
    Calls Try.prog 37 #[.slice a n c, .func (.func F) #[] cap] w fun en w' => ∃ r e M, en = .returned (.int .i64 e) ∧ R r e M ∧ Own fr al w0 (rdOverI r :: M) w' := by
  refine read_any w a n c xs F cap _ h hc hn hi fun w1 p r hx hp hpr hwr hb hrd => ?_
  have hrd' := hrd
  obtain ⟨a1, n1, c1, hb1, _⟩ := hrd'
  have hrl := hb1.lt
  have hpl := hb.lt
  have st1 : Own fr al w0 (L ++ [sepI (rdI r xs) (blkI p [.int .i64 0])]) w1 := by
    refine st.new hx (e' := fun k => k = p ∨ k = r) (s' := fun k => p < k ∧ k < w1.heap.size ∧ k ≠ r) ⟨fun k => k = r, fun k => k = p, fun k => p < k ∧ k < w1.heap.size ∧ k ≠ r, fun _ => False, ⟨rfl, ?_⟩, ⟨rfl, hb⟩, fun _ q => .inr q, fun _ q => .inl q, fun _ q => q, fun _ q => q.elim, ?_⟩ ?_ ?_ ?_
    · obtain ⟨a, n, c, h1, h2, h3, h4⟩ := hrd
      exact ⟨a, n, c, h1, h2, h3, fun ad had => ⟨(h4 ad had).1, (h4 ad had).2.1, (h4 ad had).2.2, (h4 ad had).1⟩⟩
    · intro b e1 e2; omega
    · intro b hb; omega
    · intro b hb; omega
    · intro b hb hb'; omega
  have st2 := st1.split (i := L.length) (I := rdI r xs) (J := blkI p [.int .i64 0]) (by simp)
  have e1 : (L ++ [sepI (rdI r xs) (blkI p [.int .i64 0])]).set L.length (rdI r xs) = L ++ [rdI r xs] := by simp [List.set_append]
  rw [e1] at st2
  obtain ⟨fr', al', st3, back⟩ := st2.pre
  refine (K fr' al' w1 r (by omega) st3).mono fun en w2 hen => ?_
  rcases hen with ⟨v, ys, M, h1, h2, h3⟩ | ⟨e, older, M, h1, h2, h3, h4⟩
  · have st4 := back _ _ h3
    obtain ⟨e, s, ⟨_, h5⟩, _⟩ := st4.get (i := 0) (I := rdI r ys) rfl
    refine ⟨st4.blk (i := M.length + 1) (by simp), .inl ⟨s, v, ys, h1, h5, fun W hW hm => ⟨r, _, M, rfl, h2, over_back (I := rdI r ys) (fun _ _ q => q.1) st4 hW hm⟩⟩⟩
  · have st4 := back _ _ h4
    obtain ⟨_, s, ⟨_, h5⟩, _⟩ := st4.get (i := 0) (I := rdAnyI r) rfl
    refine ⟨st4.blk (i := M.length + 1) (by simp), .inr (.inl ⟨e, older, h1, h2, h5, fun W hW hm => ⟨r, _, M, rfl, h3, over_back (I := rdAnyI r) (fun _ _ q => q.1) st4 hW hm⟩⟩)⟩
end Go.Proofs.Ytdkemfimhdjdiaa
