/- tape.caught: the deferred call of Read, in each mode. -/
import Derived.Test.YtcminppmmhinjaaReaderC
import Derived.Defers
import Derived.Recover
import Derived.Lib.Builder
namespace Go.Proofs.Ytcminppmmhinjaa
set_option linter.unusedSimpArgs false
set_option linter.unusedVariables false
open Go Go.RowKit
theorem wpS_rec_none {P : Program} {Q : Exit → Act → List Frame → World → Prop} {d e ty ty' id : Nat} {pos pos' : String} {af af' : Array Edge} {a : Act} {cs : List Frame} {w : World}
    (hrec : recoverD cs = none) (hd : d < a.tmps.size) (h : Q .normal { tmps := (a.tmps.setIfInBounds d .nilIface).setIfInBounds e .nilIface, defers := a.defers } cs w) :
    (Code.region id #[{ dst := some d, op := .call { callee := .builtin .recover, args := #[], argTypes := #[] }, type := ty, pos := pos, after := af, guard := none }, { dst := some e, op := .assign (.tmp d), type := ty', pos := pos', after := af', guard := none }] false).wpS P Q a cs w := by
  apply wpS_region
  simp [wpOpsS, go_sem, hrec]
  simpa [hd] using h
theorem wpS_rec_some {P : Program} {Q : Exit → Act → List Frame → World → Prop} {d e ty ty' id : Nat} {pos pos' : String} {af af' : Array Edge} {a : Act} {cs cs' : List Frame} {w : World} {v : Value}
    (hrec : recoverD cs = some (v, cs')) (hd : d < a.tmps.size) (h : Q .normal { tmps := (a.tmps.setIfInBounds d v).setIfInBounds e v, defers := a.defers } cs' w) :
    (Code.region id #[{ dst := some d, op := .call { callee := .builtin .recover, args := #[], argTypes := #[] }, type := ty, pos := pos, after := af, guard := none }, { dst := some e, op := .assign (.tmp d), type := ty', pos := pos', after := af', guard := none }] false).wpS P Q a cs w := by
  apply wpS_region
  simp [wpOpsS, go_sem, hrec]
  simpa [hd] using h
theorem recoverD_back {c₀ : Frame} {cs : List Frame} (hu : c₀.mode = .returning) : recoverD (c₀ :: cs) = none := by simp [recoverD, hu]
theorem recoverD_panic {c₀ : Frame} {cs : List Frame} {v : Value} {older : List PanicEntry} (hu : c₀.mode = .panicking ({ v := v, recovered := false } :: older)) :
    recoverD (c₀ :: cs) = some (v, { c₀ with mode := .panicking ({ v := v, recovered := true } :: older) } :: cs) := by simp [recoverD, hu]

theorem caught_back (w : World) (r p : Nat) (h : RdAny w r) :
    CallsD Try.prog 140 #[.pointer (some ⟨r, 0, none⟩), .pointer (some ⟨p, 0, none⟩)] .returning w fun e u w' => e = .returned (.tuple #[]) ∧ u = .returning ∧ w.setCell ⟨r, 1, none⟩ (.bool true) = w' := by
  obtain ⟨a, n, c, hb⟩ := h
  have h1 := hb.cell 1
  have f1 := hb.free 1
  clear hb
  refine callsD_of_wpS Try.func140 rfl fun c₀ cs hu => ?_
  simp only [Try.ntmps140, List.size_toArray, List.length_cons, List.length_nil, Nat.reduceAdd, Nat.reduceSub, Array.replicate_succ,
     Array.replicate_zero, List.push_toArray, List.append_toArray, List.nil_append, List.cons_append]
  apply wpS_seq
  refine wpS_of_wp ?_
  go_wp2
  simp only [Exit.thenS]
  apply wpS_seq
  refine wpS_rec_none (recoverD_back hu) (by simp) ?_
  simp only [Exit.thenS]
  refine wpS_of_wp ?_
  simp only [List.setIfInBounds_toArray, List.set_cons_zero, List.set_cons_succ]
  go_wp2
  cases c₀
  simp_all [bodyPostS, results, Try.results140]
theorem rd_size : (Try.prog.info? 200).map (·.size) = some 2 := by kernel_rfl
theorem rd_info : ∃ j, Try.prog.info? 200 = some j ∧ j.size ≠ 0 := by
  have h := rd_size
  cases q : Try.prog.info? 200 with
  | none => rw [q] at h; cases h
  | some j => rw [q] at h; injection h with h; exact ⟨j, rfl, by have h2 : j.size = 2 := h; omega⟩
theorem neq_same (w : World) (a : Addr) : (binOp .neq 126 (.pointer (some a)) (.pointer (some a))).run Try.prog w = .ok (.bool false) w := let ⟨_, h, _⟩ := rd_info; Lib.run_neq_ptr_same w a Try.underlying126 h
theorem neq_other (w : World) {a b : Addr} {ca cb : Array Value} {ta tb : TypeId} (hne : a ≠ b) (ha : w.heap[a.block]? = some (.cells ca ta (0, 0))) (hb : w.heap[b.block]? = some (.cells cb tb (0, 0))) :
    (binOp .neq 126 (.pointer (some a)) (.pointer (some b))).run Try.prog w = .ok (.bool true) w := by
  obtain ⟨j, hj, hz⟩ := rd_info
  have h : ∀ d : Nat, (Op.equalIn (d + 1) 126 (.pointer (some a)) (.pointer (some b))).run Try.prog w = .ok false w := fun d => by
    simp [Op.equalIn, run_underlying Try.underlying126, sizeOf, typeInfo, hj, hz, run_sameAddr_other w hne ha hb]
  simp only [binOp]
  simp [Op.equal, Op.maxDepth, h 9999]
theorem ta_own (w : World) (v : Value) : (Instr.typeAssert (.iface 239 v) 20 239 true).run Try.prog w = .ok (.tuple #[v, .bool true]) w := by kernel_rfl
theorem ta_word (w : World) (v : Value) : (Instr.typeAssert (.iface 9 v) 20 239 true).run Try.prog w = .ok (.tuple #[.agg #[.pointer none, .int .i64 0], .bool false]) w := by kernel_rfl
set_option maxRecDepth 20000 in
theorem caught_own (w : World) (r p : Nat) (x e : Int) (older : List PanicEntry) (h : RdAny w r) (hp : Blk w p [.int .i64 x]) (hpr : p ≠ r) :
    CallsD Try.prog 140 #[.pointer (some ⟨r, 0, none⟩), .pointer (some ⟨p, 0, none⟩)] (.panicking ({ v := failV r e, recovered := false } :: older)) w fun en u w' =>
      en = .returned (.tuple #[]) ∧ u = .panicking ({ v := failV r e, recovered := true } :: older) ∧ ((w.setCell ⟨r, 1, none⟩ (.bool true)).setCell ⟨p, 0, none⟩ (.int .i64 e)).alloc (.cells #[.pointer (some ⟨r, 0, none⟩), .int .i64 e] 239) = w' := by
  obtain ⟨a, n, c, hb⟩ := h
  have h1 := hb.cell 1
  have f1 := hb.free 1
  have g1 := hp.cell 0
  have g2 := hp.free 0
  have hpl := hp.lt
  clear hb hp
  refine callsD_of_wpS Try.func140 rfl fun c₀ cs hu => ?_
  simp only [Try.ntmps140, List.size_toArray, List.length_cons, List.length_nil, Nat.reduceAdd, Nat.reduceSub, Array.replicate_succ,
     Array.replicate_zero, List.push_toArray, List.append_toArray, List.nil_append, List.cons_append]
  apply wpS_seq
  refine wpS_of_wp ?_
  go_wp2
  simp only [Exit.thenS]
  apply wpS_seq
  refine wpS_rec_some (recoverD_panic hu) (by simp) ?_
  simp only [Exit.thenS]
  refine wpS_of_wp ?_
  simp only [List.setIfInBounds_toArray, List.set_cons_zero, List.set_cons_succ]
  have hta := ta_own (w.setCell ⟨r, 1, none⟩ (.bool true)) (.agg #[.pointer (some ⟨r, 0, none⟩), .int .i64 e])
  have hv : failV r e = .iface 239 (.agg #[.pointer (some ⟨r, 0, none⟩), .int .i64 e]) := rfl
  have heq := neq_same (((w.setCell ⟨r, 1, none⟩ (.bool true)).alloc (.cells #[.pointer (some ⟨r, 0, none⟩), .int .i64 e] 239))) ⟨r, 0, none⟩
  rw [hv]
  clear hv

  go_wp2

  cases c₀
  simp_all [bodyPostS, results, Try.results140]
set_option maxRecDepth 20000 in
theorem caught_word (w : World) (r p : Nat) (x : Value) (older : List PanicEntry) (h : RdAny w r) :
    CallsD Try.prog 140 #[.pointer (some ⟨r, 0, none⟩), .pointer (some ⟨p, 0, none⟩)] (.panicking ({ v := .iface 9 x, recovered := false } :: older)) w fun en u w' =>
      en = .panicked [{ v := .iface 9 x, recovered := false }] ∧ u = .panicking ({ v := .iface 9 x, recovered := true } :: older) ∧ (w.setCell ⟨r, 1, none⟩ (.bool true)).alloc (.cells #[.pointer none, .int .i64 0] 239) = w' := by
  obtain ⟨a, n, c, hb⟩ := h
  have h1 := hb.cell 1
  have f1 := hb.free 1
  clear hb
  refine callsD_of_wpS Try.func140 rfl fun c₀ cs hu => ?_
  simp only [Try.ntmps140, List.size_toArray, List.length_cons, List.length_nil, Nat.reduceAdd, Nat.reduceSub, Array.replicate_succ,
     Array.replicate_zero, List.push_toArray, List.append_toArray, List.nil_append, List.cons_append]
  apply wpS_seq
  refine wpS_of_wp ?_
  go_wp2
  simp only [Exit.thenS]
  apply wpS_seq
  refine wpS_rec_some (recoverD_panic hu) (by simp) ?_
  simp only [Exit.thenS]
  refine wpS_of_wp ?_
  simp only [List.setIfInBounds_toArray, List.set_cons_zero, List.set_cons_succ]
  have hta := ta_word (w.setCell ⟨r, 1, none⟩ (.bool true)) x
  go_wp2
  cases c₀
  simp_all [bodyPostS, results, Try.results140]
set_option maxRecDepth 20000 in
theorem caught_other (w : World) (r p r' : Nat) (e : Int) (older : List PanicEntry) (h : RdAny w r) (hr' : ∃ vs, Blk w r' vs) (hne : r' ≠ r) :
    CallsD Try.prog 140 #[.pointer (some ⟨r, 0, none⟩), .pointer (some ⟨p, 0, none⟩)] (.panicking ({ v := failV r' e, recovered := false } :: older)) w fun en u w' =>
      en = .panicked [{ v := failV r' e, recovered := false }] ∧ u = .panicking ({ v := failV r' e, recovered := true } :: older) ∧ (w.setCell ⟨r, 1, none⟩ (.bool true)).alloc (.cells #[.pointer (some ⟨r', 0, none⟩), .int .i64 e] 239) = w' := by
  obtain ⟨a, n, c, hb⟩ := h
  have h1 := hb.cell 1
  have f1 := hb.free 1
  have heq : (binOp .neq 126 (.pointer (some ⟨r', 0, none⟩)) (.pointer (some ⟨r, 0, none⟩))).run Try.prog ((w.setCell ⟨r, 1, none⟩ (.bool true)).alloc (.cells #[.pointer (some ⟨r', 0, none⟩), .int .i64 e] 239)) = .ok (.bool true) ((w.setCell ⟨r, 1, none⟩ (.bool true)).alloc (.cells #[.pointer (some ⟨r', 0, none⟩), .int .i64 e] 239)) := by
    obtain ⟨vs, hv⟩ := hr'
    obtain ⟨t1, q1⟩ := (hb.set 1 (.bool true)).ext (Ext.new _ (.cells #[.pointer (some ⟨r', 0, none⟩), .int .i64 e] 239))
    obtain ⟨t2, q2⟩ := (hv.set_other (p := ⟨r, 1, none⟩) (fun q => hne q.symm) (.bool true)).ext (Ext.new _ (.cells #[.pointer (some ⟨r', 0, none⟩), .int .i64 e] 239))
    exact neq_other _ (by intro q; injection q with q; exact hne q) q2 q1
  clear hb
  refine callsD_of_wpS Try.func140 rfl fun c₀ cs hu => ?_
  simp only [Try.ntmps140, List.size_toArray, List.length_cons, List.length_nil, Nat.reduceAdd, Nat.reduceSub, Array.replicate_succ,
     Array.replicate_zero, List.push_toArray, List.append_toArray, List.nil_append, List.cons_append]
  apply wpS_seq
  refine wpS_of_wp ?_
  go_wp2
  simp only [Exit.thenS]
  apply wpS_seq
  refine wpS_rec_some (recoverD_panic hu) (by simp) ?_
  simp only [Exit.thenS]
  refine wpS_of_wp ?_
  simp only [List.setIfInBounds_toArray, List.set_cons_zero, List.set_cons_succ]
  have hta := ta_own (w.setCell ⟨r, 1, none⟩ (.bool true)) (.agg #[.pointer (some ⟨r', 0, none⟩), .int .i64 e])
  have hv : failV r' e = .iface 239 (.agg #[.pointer (some ⟨r', 0, none⟩), .int .i64 e]) := rfl
  rw [hv]
  clear hv
  go_wp2
  cases c₀
  simp_all [bodyPostS, results, Try.results140]
end Go.Proofs.Ytcminppmmhinjaa
